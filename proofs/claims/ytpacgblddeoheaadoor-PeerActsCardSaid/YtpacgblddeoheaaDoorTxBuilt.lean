/- Struct literals of hashes, points, inputs and outputs. -/
import Derived.Test.YtpacgblddeoheaaDoorTxPtsP
import Derived.Great.BuildSlice
import Derived.Test.YtpacgblddeoheaaDoorOrders
import Derived.Laws.Tables
namespace Go.Proofs.YtpacgblddeoheaaDoor.T7
open Go.RowKit Go.Deep
set_option linter.unusedVariables false
set_option linter.unusedSimpArgs false
set_option maxRecDepth 100000
/-- 32 bytes, one by one -/
theorem list32 {P : List UInt8 → Prop} (hP : ∀ b0 b1 b2 b3 b4 b5 b6 b7 b8 b9 b10 b11 b12 b13 b14 b15 b16 b17 b18 b19 b20 b21 b22 b23 b24 b25 b26 b27 b28 b29 b30 b31, P [b0, b1, b2, b3, b4, b5, b6, b7, b8, b9, b10, b11, b12, b13, b14, b15, b16, b17, b18, b19, b20, b21, b22, b23, b24, b25, b26, b27, b28, b29, b30, b31]) (l : List UInt8) (h : l.length = 32) : P l := by
  match l, h with
  | [b0, b1, b2, b3, b4, b5, b6, b7, b8, b9, b10, b11, b12, b13, b14, b15, b16, b17, b18, b19, b20, b21, b22, b23, b24, b25, b26, b27, b28, b29, b30, b31], _ => exact hP b0 b1 b2 b3 b4 b5 b6 b7 b8 b9 b10 b11 b12 b13 b14 b15 b16 b17 b18 b19 b20 b21 b22 b23 b24 b25 b26 b27 b28 b29 b30 b31
theorem built_pt7 (x : Txs.In) (h : x.hash.length = 32) : Tryd.prog.built 95 [(0, .agg (bytesArr x.hash)), (1, .int .u32 (x.n : Int))] = some (ptCells x).toArray := by
  obtain ⟨hash, n, key⟩ := x
  exact list32 (P := fun hash => Tryd.prog.built 95 [(0, .agg (bytesArr hash)), (1, .int .u32 (n : Int))] = some (ptCells ⟨hash, n, key⟩).toArray) (fun b0 b1 b2 b3 b4 b5 b6 b7 b8 b9 b10 b11 b12 b13 b14 b15 b16 b17 b18 b19 b20 b21 b22 b23 b24 b25 b26 b27 b28 b29 b30 b31 => by kernel_rfl) hash h
theorem built_in7 (x : Txs.In) (A : Option Addr) (m c : Nat) (h : x.hash.length = 32) : Tryd.prog.built 97 [(0, .agg (ptCells x).toArray), (1, .slice A m c)] = some (inCells x (.slice A m c)).toArray := by
  obtain ⟨hash, n, key⟩ := x
  exact list32 (P := fun hash => Tryd.prog.built 97 [(0, .agg (ptCells ⟨hash, n, key⟩).toArray), (1, .slice A m c)] = some (inCells ⟨hash, n, key⟩ (.slice A m c)).toArray) (fun b0 b1 b2 b3 b4 b5 b6 b7 b8 b9 b10 b11 b12 b13 b14 b15 b16 b17 b18 b19 b20 b21 b22 b23 b24 b25 b26 b27 b28 b29 b30 b31 => by kernel_rfl) hash h
theorem built_out7 (x : Txs.Out) (h : x.lock.length = 32) : Tryd.prog.built 158 [(0, .int .u64 (x.value : Int)), (1, .agg (bytesArr x.lock))] = some (outCells x).toArray := by
  obtain ⟨value, lock⟩ := x
  exact list32 (P := fun lock => Tryd.prog.built 158 [(0, .int .u64 (value : Int)), (1, .agg (bytesArr lock))] = some (outCells ⟨value, lock⟩).toArray) (fun b0 b1 b2 b3 b4 b5 b6 b7 b8 b9 b10 b11 b12 b13 b14 b15 b16 b17 b18 b19 b20 b21 b22 b23 b24 b25 b26 b27 b28 b29 b30 b31 => by kernel_rfl) lock h
section
variable {P : Program} {ops : Array Oper}
theorem yieldsIf_build {S : World → Prop} {o : Oper} {a : Act} (hw : Region.wanted o (yielded ops a.tmps) = true) (t : TypeId) (parts : Array (Nat × Operand)) (ho : o.op = .build t parts)
    (cells : Array Value) (hf : P.built t (parts.map fun (i, x) => (i, a.eval x)).toList = some cells) : YieldsIf P ops S o (.agg cells) a :=
  Or.inl ⟨hw, fun w _ => by
    unfold execOp
    simp only [ho, Sem.run_bind, run_build w t _ cells hf, Result.andThen_ok, Sem.run_pure]⟩
/-- a slice literal of one struct -/
theorem wp_buildOne {o : Oper} {a : Act} {w : World} {K : Act → World → Prop} {Q : Exit → Act → World → Prop} (t e : TypeId) (x : Operand) (ho : o.op = .buildSlice t 1 #[(0, x)])
    (cells : Array Value) (hx : a.eval x = .agg cells) (hu : P.underlying t = some (.slice e)) (hi : (P.info? e).map (·.size) = some cells.size) (zs : Array Value) (hz : (P.info? e).map (·.zero) = some (some (.agg zs))) (hpos : 0 < cells.size) (hsmall : cells.size ≤ 1000)
    (h : K (a.put o.dst (.slice (some ⟨w.heap.size, 0, none⟩) 1 1)) (w.alloc (.cells cells e))) : o.wp P a w K Q := by
  obtain ⟨ie, hie, hsz⟩ := Option.map_eq_some_iff.1 hi
  have hzz : ie.zero = some (.agg zs) := by rw [hie] at hz; simpa using hz
  refine wp_buildSlice t e 1 #[(0, x)] ho cells ie (.agg zs) hu hie hzz (by rw [hsz]; omega) (by rw [hsz]; omega) ?_ h
  have := Great.fill_whole (s := cells.size) hpos [.agg cells] ((Array.range (1 * cells.size)).map ((Value.agg zs).cells[· % (Value.agg zs).cells.size]!)) (by simp [Value.cells]) (by simp)
  rw [hsz]
  simpa [hx, Value.cells] using this
theorem step_buildOne {o : Oper} {a : Act} {w : World} {K : Act → World → Prop} {Q : Exit → Act → World → Prop} {E : Prop} (hw : Region.wanted o (yielded ops a.tmps) = true) (t e : TypeId) (x : Operand) (ho : o.op = .buildSlice t 1 #[(0, x)])
    (cells : Array Value) (hx : a.eval x = .agg cells) (hu : P.underlying t = some (.slice e)) (hi : (P.info? e).map (·.size) = some cells.size) (zs : Array Value) (hz : (P.info? e).map (·.zero) = some (some (.agg zs))) (hpos : 0 < cells.size) (hsmall : cells.size ≤ 1000)
    (h : K (a.put o.dst (.slice (some ⟨w.heap.size, 0, none⟩) 1 1)) (w.alloc (.cells cells e))) : if Region.wanted o (yielded ops a.tmps) = true then Oper.wp P o a w K Q else E := by
  rw [if_pos hw]
  exact wp_buildOne t e x ho cells hx hu hi zs hz hpos hsmall h
end
end Go.Proofs.YtpacgblddeoheaaDoor.T7
