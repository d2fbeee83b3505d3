/- Small laws of rows of transactions. -/
import Derived.Test.YtacbibflhdmcoaaDoorTxPut
import Derived.Laws.CopyRow
import Derived.Laws.IdiomCopy
import Derived.Laws.CopyOwn
import Derived.Laws.ResultCell
namespace Go.Proofs.YtacbibflhdmcoaaDoor.T7
open Go.RowKit Go.Deep
set_option linter.unusedVariables false
set_option linter.unusedSimpArgs false
set_option maxRecDepth 100000
attribute [local go_sem ↓] Go.wp_at_zero Go.wp_at_succ

theorem info_u8 : (Tryd.prog.info? 5).map (·.size) = some 1 := by kernel_rfl
theorem size_hash : (Tryd.prog.info? 54).map (·.size) = some 32 := by kernel_rfl
theorem zero_hash : (Tryd.prog.info? 54).map (·.zero) = some (some (.agg (bytesArr (List.replicate 32 0)))) := by kernel_rfl
theorem _root_.Go.Proofs.YtacbibflhdmcoaaDoor.Kp.setRow7 {S : Nat → Prop} {a w : World} (h : Kp S a w) {g : Nat} (hg : g < a.heap.size → S g) (cs : Array Value) : Kp S a (w.setRow g cs) :=
  ⟨h.os, h.tape, h.output, by simpa [World.setRow] using h.size, fun i hi hn => by
    have hne : i ≠ g := fun e => hn (by rw [e]; exact hg (by omega))
    rw [World.setRow]
    simp only [Array.getElem?_modify, Ne.symm hne, if_false]
    exact h.block i hi hn⟩
/-- bytes copied into a row of bytes -/
theorem copy_row_bytes (t : Nat) (W : World) (g o dLen sLen B k : Nat) (A : Option Addr) (row src : List UInt8) (hb : Bk W g t (bytesArr row)) (hs : BytesAt W B A src) (hl : src.length = sLen) (hk : k = min sLen dLen) (hfit : o + k ≤ row.length) :
    ∃ W2, (∀ ty dCap sCap, (Builtin.copy_ #[89, 89] ty #[.slice (some ⟨g, o, none⟩) dLen dCap, .slice A sLen sCap]).run Tryd.prog W = .ok (goInt k) W2) ∧
      Bk W2 g t (bytesArr (row.take o ++ src.take k ++ row.drop (o + k))) ∧ Kp (fun i => i = g) W W2 := by
  subst hl
  rcases Nat.eq_zero_or_pos k with h0 | h0
  · refine ⟨W, fun ty dCap sCap => ?_, ?_, Kp.refl _ _⟩
    · rw [h0]; exact run_copy_none W _ _ ty 5 _ _ dLen dCap src.length sCap Tryd.underlying89 info_u8 (by rw [← h0, hk])
    · rw [h0]; simpa using hb
  · obtain ⟨q, off, rfl, _, _⟩ := hs.cell (i := 0) (by omega)
    have hlk : (src.take k).length = k := by rw [List.length_take]; omega
    have hcl : ((src.take k).map byteV).length = k := by rw [List.length_map, hlk]
    have hsrc := BytesAt.src (BytesAt.take hs k)
    have hrun := fun ty dCap sCap => run_copy_row (P := Tryd.prog) W 89 89 ty 5 g o dLen dCap ⟨q, off, none⟩ src.length sCap (bytesArr row) t ((src.take k).map byteV)
      Tryd.underlying89 info_u8 hb (by rw [hcl, hk]) (fun j v hj => by obtain ⟨ad, ha, hc⟩ := hsrc j v hj; cases ha; exact hc) (by rw [hcl]; simpa [bytesArr] using hfit) (oneCell_bytes _)
    have hrow : ((bytesArr row).toList.take o ++ (src.take k).map byteV ++ (bytesArr row).toList.drop (o + k)).toArray = bytesArr (row.take o ++ src.take k ++ row.drop (o + k)) := by
      simp [bytesArr, List.map_take, List.map_drop]
    rw [hcl, hrow] at hrun
    exact ⟨_, hrun, setRow_heap _ _ _ _ _ _ hb, Kp.setRow7 (S := fun i => i = g) (Kp.refl _ _) (fun _ => rfl) _⟩
theorem in_info : (Tryd.prog.info? 91).map (fun i => (i.zero, i.size, i.bytes)) = some (some (.agg (inCells ⟨List.replicate 32 0, 0, []⟩ (.slice none 0 0)).toArray), 34, 64) := by kernel_rfl
theorem out_info : (Tryd.prog.info? 94).map (fun i => (i.zero, i.size, i.bytes)) = some (some (.agg (outCells ⟨0, List.replicate 32 0⟩).toArray), 33, 40) := by kernel_rfl
def txCells (v : Nat) (i o : Value) : Array Value := #[.int .u32 (v : Int), i, o]
theorem results_row_tmp {P : Program} {fn : Func} {p u : Tmp} {ty : TypeId} (h : fn.results = #[.cell p ty, .tmp u]) (tmps : Array Value) (w : World) (g : Nat) (t : TypeId) (cs : Array Value) (fr : Nat × Nat) (d : TypeDesc)
    (hp : tmps.getD p undef = .pointer (some ⟨g, 0, none⟩)) (hg : w.heap[g]? = some (.cells cs t fr))
    (hu : P.underlying ty = some d) (hd : (match d with | .struct _ | .array _ _ => true | _ => false) = true) (hi : (P.info? ty).map (·.size) = some cs.size) (v : Value) (hv : tmps.getD u undef = v) :
    (results fn tmps).run P w = .ok (.tuple #[.agg cs, v]) w := by
  rw [results_cell_tmp h, hp]
  simp [asAddr, run_loadVar_row w g t ty cs fr d hg hu hd hi, Result.andThen, ← hv]
theorem results_row_tmp2 {P : Program} {fn : Func} {p u x : Tmp} {ty : TypeId} (h : fn.results = #[.cell p ty, .tmp u, .tmp x]) (tmps : Array Value) (w : World) (g : Nat) (t : TypeId) (cs : Array Value) (fr : Nat × Nat) (d : TypeDesc)
    (hp : tmps.getD p undef = .pointer (some ⟨g, 0, none⟩)) (hg : w.heap[g]? = some (.cells cs t fr))
    (hu : P.underlying ty = some d) (hd : (match d with | .struct _ | .array _ _ => true | _ => false) = true) (hi : (P.info? ty).map (·.size) = some cs.size) (v : Value) (hv : tmps.getD u undef = v) (v2 : Value) (hv2 : tmps.getD x undef = v2) :
    (results fn tmps).run P w = .ok (.tuple #[.agg cs, v, v2]) w := by
  have e : (results fn tmps).run P w = ((asAddr (tmps.getD p undef)).run P w).andThen fun a w₁ => ((loadVar ty a).run P w₁).andThen fun v w₂ => .ok (.tuple #[v, tmps.getD u undef, tmps.getD x undef]) w₂ := by
    simp only [results, h]
    simp [Sem.run_bind, Result.andThen]
  rw [e, hp]
  simp [asAddr, run_loadVar_row w g t ty cs fr d hg hu hd hi, Result.andThen, ← hv, ← hv2]
theorem size_tx : (Tryd.prog.info? 35).map (·.size) = some 3 := by kernel_rfl
theorem kp_cell1 (w : World) (g o : Nat) (v : Value) : Kp (fun i => i = g) w (w.setCell ⟨g, o, none⟩ v) := (Kp.refl (fun i => i = g) w).setCell (p := ⟨g, o, none⟩) (fun _ => rfl) v
theorem own_lt {w : World} {base : Nat} {e : TypeId} {size : Nat} {v : Value} {n : Nat} {xs : List Value} (h : w.ownsRow base e size v n xs) : ∀ i, v.ownBlock = some i → base ≤ i ∧ i < w.heap.size := fun i hi => h.lt i hi
end Go.Proofs.YtacbibflhdmcoaaDoor.T7
