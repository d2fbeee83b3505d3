/- Package tx: points and outputs against one another. -/
import Derived.Test.YtacbibflhdmcoaaDoorTxRows
import Derived.Stop.BytesEq
import Derived.ChangeKeysEq
namespace Go.Proofs.YtacbibflhdmcoaaDoor.T7
open Go.RowKit Go.Deep
set_option linter.unusedVariables false
set_option linter.unusedSimpArgs false
set_option maxRecDepth 100000

/-- a point -/
structure Pt where
  h : List UInt8
  n : Nat
  len : h.length = 32
def Pt.cells (p : Pt) : List Value := p.h.map byteV ++ [.int .u32 (p.n : Int)]
def Pt.arr (p : Pt) : Array Value := p.cells.toArray
def Pt.ne (p q : Pt) : Bool := !(decide (p.h = q.h) && decide (p.n = q.n))
/-- an output -/
structure Ot where
  x : Txs.Out
  len : x.lock.length = 32
def Ot.cells (p : Ot) : List Value := outCells p.x
def Ot.arr (p : Ot) : Array Value := p.cells.toArray
def Ot.ne (p q : Ot) : Bool := !(decide (p.x.value = q.x.value) && decide (p.x.lock = q.x.lock))
theorem Pt.cells_len (p : Pt) : p.cells.length = 33 := by unfold Pt.cells; rw [List.length_append, List.length_map, p.len]; rfl
theorem Ot.cells_len (p : Ot) : p.cells.length = 33 := by unfold Ot.cells outCells; rw [List.length_cons, List.length_map, p.len]
theorem part_row {P : Program} (w : World) {T : TypeId} {n : Nat} {e : TypeId} (cs : Array Value) (o : Nat) (hu : P.underlying T = some (.array n e)) (hi : (P.info? T).map (·.size) = some n) :
    (part T cs o).run P w = .ok (.agg (cs.extract o (o + n))) w := by
  obtain ⟨i, hi, hs⟩ := Option.map_eq_some_iff.1 hi
  simp [part, isAgg, run_underlying hu, sizeOf, typeInfo, hi, hs, Sem.run_bind]
theorem part_cell {P : Program} (w : World) {T : TypeId} {k : IntKind} (cs : Array Value) (o : Nat) (v : Value) (hu : P.underlying T = some (.int k)) (hv : cs[o]? = some v) :
    (part T cs o).run P w = .ok v w := by
  simp [part, isAgg, run_underlying hu, Sem.run_bind, hv]
theorem cell_eq : (Extern.Stop.cell : UInt8 → Value) = byteV := rfl
theorem eqn_hash (d : Nat) (w : World) (xs ys : List UInt8) (hx : xs.length = 32) (hy : ys.length = 32) :
    (Op.equalIn (d + 2) 54 (.agg (xs.map byteV).toArray) (.agg (ys.map byteV).toArray)).run Tryd.prog w = .ok (decide (xs = ys)) w := by
  have := run_equalIn_bytes (P := Tryd.prog) w d 54 5 32 Tryd.underlying54 Tryd.underlying5 (fun w => by kernel_rfl) xs ys hx hy
  rw [cell_eq] at this
  rw [this]
  by_cases h : xs = ys
  · subst h; simp
  · rw [decide_eq_false h, beq_eq_false_iff_ne.2 h]
theorem fields_pt : Tryd.prog.underlying 78 = some (.struct (Tryd.prog.fieldsOf 78)) := by kernel_rfl
theorem fields_ot : Tryd.prog.underlying 94 = some (.struct (Tryd.prog.fieldsOf 94)) := by kernel_rfl
theorem stood_pt : Tryd.prog.stoodInHeld 78 = false := by kernel_rfl
theorem stood_ot : Tryd.prog.stoodInHeld 94 = false := by kernel_rfl
theorem pt_hash (p : Pt) : p.arr.extract 0 (0 + 32) = (p.h.map byteV).toArray := by
  unfold Pt.arr Pt.cells
  apply Array.toList_inj.1
  simp only [Array.toList_extract, List.extract_eq_take_drop, List.drop_zero, Nat.zero_add, Nat.sub_zero]
  rw [List.take_left' (by rw [List.length_map, p.len])]
theorem pt_n (p : Pt) : p.arr[32]? = some (.int .u32 (p.n : Int)) := by
  unfold Pt.arr Pt.cells
  simp only [List.getElem?_toArray]
  rw [List.getElem?_append_right (by rw [List.length_map, p.len]; omega), List.length_map, p.len]
  rfl
theorem ot_lock (p : Ot) : p.arr.extract 1 (1 + 32) = (p.x.lock.map byteV).toArray := by
  unfold Ot.arr Ot.cells outCells
  apply Array.toList_inj.1
  simp only [Array.toList_extract, List.extract_eq_take_drop, List.drop_succ_cons, List.drop_zero]
  rw [List.take_of_length_le (by rw [List.length_map, p.len]; omega)]
theorem ot_value (p : Ot) : p.arr[0]? = some (.int .u64 (p.x.value : Int)) := by
  unfold Ot.arr Ot.cells outCells; rfl
theorem eqFields2 {P : Program} {d : Nat} {xs ys : Array Value} {f g : Field} {w : World} (hf : f.name ≠ "_") (hg : g.name ≠ "_") {a a' b b' : Value} {r s : Bool}
    (h1 : (part f.type xs f.offset).run P w = .ok a w) (h2 : (part f.type ys f.offset).run P w = .ok a' w) (h3 : (Op.equalIn d f.type a a').run P w = .ok r w)
    (h4 : (part g.type xs g.offset).run P w = .ok b w) (h5 : (part g.type ys g.offset).run P w = .ok b' w) (h6 : (Op.equalIn d g.type b b').run P w = .ok s w) :
    (Op.eqFields d xs ys [f, g]).run P w = .ok (r && s) w := by
  simp only [Op.eqFields, if_pos hf, if_pos hg, Sem.run_bind, h1, h2, h3, h4, h5, h6, Result.andThen_ok]
  cases r <;> cases s <;> simp [Sem.run_bind, h1, h2, h3, h4, h5, h6]
theorem eq_pt (d : Nat) (w : World) (p q : Pt) : (Op.equalIn (d + 2 + 1) 78 (.agg p.arr) (.agg q.arr)).run Tryd.prog w = .ok (!p.ne q) w := by
  rw [run_equalIn_agg w (d + 2) 78 _ _ fields_pt stood_pt]
  simp only [Program.fieldsOf, Tryd.underlying78]
  refine (eqFields2 (by decide) (by decide) (part_row w p.arr 0 Tryd.underlying54 size_hash) (part_row w q.arr 0 Tryd.underlying54 size_hash) (r := decide (p.h = q.h)) ?_
    (part_cell w p.arr 32 _ Tryd.underlying31 (pt_n p)) (part_cell w q.arr 32 _ Tryd.underlying31 (pt_n q)) (s := decide (p.n = q.n)) ?_).trans ?_
  · rw [pt_hash, pt_hash]; exact eqn_hash d w p.h q.h p.len q.len
  · rw [run_equalIn_int w (d + 1) 31 .u32 .u32 _ _ Tryd.underlying31]
    congr 1
    by_cases h : p.n = q.n
    · simp [h]
    · rw [decide_eq_false h, beq_eq_false_iff_ne]; omega
  · unfold Pt.ne; simp
theorem eq_ot (d : Nat) (w : World) (p q : Ot) : (Op.equalIn (d + 2 + 1) 94 (.agg p.arr) (.agg q.arr)).run Tryd.prog w = .ok (!p.ne q) w := by
  rw [run_equalIn_agg w (d + 2) 94 _ _ fields_ot stood_ot]
  simp only [Program.fieldsOf, Tryd.underlying94]
  refine (eqFields2 (by decide) (by decide) (part_cell w p.arr 0 _ Tryd.underlying37 (ot_value p)) (part_cell w q.arr 0 _ Tryd.underlying37 (ot_value q)) (r := decide (p.x.value = q.x.value)) ?_
    (part_row w p.arr 1 Tryd.underlying54 size_hash) (part_row w q.arr 1 Tryd.underlying54 size_hash) (s := decide (p.x.lock = q.x.lock)) ?_).trans ?_
  · rw [run_equalIn_int w (d + 1) 37 .u64 .u64 _ _ Tryd.underlying37]
    congr 1
    by_cases h : p.x.value = q.x.value
    · simp [h]
    · rw [decide_eq_false h, beq_eq_false_iff_ne]; omega
  · rw [ot_lock, ot_lock]; exact eqn_hash d w p.x.lock q.x.lock p.len q.len
  · unfold Ot.ne; simp
theorem ten : (10000 : Nat) = 9997 + 2 + 1 := rfl
theorem run_ne_pt (w : World) (p q : Pt) : (binOp .neq 78 (.agg p.arr) (.agg q.arr)).run Tryd.prog w = .ok (.bool (p.ne q)) w := by
  rw [run_neq_struct, ten, eq_pt]
  simp
theorem run_ne_ot (w : World) (p q : Ot) : (binOp .neq 94 (.agg p.arr) (.agg q.arr)).run Tryd.prog w = .ok (.bool (p.ne q)) w := by
  rw [run_neq_struct, ten, eq_ot]
  simp
end Go.Proofs.YtacbibflhdmcoaaDoor.T7
