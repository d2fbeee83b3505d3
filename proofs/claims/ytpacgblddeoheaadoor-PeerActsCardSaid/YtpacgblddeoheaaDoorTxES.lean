/- TxES, merged: TxEq, TxSame. -/
import Derived.Test.YtpacgblddeoheaaDoorTxBR
import Derived.Stop.BytesEq
import Derived.ChangeKeysEq
/- Package tx: points and outputs against one another. -/
namespace Go.Proofs.YtpacgblddeoheaaDoor.T7
open Go.RowKit Go.Deep
set_option linter.unusedVariables false
set_option linter.unusedSimpArgs false
set_option maxRecDepth 100000

/-- a point -/
structure Pt where
  h : List UInt8
  n : Nat
  len : h.length = 32
def Pt.cells (p : Pt) : List Value := p.h.map byteV ++ [.int .u32 (p.n : Int)]
def Pt.arr (p : Pt) : Array Value := p.cells.toArray
def Pt.ne (p q : Pt) : Bool := !(decide (p.h = q.h) && decide (p.n = q.n))
/-- an output -/
structure Ot where
  x : Txs.Out
  len : x.lock.length = 32
def Ot.cells (p : Ot) : List Value := outCells p.x
def Ot.arr (p : Ot) : Array Value := p.cells.toArray
def Ot.ne (p q : Ot) : Bool := !(decide (p.x.value = q.x.value) && decide (p.x.lock = q.x.lock))
theorem Pt.cells_len (p : Pt) : p.cells.length = 33 := by unfold Pt.cells; rw [List.length_append, List.length_map, p.len]; rfl
theorem Ot.cells_len (p : Ot) : p.cells.length = 33 := by unfold Ot.cells outCells; rw [List.length_cons, List.length_map, p.len]
theorem part_row {P : Program} (w : World) {T : TypeId} {n : Nat} {e : TypeId} (cs : Array Value) (o : Nat) (hu : P.underlying T = some (.array n e)) (hi : (P.info? T).map (·.size) = some n) :
    (part T cs o).run P w = .ok (.agg (cs.extract o (o + n))) w := by
  obtain ⟨i, hi, hs⟩ := Option.map_eq_some_iff.1 hi
  simp [part, isAgg, run_underlying hu, sizeOf, typeInfo, hi, hs, Sem.run_bind]
theorem part_cell {P : Program} (w : World) {T : TypeId} {k : IntKind} (cs : Array Value) (o : Nat) (v : Value) (hu : P.underlying T = some (.int k)) (hv : cs[o]? = some v) :
    (part T cs o).run P w = .ok v w := by
  simp [part, isAgg, run_underlying hu, Sem.run_bind, hv]
theorem cell_eq : (Extern.Stop.cell : UInt8 → Value) = byteV := rfl
theorem eqn_hash (d : Nat) (w : World) (xs ys : List UInt8) (hx : xs.length = 32) (hy : ys.length = 32) :
    (Op.equalIn (d + 2) 93 (.agg (xs.map byteV).toArray) (.agg (ys.map byteV).toArray)).run Tryd.prog w = .ok (decide (xs = ys)) w := by
  have := run_equalIn_bytes (P := Tryd.prog) w d 93 5 32 Tryd.underlying93 Tryd.underlying5 (fun w => by kernel_rfl) xs ys hx hy
  rw [cell_eq] at this
  rw [this]
  by_cases h : xs = ys
  · subst h; simp
  · rw [decide_eq_false h, beq_eq_false_iff_ne.2 h]
theorem fields_pt : Tryd.prog.underlying 95 = some (.struct (Tryd.prog.fieldsOf 95)) := by kernel_rfl
theorem fields_ot : Tryd.prog.underlying 158 = some (.struct (Tryd.prog.fieldsOf 158)) := by kernel_rfl
theorem stood_pt : Tryd.prog.stoodInHeld 95 = false := by kernel_rfl
theorem stood_ot : Tryd.prog.stoodInHeld 158 = false := by kernel_rfl
theorem pt_hash (p : Pt) : p.arr.extract 0 (0 + 32) = (p.h.map byteV).toArray := by
  unfold Pt.arr Pt.cells
  apply Array.toList_inj.1
  simp only [Array.toList_extract, List.extract_eq_take_drop, List.drop_zero, Nat.zero_add, Nat.sub_zero]
  rw [List.take_left' (by rw [List.length_map, p.len])]
theorem pt_n (p : Pt) : p.arr[32]? = some (.int .u32 (p.n : Int)) := by
  unfold Pt.arr Pt.cells
  simp only [List.getElem?_toArray]
  rw [List.getElem?_append_right (by rw [List.length_map, p.len]; omega), List.length_map, p.len]
  rfl
theorem ot_lock (p : Ot) : p.arr.extract 1 (1 + 32) = (p.x.lock.map byteV).toArray := by
  unfold Ot.arr Ot.cells outCells
  apply Array.toList_inj.1
  simp only [Array.toList_extract, List.extract_eq_take_drop, List.drop_succ_cons, List.drop_zero]
  rw [List.take_of_length_le (by rw [List.length_map, p.len]; omega)]
theorem ot_value (p : Ot) : p.arr[0]? = some (.int .u64 (p.x.value : Int)) := by
  unfold Ot.arr Ot.cells outCells; rfl
theorem eqFields2 {P : Program} {d : Nat} {xs ys : Array Value} {f g : Field} {w : World} (hf : f.name ≠ "_") (hg : g.name ≠ "_") {a a' b b' : Value} {r s : Bool}
    (h1 : (part f.type xs f.offset).run P w = .ok a w) (h2 : (part f.type ys f.offset).run P w = .ok a' w) (h3 : (Op.equalIn d f.type a a').run P w = .ok r w)
    (h4 : (part g.type xs g.offset).run P w = .ok b w) (h5 : (part g.type ys g.offset).run P w = .ok b' w) (h6 : (Op.equalIn d g.type b b').run P w = .ok s w) :
    (Op.eqFields d xs ys [f, g]).run P w = .ok (r && s) w := by
  simp only [Op.eqFields, if_pos hf, if_pos hg, Sem.run_bind, h1, h2, h3, h4, h5, h6, Result.andThen_ok]
  cases r <;> cases s <;> simp [Sem.run_bind, h1, h2, h3, h4, h5, h6]
theorem eq_pt (d : Nat) (w : World) (p q : Pt) : (Op.equalIn (d + 2 + 1) 95 (.agg p.arr) (.agg q.arr)).run Tryd.prog w = .ok (!p.ne q) w := by
  rw [run_equalIn_agg w (d + 2) 95 _ _ fields_pt stood_pt]
  simp only [Program.fieldsOf, Tryd.underlying95]
  refine (eqFields2 (by decide) (by decide) (part_row w p.arr 0 Tryd.underlying93 size_hash) (part_row w q.arr 0 Tryd.underlying93 size_hash) (r := decide (p.h = q.h)) ?_
    (part_cell w p.arr 32 _ Tryd.underlying44 (pt_n p)) (part_cell w q.arr 32 _ Tryd.underlying44 (pt_n q)) (s := decide (p.n = q.n)) ?_).trans ?_
  · rw [pt_hash, pt_hash]; exact eqn_hash d w p.h q.h p.len q.len
  · rw [run_equalIn_int w (d + 1) 44 .u32 .u32 _ _ Tryd.underlying44]
    congr 1
    by_cases h : p.n = q.n
    · simp [h]
    · rw [decide_eq_false h, beq_eq_false_iff_ne]; omega
  · unfold Pt.ne; simp
theorem eq_ot (d : Nat) (w : World) (p q : Ot) : (Op.equalIn (d + 2 + 1) 158 (.agg p.arr) (.agg q.arr)).run Tryd.prog w = .ok (!p.ne q) w := by
  rw [run_equalIn_agg w (d + 2) 158 _ _ fields_ot stood_ot]
  simp only [Program.fieldsOf, Tryd.underlying158]
  refine (eqFields2 (by decide) (by decide) (part_cell w p.arr 0 _ Tryd.underlying27 (ot_value p)) (part_cell w q.arr 0 _ Tryd.underlying27 (ot_value q)) (r := decide (p.x.value = q.x.value)) ?_
    (part_row w p.arr 1 Tryd.underlying93 size_hash) (part_row w q.arr 1 Tryd.underlying93 size_hash) (s := decide (p.x.lock = q.x.lock)) ?_).trans ?_
  · rw [run_equalIn_int w (d + 1) 27 .u64 .u64 _ _ Tryd.underlying27]
    congr 1
    by_cases h : p.x.value = q.x.value
    · simp [h]
    · rw [decide_eq_false h, beq_eq_false_iff_ne]; omega
  · rw [ot_lock, ot_lock]; exact eqn_hash d w p.x.lock q.x.lock p.len q.len
  · unfold Ot.ne; simp
theorem ten : (10000 : Nat) = 9997 + 2 + 1 := rfl
theorem run_ne_pt (w : World) (p q : Pt) : (binOp .neq 95 (.agg p.arr) (.agg q.arr)).run Tryd.prog w = .ok (.bool (p.ne q)) w := by
  rw [run_neq_struct, ten, eq_pt]
  simp
theorem run_ne_ot (w : World) (p q : Ot) : (binOp .neq 158 (.agg p.arr) (.agg q.arr)).run Tryd.prog w = .ok (.bool (p.ne q)) w := by
  rw [run_neq_struct, ten, eq_ot]
  simp
end Go.Proofs.YtpacgblddeoheaaDoor.T7
/- The document's Same: of two transactions. -/
namespace Go.Proofs.YtpacgblddeoheaaDoor.T7
open Go.RowKit Go.Deep
set_option linter.unusedVariables false
set_option linter.unusedSimpArgs false
set_option maxRecDepth 100000
theorem run_ne_pt' (w : World) (p q : Pt) : (binOp .neq 95 (.agg p.cells.toArray) (.agg q.cells.toArray)).run Tryd.prog w = .ok (.bool (p.ne q)) w := run_ne_pt w p q
theorem run_ne_ot' (w : World) (p q : Ot) : (binOp .neq 158 (.agg p.cells.toArray) (.agg q.cells.toArray)).run Tryd.prog w = .ok (.bool (p.ne q)) w := run_ne_ot w p q
attribute [local go_sem ↓] Go.wp_at_zero Go.wp_at_succ

theorem wpQuiet_load_mid {P : Program} {ops : Array Oper} {C : World → Prop} {Q : Act → Prop} {a : Act} {o : Oper} {rest : List Oper} (hgd : o.guard = none) (ty : TypeId) (x : Operand) (ho : o.op = .load ty x)
    (b off : Nat) (hx : a.eval x = .pointer (some ⟨b, off, none⟩)) (cs : List Value) (d : TypeDesc) (hc : ∀ w, C w → w.rangeAt b off cs)
    (hu : P.underlying ty = some d) (hd : d.isRow = true) (hi : (P.info? ty).map (·.size) = some cs.length)
    (h : wpQuiet P ops C Q rest (a.put o.dst (.agg cs.toArray))) : wpQuiet P ops C Q (o :: rest) a :=
  wpQuiet_step fun K hK => by
    rw [if_pos (by simp [Region.wanted, hgd])]
    refine ⟨.agg cs.toArray, fun w hw => ?_, hK _ h⟩
    unfold Oper.quietAt execOp
    simp only [ho, hx, Instr.loadAt, Instr.sureAddr, Sem.run_bind, Sem.run_pure, Result.andThen_ok, run_loadVar_mid w b off ty cs d (hc w hw) hu hd hi]
    exact ⟨rfl, rfl⟩
theorem wpList_assign7 {P : Program} {ops : Array Oper} {rest : List Oper} {o : Oper} {a : Act} {w : World} {Q : Exit → Act → World → Prop} (hg : o.guard = none) (y : Operand) (ho : o.op = .assign y)
    (h : wpList P ops Q rest (a.put o.dst (a.eval y)) w) : wpList P ops Q (o :: rest) a w :=
  wpList_plain hg fun _ hK => by
    unfold Oper.wp execOp
    simp only [ho, Sem.run_pure]
    exact hK _ _ h
/-- a struct that lies in a row, laid into a variable of its own, its number into another: load, alloc, assign, store -/
theorem wpList_elem2 {P : Program} {ops : Array Oper} {rest : List Oper} {o1 o2 oa o3 : Oper} {a : Act} {w : World} {Q : Exit → Act → World → Prop} (g1 : o1.guard = none) (g2 : o2.guard = none) (ga : oa.guard = none) (g3 : o3.guard = none)
    (T : TypeId) (x p v y : Operand) (h1 : o1.op = .load T x) (h2 : o2.op = .alloc T) (ha : oa.op = .assign y) (h3 : o3.op = .store T p v)
    (b o : Nat) (hx : a.eval x = .pointer (some ⟨b, o, none⟩)) (cs : List Value) (d : TypeDesc) (hc : w.rangeAt b o cs)
    (hu : P.underlying T = some d) (hd : d.isRow = true) (hi : (P.info? T).map (·.size) = some cs.length) (zs : Array Value) (hz : (P.info? T).map (·.zero) = some (some (.agg zs))) (hzl : zs.size = cs.length)
    (hone : ∀ u ∈ cs, u.oneCell' = true) (z : Value) (hy : ((a.put o1.dst (.agg cs.toArray)).put o2.dst (.pointer (some ⟨w.heap.size, 0, none⟩))).eval y = z)
    (hp : (((a.put o1.dst (.agg cs.toArray)).put o2.dst (.pointer (some ⟨w.heap.size, 0, none⟩))).put oa.dst z).eval p = .pointer (some ⟨w.heap.size, 0, none⟩))
    (hv : (((a.put o1.dst (.agg cs.toArray)).put o2.dst (.pointer (some ⟨w.heap.size, 0, none⟩))).put oa.dst z).eval v = .agg cs.toArray)
    (h : wpList P ops Q rest ((((a.put o1.dst (.agg cs.toArray)).put o2.dst (.pointer (some ⟨w.heap.size, 0, none⟩))).put oa.dst z).put o3.dst undef) (w.alloc (.cells cs.toArray T))) : wpList P ops Q (o1 :: o2 :: oa :: o3 :: rest) a w := by
  subst hy
  refine wpList_load_mid g1 T x h1 b o hx cs d hc hu hd hi ?_
  refine wpList_allocOf g2 T h2 zs hz ?_
  refine wpList_assign7 ga y ha ?_
  refine wpList_store_row g3 T p v h3 w.heap.size cs.toArray hp hv T zs (heap_alloc_new w _) (by rw [hi]; simp) (by rw [hzl]; simp) (all_oneCell_toArray hone) ?_
  rw [World.setRow_alloc_new]
  exact h
theorem guard_pt : Tryd.prog.eqGuardType Tryd.prog.depth 95 = false := by kernel_rfl
theorem guard_ot : Tryd.prog.eqGuardType Tryd.prog.depth 158 = false := by kernel_rfl
theorem wpQuiet_ne_pt {ops : Array Oper} {C : World → Prop} {Q : Act → Prop} {a : Act} {o : Oper} {rest : List Oper} (hgd : o.guard = none) (x y : Operand) (b : TypeId) (ho : o.op = .binOp .neq 95 x y b)
    (p q : Pt) (hx : a.eval x = .agg p.cells.toArray) (hy : a.eval y = .agg q.cells.toArray) (r : Bool) (hr : p.ne q = r)
    (h : wpQuiet Tryd.prog ops C Q rest (a.put o.dst (.bool r))) : wpQuiet Tryd.prog ops C Q (o :: rest) a :=
  wpQuiet_step fun K hK => by
    rw [if_pos (by simp [Region.wanted, hgd])]
    refine ⟨.bool r, fun w hw => ?_, hK _ h⟩
    subst hr
    unfold Oper.quietAt execOp
    simp only [ho, hx, hy, Sem.run_bind, run_eqGuard_agg w .neq 95 x y _ _ guard_pt, Result.andThen_ok, run_ne_pt', Sem.run_pure]
    exact ⟨rfl, rfl⟩
theorem wpQuiet_ne_ot {ops : Array Oper} {C : World → Prop} {Q : Act → Prop} {a : Act} {o : Oper} {rest : List Oper} (hgd : o.guard = none) (x y : Operand) (b : TypeId) (ho : o.op = .binOp .neq 158 x y b)
    (p q : Ot) (hx : a.eval x = .agg p.cells.toArray) (hy : a.eval y = .agg q.cells.toArray) (r : Bool) (hr : p.ne q = r)
    (h : wpQuiet Tryd.prog ops C Q rest (a.put o.dst (.bool r))) : wpQuiet Tryd.prog ops C Q (o :: rest) a :=
  wpQuiet_step fun K hK => by
    rw [if_pos (by simp [Region.wanted, hgd])]
    refine ⟨.bool r, fun w hw => ?_, hK _ h⟩
    subst hr
    unfold Oper.quietAt execOp
    simp only [ho, hx, hy, Sem.run_bind, run_eqGuard_agg w .neq 158 x y _ _ guard_ot, Result.andThen_ok, run_ne_ot', Sem.run_pure]
    exact ⟨rfl, rfl⟩
theorem size_pt : (Tryd.prog.info? 95).map (·.size) = some 33 := by kernel_rfl
theorem range_head {w : World} {b o : Nat} {cs ds : List Value} (h : w.rangeAt b o (cs ++ ds)) : w.rangeAt b o cs := fun j v hv => h j v (by rw [List.getElem?_append_left (List.getElem?_eq_some_iff.1 hv).1]; exact hv)
theorem rangeAt_below {w w' : World} {b o : Nat} {cs : List Value} {B : Nat} (h : w.rangeAt b o cs) (hb : Below B w w') (hlt : b < B) : w'.rangeAt b o cs := fun j v hv => (hb.cell (p := ⟨b, o + j, none⟩) hlt).trans (h j v hv)
def ptOf (x : Txs.In) (h : x.Ok) : Pt := ⟨x.hash, x.n, h.1⟩
theorem in_pt (x : Txs.In) (h : x.Ok) (u : Value) : inCells x u = (ptOf x h).cells ++ [u] := by
  unfold inCells ptOf Pt.cells; simp
theorem in_key_cell {w : World} {b o : Nat} {x : Txs.In} {u : Value} (h : w.rangeAt b o (inCells x u)) (hx : x.Ok) : w.cell? ⟨b, o + 33, none⟩ = some u := by
  refine h 33 u ?_
  rw [in_pt x hx, List.getElem?_append_right (by rw [Pt.cells_len]; omega), Pt.cells_len]
  rfl
theorem bk_range {w : World} {g t : Nat} {cs : List Value} (h : Bk w g t cs.toArray) : w.rangeAt g 0 cs := fun j v hv => by
  rw [h.cell]; simpa using hv
theorem ins_eq_of {x y : Txs.In} (hx : x.Ok) (hy : y.Ok) (h1 : (ptOf x hx).ne (ptOf y hy) = false) (h2 : x.key = y.key) : x = y := by
  unfold Pt.ne ptOf at h1
  simp at h1
  obtain ⟨a, b, c⟩ := x
  obtain ⟨a', b', c'⟩ := y
  simp only at h1 h2
  rw [h1.1, h1.2, h2]
theorem ins_ne_of {x y : Txs.In} (hx : x.Ok) (hy : y.Ok) (h1 : (ptOf x hx).ne (ptOf y hy) = true) : x ≠ y := by
  intro e
  subst e
  unfold Pt.ne at h1
  simp at h1
theorem outs_eq_of {x y : Ot} (h1 : x.ne y = false) : x.x = y.x := by
  unfold Ot.ne at h1
  simp at h1
  obtain ⟨⟨a, b⟩, _⟩ := x
  obtain ⟨⟨a', b'⟩, _⟩ := y
  simp only at h1
  show (⟨a, b⟩ : Txs.Out) = ⟨a', b'⟩
  rw [h1.1, h1.2]
theorem outs_ne_of {x y : Ot} (h1 : x.ne y = true) : x.x ≠ y.x := by
  intro e
  unfold Ot.ne at h1
  rw [e] at h1
  simp at h1
theorem tk_succ {α : Type} {l l' : List α} {k : Nat} (h : k < l.length) (h' : k < l'.length) (e : l.take k = l'.take k) (ek : l[k] = l'[k]) : l.take (k + 1) = l'.take (k + 1) := by
  rw [List.take_succ_eq_append_getElem h, List.take_succ_eq_append_getElem h', e, ek]
theorem nth_ne {α : Type} {l l' : List α} {k : Nat} (h : k < l.length) (h' : k < l'.length) (ek : l[k] ≠ l'[k]) : l ≠ l' := by
  intro e; subst e; exact ek rfl
theorem take_all {α : Type} {l l' : List α} {k : Nat} (h : l.length ≤ k) (h' : l'.length ≤ k) (e : l.take k = l'.take k) : l = l' := by
  rwa [List.take_of_length_le h, List.take_of_length_le h'] at e
theorem tx_ne {t u : Txs.Tx} (h : t.version ≠ u.version ∨ t.ins ≠ u.ins ∨ t.outs ≠ u.outs) : decide (t = u) = false := by
  rw [decide_eq_false_iff_not]
  rintro rfl
  rcases h with h | h | h <;> exact h rfl
theorem tx_eq {t u : Txs.Tx} (h1 : t.version = u.version) (h2 : t.ins = u.ins) (h3 : t.outs = u.outs) : decide (t = u) = true := by
  obtain ⟨a, b, c⟩ := t
  obtain ⟨a', b', c'⟩ := u
  simp only at h1 h2 h3
  subst h1 h2 h3
  simp
set_option maxHeartbeats 4000000 in
theorem rsame_any (t u : Txs.Tx) (A1 A2 A3 A4 : Option Addr) (c1 c2 c3 c4 B B' : Nat) (w : World) (h : TxAt w B t A1 c1 A2 c2) (h' : TxAt w B' u A3 c3 A4 c4) (hB : B ≤ w.heap.size) (hB' : B' ≤ w.heap.size) :
    Calls Tryd.prog 54 #[txV t A1 c1 A2 c2, txV u A3 c3 A4 c4] w fun e w' => e = .returned (.bool (decide (t = u))) ∧ Below w.heap.size w w' := by
  have hmi := Nat.le_trans h.ic h.im
  have hmo := Nat.le_trans h.oc h.om
  have hmi' := Nat.le_trans h'.ic h'.im
  have hmo' := Nat.le_trans h'.oc h'.om
  unfold maxLen at hmi hmo hmi' hmo'
  have HI := Lib.hid h.ins
  have HO := Lib.hid h.outs
  have HI' := Lib.hid h'.ins
  have HO' := Lib.hid h'.outs
  obtain ⟨w2, hw2⟩ : ∃ w2, w2 = (w.alloc (.cells #[.int .u32 (t.version : Int), .slice A1 t.ins.length c1, .slice A2 t.outs.length c2] 49)).alloc (.cells #[.int .u32 (u.version : Int), .slice A3 u.ins.length c3, .slice A4 u.outs.length c4] 49) := ⟨_, rfl⟩
  have HW := Lib.hid (show Below w.heap.size w w2 by rw [hw2]; exact Joins.below_alloc2 _ _ _)
  have HZ := Lib.hid (show w2.heap.size = w.heap.size + 2 by rw [hw2]; simp)
  have HK1 := Lib.hid (show Bk w2 w.heap.size 49 #[.int .u32 (t.version : Int), .slice A1 t.ins.length c1, .slice A2 t.outs.length c2] by rw [hw2]; exact (Bk.new _ _ _).alloc _)
  have HK2 := Lib.hid (show Bk w2 (w.heap.size + 1) 49 #[.int .u32 (u.version : Int), .slice A3 u.ins.length c3, .slice A4 u.outs.length c4] by
    rw [hw2]
    have := Bk.new (w.alloc (.cells #[.int .u32 (t.version : Int), .slice A1 t.ins.length c1, .slice A2 t.outs.length c2] 49)) 49 #[.int .u32 (u.version : Int), .slice A3 u.ins.length c3, .slice A4 u.outs.length c4]
    simpa using this)
  unfold txV
  clear h h'
  by_cases hv : ¬ t.version = u.version
  · have HF := Lib.hid (tx_ne (.inl hv))
    have hv' : ((t.version : Int) != (u.version : Int)) = true := by rw [bne_iff_ne]; omega
    clear hv
    go_enter Tryd.func54, Tryd.ntmps54
    go_wp2_with fail
    go_ret
    rw [← hw2]
    exact ⟨ret_bool HF.out.symm, HW.out⟩
  replace hv : t.version = u.version := by omega
  by_cases hil : ¬ t.ins.length = u.ins.length
  · have HF := Lib.hid (tx_ne (.inr (.inl (fun e => hil (by rw [e])))))
    have hv' : ((t.version : Int) != (u.version : Int)) = false := by rw [bne_eq_false_iff_eq]; omega
    have hi' : ((t.ins.length : Int) != (u.ins.length : Int)) = true := by rw [bne_iff_ne]; omega
    clear hv hil
    go_enter Tryd.func54, Tryd.ntmps54
    go_wp2_with fail
    go_ret
    rw [← hw2]
    exact ⟨ret_bool HF.out.symm, HW.out⟩
  replace hil : t.ins.length = u.ins.length := by omega
  by_cases hol : ¬ t.outs.length = u.outs.length
  · have HF := Lib.hid (tx_ne (.inr (.inr (fun e => hol (by rw [e])))))
    have hv' : ((t.version : Int) != (u.version : Int)) = false := by rw [bne_eq_false_iff_eq]; omega
    have hi' : ((t.ins.length : Int) != (u.ins.length : Int)) = false := by rw [bne_eq_false_iff_eq]; omega
    have ho' : ((t.outs.length : Int) != (u.outs.length : Int)) = true := by rw [bne_iff_ne]; omega
    clear hv hil hol
    go_enter Tryd.func54, Tryd.ntmps54
    go_wp2_with fail
    go_ret
    rw [← hw2]
    exact ⟨ret_bool HF.out.symm, HW.out⟩
  replace hol : t.outs.length = u.outs.length := by omega
  have HV := Lib.hid hv
  have HIL := Lib.hid hil
  have HOL := Lib.hid hol
  rw [← hv, ← hil, ← hol] at HK2 hw2 ⊢
  have HI2 := Lib.hid (HI.out.below (HW.out.mono hB))
  have HI2' := Lib.hid (HI'.out.below (HW.out.mono hB'))
  have HO2 := Lib.hid (At.below HO.out (HW.out.mono hB))
  have HO2' := Lib.hid (At.below HO'.out (HW.out.mono hB'))
  have HNE := Lib.hid (fun h => tx_ne (t := t) (u := u) h)
  have HEQ := Lib.hid (fun h2 h3 => tx_eq (t := t) (u := u) hv h2 h3)
  generalize t.version = ver at *
  obtain ⟨n, hn⟩ : ∃ n, n = t.ins.length := ⟨_, rfl⟩
  obtain ⟨m, hm⟩ : ∃ m, m = t.outs.length := ⟨_, rfl⟩
  rw [← hn] at HK1 HK2 HIL hw2 hmi ⊢
  rw [← hm] at HK1 HK2 HOL hw2 hmo ⊢
  have HN := Lib.hid hn
  have HM := Lib.hid hm
  clear hv hil hol hn hm hmi' hmo' HI HO HI' HO' HV
  go_enter Tryd.func54, Tryd.ntmps54
  go_wp2_with fail
  rw [← hw2]
  clear hw2
  go_loopw [35] (fun i wr => ∃ k : Nat, k ≤ n ∧ i = .int .i64 (k : Int) ∧ Hid (t.ins.take k = u.ins.take k) ∧ Hid (Below w2.heap.size w2 wr)) (fun i _ => n - (intOf i).toNat)
  case atStart => exact ⟨0, Nat.zero_le _, rfl, Lib.hid rfl, Lib.hid (Below.refl _ _)⟩
  case round =>
    obtain ⟨k, hk, rfl, ha, hb⟩ := hrel
    by_cases hlt : k < n
    · have hlt1 : k < t.ins.length := by rw [← HN.out]; exact hlt
      have hlt2 : k < u.ins.length := by rw [← HIL.out]; exact hlt
      obtain ⟨b, off, Ak, ck, rfl, hbB, hr, hok, hkc, hkm, hkat⟩ := (HI2.out.below (hb.out.mono (by rw [HZ.out]; omega))).range hlt1
      obtain ⟨b', off', Ak', ck', rfl, hbB', hr', hok', hkc', hkm', hkat'⟩ := (HI2'.out.below (hb.out.mono (by rw [HZ.out]; omega))).range hlt2
      have cu : wr.cell? ⟨w.heap.size + 1, 1, none⟩ = some (.slice (some ⟨b', off', none⟩) n c3) := (hb.out.cell (p := ⟨w.heap.size + 1, 1, none⟩) HK2.out.lt).trans ((HK2.out.cell 1).trans rfl)
      have HSU := Lib.hid (fun hx => tk_succ hlt1 hlt2 ha.out hx)
      have HNX := Lib.hid (fun hx => HNE.out (.inr (.inl (nth_ne hlt1 hlt2 hx))))
      have hws := hb.out.size
      rw [HZ.out] at hws
      generalize t.ins[k] = x at *
      generalize u.ins[k] = y at *
      have i1 : (0 : Int) ≤ (k : Int) := by omega
      have i2 : (k : Int) < (n : Int) := by omega
      obtain ⟨w3, hw3⟩ : ∃ w3, w3 = wr.alloc (.cells (inCells x (.slice Ak x.key.length ck)).toArray 97) := ⟨_, rfl⟩
      have hbx : Bk w3 wr.heap.size 97 (inCells x (.slice Ak x.key.length ck)).toArray := by rw [hw3]; exact Bk.new _ _ _
      have hb3 : Below wr.heap.size wr w3 := by rw [hw3]; exact Joins.below_alloc1 _ _
      have d3 : w3.cell? ⟨w.heap.size + 1, 1, none⟩ = some (.slice (some ⟨b', off', none⟩) n c3) := (hb3.cell (p := ⟨w.heap.size + 1, 1, none⟩) (by show w.heap.size + 1 < _; omega)).trans cu
      have hr3 := rangeAt_below hr' hb3 (show b' < wr.heap.size by omega)
      have dx := in_key hbx hok
      have dy := in_key_cell hr3 hok'
      have R1 := Lib.hid (by have := bk_range hbx; rw [in_pt x hok] at this; exact range_head this : w3.rangeAt wr.heap.size 0 (ptOf x hok).cells)
      have R2 := Lib.hid (by have := hr3; rw [in_pt y hok'] at this; exact range_head this : w3.rangeAt b' (off' + k * 34) (ptOf y hok').cells)
      have HSM := Lib.hid (fun i => same_any Ak Ak' x.key.length y.key.length ck ck' x.key y.key (w3.drewN i) B B' rfl rfl (by unfold maxLen at hkm; omega) (by unfold maxLen at hkm'; omega) (At.below hkat (below_drewN (hb3.mono (by omega)) i)) (At.below hkat' (below_drewN (hb3.mono (by omega)) i)))
      have L1 := Lib.hid (Pt.cells_len (ptOf x hok))
      have L2 := Lib.hid (Pt.cells_len (ptOf y hok'))
      have HEQI := Lib.hid (fun h1 h2 => ins_eq_of hok hok' h1 h2)
      have HNEI := Lib.hid (fun h1 => ins_ne_of hok hok' h1)
      generalize ptOf x hok = px at *
      generalize ptOf y hok' = py at *
      have HR := Lib.hid hr
      have HL := Lib.hid (inCells_len hok (.slice Ak x.key.length ck))
      have HONE := Lib.hid (inCells_one x Ak x.key.length ck)
      have HKD := Lib.hid (show x.key = y.key → decide (x.key = y.key) = true from fun h => decide_eq_true h)
      generalize hcs : inCells x (.slice Ak x.key.length ck) = cs at *
      have HB3 := Lib.hid hb3
      have HZI := zero_in
      have HZL := Lib.hid zeroIn_len
      generalize (inCells ⟨List.replicate 32 0, 0, []⟩ (.slice none 0 0)).toArray = zs at *
      have HZI := Lib.hid HZI
      obtain ⟨kd, hkd⟩ : ∃ kd, kd = decide (x.key = y.key) := ⟨_, rfl⟩
      rw [← hkd] at HSM
      have HKD := Lib.hid hkd
      clear hcs hr hr' hr3 hbx hb3 hkat hkat' hok hok' hkc hkc' hkm hkm' hkd
      go_wp2_with (refine wpList_elem2 rfl rfl rfl rfl 97 (.tmp 38) (.tmp 6) (.tmp 39) (.tmp 37) rfl rfl rfl rfl b (off + k * 34) (by rfl) cs _ HR.out Tryd.underlying97 rfl (by rw [HL.out]; exact size_in) zs HZI.out (by rw [HZL.out, HL.out]) HONE.out (.int .i64 (k : Int)) (by rfl) (by rfl) (by rfl) ?_)
      go_frame
      rw [← hw3]
      clear hw3 cu
      cases hpn : px.ne py with
      | true =>
        have HF := Lib.hid (HNX.out (HNEI.out hpn))
        refine wp_region_quiet_lit (by kernel_rfl) (by kernel_rfl) ?_
        go_big_quiet_step (fail)
        (refine wpQuiet_load_mid rfl 95 (.tmp 40) rfl wr.heap.size 0 (by rfl) px.cells _ (fun w' ⟨n, e⟩ => by subst e; exact R1.out) Tryd.underlying95 rfl (by rw [L1.out]; exact size_pt) ?_; go_frame)
        iterate 5 (go_big_quiet_step (fail))
        (refine wpQuiet_load_mid rfl 95 (.tmp 46) rfl b' (off' + k * 34) (by rfl) py.cells _ (fun w' ⟨n, e⟩ => by subst e; exact R2.out) Tryd.underlying95 rfl (by rw [L2.out]; exact size_pt) ?_; go_frame)
        (refine wpQuiet_ne_pt rfl (.tmp 41) (.tmp 47) _ rfl px py (by rfl) (by rfl) true hpn ?_; go_frame)
        iterate 12 (go_big_quiet_step (fail))
        refine wpQuiet_nil ?_
        intro _ hw'
        obtain ⟨nq, hw''⟩ := hw'
        subst hw''
        have HEND := Lib.hid (below_drewN (HW.out.trans ((hb.out.trans (HB3.out.mono hb.out.size)).mono (by rw [HZ.out]; omega))) nq)
        go_wp2_with fail
        go_ret
        exact ⟨ret_bool HF.out.symm, HEND.out⟩
      | false =>
        cases kd with
        | true =>
          refine wp_region_quiet_lit (by kernel_rfl) (by kernel_rfl) ?_
          go_big_quiet_step (fail)
          (refine wpQuiet_load_mid rfl 95 (.tmp 40) rfl wr.heap.size 0 (by rfl) px.cells _ (fun w' ⟨n, e⟩ => by subst e; exact R1.out) Tryd.underlying95 rfl (by rw [L1.out]; exact size_pt) ?_; go_frame)
          iterate 5 (go_big_quiet_step (fail))
          (refine wpQuiet_load_mid rfl 95 (.tmp 46) rfl b' (off' + k * 34) (by rfl) py.cells _ (fun w' ⟨n, e⟩ => by subst e; exact R2.out) Tryd.underlying95 rfl (by rw [L2.out]; exact size_pt) ?_; go_frame)
          (refine wpQuiet_ne_pt rfl (.tmp 41) (.tmp 47) _ rfl px py (by rfl) (by rfl) false hpn ?_; go_frame)
          iterate 12 (go_big_quiet_step ((go_at_call 78; exact Calls.quiet_of (HSM.out _))))
          refine wpQuiet_nil ?_
          intro _ hw'
          obtain ⟨nq, hw''⟩ := hw'
          subst hw''
          have HBN := Lib.hid (below_drewN (hb.out.trans (HB3.out.mono hb.out.size)) nq)
          have HTN := Lib.hid (HSU.out (HEQI.out hpn (of_decide_eq_true HKD.out.symm)))
          go_wp2_with fail
          go_roundw
          case rel => exact ⟨k + 1, by omega, by go_num, HTN, HBN⟩
          case measure => simp [intOf]; omega
        | false =>
          have HF := Lib.hid (HNX.out (fun e => of_decide_eq_false HKD.out.symm (by rw [e])))
          refine wp_region_quiet_lit (by kernel_rfl) (by kernel_rfl) ?_
          go_big_quiet_step (fail)
          (refine wpQuiet_load_mid rfl 95 (.tmp 40) rfl wr.heap.size 0 (by rfl) px.cells _ (fun w' ⟨n, e⟩ => by subst e; exact R1.out) Tryd.underlying95 rfl (by rw [L1.out]; exact size_pt) ?_; go_frame)
          iterate 5 (go_big_quiet_step (fail))
          (refine wpQuiet_load_mid rfl 95 (.tmp 46) rfl b' (off' + k * 34) (by rfl) py.cells _ (fun w' ⟨n, e⟩ => by subst e; exact R2.out) Tryd.underlying95 rfl (by rw [L2.out]; exact size_pt) ?_; go_frame)
          (refine wpQuiet_ne_pt rfl (.tmp 41) (.tmp 47) _ rfl px py (by rfl) (by rfl) false hpn ?_; go_frame)
          iterate 12 (go_big_quiet_step ((go_at_call 78; exact Calls.quiet_of (HSM.out _))))
          refine wpQuiet_nil ?_
          intro _ hw'
          obtain ⟨nq, hw''⟩ := hw'
          subst hw''
          have HEND := Lib.hid (below_drewN (HW.out.trans ((hb.out.trans (HB3.out.mono hb.out.size)).mono (by rw [HZ.out]; omega))) nq)
          go_wp2_with fail
          go_ret
          exact ⟨ret_bool HF.out.symm, HEND.out⟩
    · have HIE := Lib.hid (show t.ins = u.ins from take_all (by rw [← HN.out]; omega) (by rw [← HIL.out]; omega) ha.out)
      have d2 : wr.cell? ⟨w.heap.size, 2, none⟩ = some (.slice A2 m c2) := (hb.out.cell (p := ⟨w.heap.size, 2, none⟩) HK1.out.lt).trans ((HK1.out.cell 2).trans rfl)
      have HBL := Lib.hid hb.out
      clear ha hb
      go_wp2_with fail
      go_loopw [65] (fun i wr => ∃ k : Nat, k ≤ m ∧ i = .int .i64 (k : Int) ∧ Hid (t.outs.take k = u.outs.take k) ∧ Hid (Below w2.heap.size w2 wr)) (fun i _ => m - (intOf i).toNat)
      case atStart => exact ⟨0, Nat.zero_le _, rfl, Lib.hid rfl, HBL⟩
      case round =>
        clear HBL d2
        obtain ⟨j, hj, rfl, ha, hb⟩ := hrel
        by_cases hlt : j < m
        · have hlt1 : j < t.outs.length := by rw [← HM.out]; exact hlt
          have hlt2 : j < u.outs.length := by rw [← HOL.out]; exact hlt
          obtain ⟨b, off, rfl, hbB, hr, hok⟩ := OutsAt.range (At.below HO2.out (hb.out.mono (by rw [HZ.out]; omega))) hlt1
          obtain ⟨b', off', rfl, hbB', hr', hok'⟩ := OutsAt.range (At.below HO2'.out (hb.out.mono (by rw [HZ.out]; omega))) hlt2
          have cu : wr.cell? ⟨w.heap.size + 1, 2, none⟩ = some (.slice (some ⟨b', off', none⟩) m c4) := (hb.out.cell (p := ⟨w.heap.size + 1, 2, none⟩) HK2.out.lt).trans ((HK2.out.cell 2).trans rfl)
          have HSU := Lib.hid (fun hx => tk_succ hlt1 hlt2 ha.out hx)
          have HNX := Lib.hid (fun hx => HNE.out (.inr (.inr (nth_ne hlt1 hlt2 hx))))
          have hws := hb.out.size
          rw [HZ.out] at hws
          generalize t.outs[j] = x at *
          generalize u.outs[j] = y at *
          have i1 : (0 : Int) ≤ (j : Int) := by omega
          have i2 : (j : Int) < (m : Int) := by omega
          obtain ⟨w3, hw3⟩ : ∃ w3, w3 = wr.alloc (.cells (outCells x).toArray 158) := ⟨_, rfl⟩
          have hbx : Bk w3 wr.heap.size 158 (outCells x).toArray := by rw [hw3]; exact Bk.new _ _ _
          have hb3 : Below wr.heap.size wr w3 := by rw [hw3]; exact Joins.below_alloc1 _ _
          have d3 : w3.cell? ⟨w.heap.size + 1, 2, none⟩ = some (.slice (some ⟨b', off', none⟩) m c4) := (hb3.cell (p := ⟨w.heap.size + 1, 2, none⟩) (by show w.heap.size + 1 < _; omega)).trans cu
          obtain ⟨px, hpx⟩ : ∃ px : Ot, px = ⟨x, hok.2⟩ := ⟨_, rfl⟩
          obtain ⟨py, hpy⟩ : ∃ py : Ot, py = ⟨y, hok'.2⟩ := ⟨_, rfl⟩
          have R1 := Lib.hid (show w3.rangeAt wr.heap.size 0 px.cells by rw [hpx]; exact bk_range hbx)
          have R2 := Lib.hid (show w3.rangeAt b' (off' + j * 33) py.cells by rw [hpy]; exact rangeAt_below hr' hb3 (show b' < wr.heap.size by omega))
          have L1 := Lib.hid (Ot.cells_len px)
          have L2 := Lib.hid (Ot.cells_len py)
          have HEQI := Lib.hid (show px.ne py = false → x = y from fun h => by have := outs_eq_of h; rwa [hpx, hpy] at this)
          have HNEI := Lib.hid (show px.ne py = true → x ≠ y from fun h => by have := outs_ne_of h; rwa [hpx, hpy] at this)
          have HR := Lib.hid hr
          have HL := Lib.hid (outCells_len hok)
          have HONE := Lib.hid (outCells_one x)
          generalize hcs : outCells x = cs at *
          have HB3 := Lib.hid hb3
          have HZO := zero_out
          have HZL := Lib.hid zeroOut_len
          generalize (outCells ⟨0, List.replicate 32 0⟩).toArray = zs at *
          have HZO := Lib.hid HZO
          clear hpx hpy hcs hr hr' hbx hb3 hok hok'
          go_wp2_with (refine wpList_elem2 rfl rfl rfl rfl 158 (.tmp 68) (.tmp 8) (.tmp 69) (.tmp 67) rfl rfl rfl rfl b (off + j * 33) (by rfl) cs _ HR.out Tryd.underlying158 rfl (by rw [HL.out]; exact size_out) zs HZO.out (by rw [HZL.out, HL.out]) HONE.out (.int .i64 (j : Int)) (by rfl) (by rfl) (by rfl) ?_)
          go_frame
          rw [← hw3]
          clear hw3 cu
          cases hpn : px.ne py with
          | true =>
            have HF := Lib.hid (HNX.out (HNEI.out hpn))
            refine wp_region_quiet_lit (by kernel_rfl) (by kernel_rfl) ?_
            (refine wpQuiet_load_mid rfl 158 (.tmp 8) rfl wr.heap.size 0 (by rfl) px.cells _ (fun w' ⟨n, e⟩ => by subst e; exact R1.out) Tryd.underlying158 rfl (by rw [L1.out]; exact size_out) ?_; go_frame)
            iterate 4 (go_big_quiet_step (fail))
            (refine wpQuiet_load_mid rfl 158 (.tmp 74) rfl b' (off' + j * 33) (by rfl) py.cells _ (fun w' ⟨n, e⟩ => by subst e; exact R2.out) Tryd.underlying158 rfl (by rw [L2.out]; exact size_out) ?_; go_frame)
            (refine wpQuiet_ne_ot rfl (.tmp 70) (.tmp 75) _ rfl px py (by rfl) (by rfl) true hpn ?_; go_frame)
            refine wpQuiet_nil ?_
            intro _ hw'
            obtain ⟨nq, hw''⟩ := hw'
            subst hw''
            have HEND := Lib.hid (below_drewN (HW.out.trans ((hb.out.trans (HB3.out.mono hb.out.size)).mono (by rw [HZ.out]; omega))) nq)
            go_wp2_with fail
            go_ret
            exact ⟨ret_bool HF.out.symm, HEND.out⟩
          | false =>
            refine wp_region_quiet_lit (by kernel_rfl) (by kernel_rfl) ?_
            (refine wpQuiet_load_mid rfl 158 (.tmp 8) rfl wr.heap.size 0 (by rfl) px.cells _ (fun w' ⟨n, e⟩ => by subst e; exact R1.out) Tryd.underlying158 rfl (by rw [L1.out]; exact size_out) ?_; go_frame)
            iterate 4 (go_big_quiet_step (fail))
            (refine wpQuiet_load_mid rfl 158 (.tmp 74) rfl b' (off' + j * 33) (by rfl) py.cells _ (fun w' ⟨n, e⟩ => by subst e; exact R2.out) Tryd.underlying158 rfl (by rw [L2.out]; exact size_out) ?_; go_frame)
            (refine wpQuiet_ne_ot rfl (.tmp 70) (.tmp 75) _ rfl px py (by rfl) (by rfl) false hpn ?_; go_frame)
            refine wpQuiet_nil ?_
            intro _ hw'
            obtain ⟨nq, hw''⟩ := hw'
            subst hw''
            have HBN := Lib.hid (below_drewN (hb.out.trans (HB3.out.mono hb.out.size)) nq)
            have HTN := Lib.hid (HSU.out (HEQI.out hpn))
            go_wp2_with fail
            go_roundw
            case rel => exact ⟨j + 1, by omega, by go_num, HTN, HBN⟩
            case measure => simp [intOf]; omega
        · have HOE := Lib.hid (show t.outs = u.outs from take_all (by rw [← HM.out]; omega) (by rw [← HOL.out]; omega) ha.out)
          have HEND := Lib.hid (HW.out.trans (hb.out.mono (by rw [HZ.out]; omega)))
          have HF := Lib.hid (HEQ.out HIE.out HOE.out)
          clear ha hb
          go_wp2_with fail
          go_ret
          exact ⟨ret_bool HF.out.symm, HEND.out⟩
end Go.Proofs.YtpacgblddeoheaaDoor.T7
