/- TxF, merged: Tx, TxForm. -/
import Derived.Test.YtpacgblddeoheaaDoorBase
import Derived.Test.YtpacgblddeoheaaDoorTxP
import Derived.Lib.SmallJoins
import Derived.Deep.MidRow
import Derived.Deep.WholeRow
import Derived.Laws.Rows
import Derived.Laws.Tables
/- How transactions lie in memory. -/
namespace Go.Proofs.YtpacgblddeoheaaDoor.T7
open Go.RowKit Go.Deep Go.ChangeShapes Go.WideShapes Go.ChangeAt
set_option linter.unusedVariables false
set_option linter.unusedSimpArgs false
set_option maxRecDepth 100000

def inCells (x : Txs.In) (u : Value) : List Value := x.hash.map byteV ++ [.int .u32 (x.n : Int), u]
def outCells (x : Txs.Out) : List Value := .int .u64 (x.value : Int) :: x.lock.map byteV
def IsIn (w : World) (B : Nat) (vs : List Value) (x : Txs.In) : Prop :=
  x.Ok ∧ ∃ A cap, vs = inCells x (.slice A x.key.length cap) ∧ x.key.length ≤ cap ∧ cap ≤ maxLen ∧ BytesAt w B A x.key
def IsOut (vs : List Value) (x : Txs.Out) : Prop := x.Ok ∧ vs = outCells x
abbrev InsAt (w : World) (B : Nat) (A : Option Addr) (l : List Txs.In) : Prop := At 34 (IsIn w B) w B A l
abbrev OutsAt (w : World) (B : Nat) (A : Option Addr) (l : List Txs.Out) : Prop := At 33 IsOut w B A l
/-- a transaction, as a value -/
def txV (t : Txs.Tx) (A : Option Addr) (c : Nat) (A' : Option Addr) (c' : Nat) : Value := .agg #[.int .u32 (t.version : Int), .slice A t.ins.length c, .slice A' t.outs.length c']
structure TxAt (w : World) (B : Nat) (t : Txs.Tx) (A : Option Addr) (c : Nat) (A' : Option Addr) (c' : Nat) : Prop where
  v : t.version < 4294967296
  ic : t.ins.length ≤ c
  im : c ≤ maxLen
  oc : t.outs.length ≤ c'
  om : c' ≤ maxLen
  ins : InsAt w B A t.ins
  outs : OutsAt w B A' t.outs
def IsTx (w : World) (B : Nat) (v : Value) (t : Txs.Tx) : Prop := ∃ A c A' c', v = txV t A c A' c' ∧ TxAt w B t A c A' c'
theorem IsIn.below {w w' : World} {B : Nat} {vs : List Value} {x : Txs.In} (h : IsIn w B vs x) (hb : Below B w w') : IsIn w' B vs x := by
  obtain ⟨k, A, cap, h1, h2, h3, h4⟩ := h
  exact ⟨k, A, cap, h1, h2, h3, At.below h4 hb⟩
theorem IsIn.mono {w : World} {B B' : Nat} {vs : List Value} {x : Txs.In} (h : IsIn w B vs x) (hb : B ≤ B') : IsIn w B' vs x := by
  obtain ⟨k, A, cap, h1, h2, h3, h4⟩ := h
  exact ⟨k, A, cap, h1, h2, h3, At.mono h4 hb⟩
theorem InsAt.below {w w' : World} {B : Nat} {A : Option Addr} {l : List Txs.In} (h : InsAt w B A l) (hb : Below B w w') : InsAt w' B A l :=
  At.imp (At.below h hb) fun _ _ h => h.below hb
theorem InsAt.mono {w : World} {B B' : Nat} {A : Option Addr} {l : List Txs.In} (h : InsAt w B A l) (hb : B ≤ B') : InsAt w B' A l :=
  At.imp (At.mono h hb) fun _ _ h => h.mono hb
theorem TxAt.below {w w' : World} {B : Nat} {t : Txs.Tx} {A A' : Option Addr} {c c' : Nat} (h : TxAt w B t A c A' c') (hb : Below B w w') : TxAt w' B t A c A' c' :=
  ⟨h.v, h.ic, h.im, h.oc, h.om, h.ins.below hb, At.below h.outs hb⟩
theorem TxAt.mono {w : World} {B B' : Nat} {t : Txs.Tx} {A A' : Option Addr} {c c' : Nat} (h : TxAt w B t A c A' c') (hb : B ≤ B') : TxAt w B' t A c A' c' :=
  ⟨h.v, h.ic, h.im, h.oc, h.om, h.ins.mono hb, At.mono h.outs hb⟩
theorem all_of_at {α : Type} {k : Nat} {R : List Value → α → Prop} {w : World} {B : Nat} {A : Option Addr} {l : List α} (h : At k R w B A l) {p : α → Prop} (hp : ∀ vs x, R vs x → p x) : ∀ x ∈ l, p x := by
  intro x hx
  obtain ⟨i, hi, rfl⟩ := List.mem_iff_getElem.1 hx
  obtain ⟨_, _, vs, _, _, hR, _⟩ := h i hi
  exact hp _ _ hR
theorem TxAt.ok {w : World} {B : Nat} {t : Txs.Tx} {A A' : Option Addr} {c c' : Nat} (h : TxAt w B t A c A' c') : t.Ok :=
  ⟨h.v, all_of_at h.ins fun _ _ h => h.1, all_of_at h.outs fun _ _ h => h.1⟩
theorem inCells_len {x : Txs.In} (h : x.Ok) (u : Value) : (inCells x u).length = 34 := by unfold inCells; rw [List.length_append, List.length_map, h.1]; rfl
theorem outCells_len {x : Txs.Out} (h : x.Ok) : (outCells x).length = 33 := by unfold outCells; rw [List.length_cons, List.length_map, h.2]
/-- an input, its cells -/
theorem InsAt.range {w : World} {B : Nat} {A : Option Addr} {l : List Txs.In} (h : InsAt w B A l) {i : Nat} (hi : i < l.length) :
    ∃ b off A' cap, A = some ⟨b, off, none⟩ ∧ b < B ∧ w.rangeAt b (off + i * 34) (inCells l[i] (.slice A' l[i].key.length cap)) ∧ l[i].Ok ∧ l[i].key.length ≤ cap ∧ cap ≤ maxLen ∧ BytesAt w B A' l[i].key := by
  obtain ⟨b, off, vs, hA, hb, ⟨hk, A', cap, hvs, h1, h2, h3⟩, hc⟩ := h i hi
  refine ⟨b, off, A', cap, hA, hb, fun j v hv => ?_, hk, h1, h2, h3⟩
  rw [← hvs] at hv
  obtain ⟨hj, rfl⟩ := List.getElem?_eq_some_iff.1 hv
  exact hc j hj
theorem OutsAt.range {w : World} {B : Nat} {A : Option Addr} {l : List Txs.Out} (h : OutsAt w B A l) {i : Nat} (hi : i < l.length) :
    ∃ b off, A = some ⟨b, off, none⟩ ∧ b < B ∧ w.rangeAt b (off + i * 33) (outCells l[i]) ∧ l[i].Ok := by
  obtain ⟨b, off, vs, hA, hb, ⟨hk, hvs⟩, hc⟩ := h i hi
  refine ⟨b, off, hA, hb, fun j v hv => ?_, hk⟩
  rw [← hvs] at hv
  obtain ⟨hj, rfl⟩ := List.getElem?_eq_some_iff.1 hv
  exact hc j hj
/-! ### what came in -/
theorem bytes_of_cells : ∀ (hs : List Value), (∀ i, i < hs.length → ∃ b : UInt8, (hs.drop i).take 1 = [byteV b]) → ∃ l : List UInt8, hs = l.map byteV
  | [], _ => ⟨[], rfl⟩
  | v :: hs, h => by
    obtain ⟨b, hb⟩ := h 0 (by simp)
    obtain ⟨l, hl⟩ := bytes_of_cells hs fun i hi => by simpa using h (i + 1) (by simpa using hi)
    refine ⟨b :: l, ?_⟩
    simp only [List.drop_zero, List.take_succ_cons, List.take_zero, List.cons.injEq, and_true] at hb
    rw [hl, hb]; rfl
section
variable {H : Type} {enc : TypeId × Value → H} {W : World} {base : Nat} {sp : Nat → Bool} {held : Bool}
theorem hash_open {n : Nat} {cs : List Value} {x : DataW H × List MemPlace} (h : DataW.trod enc Tryd.prog W base sp held n 93 cs = some x) : ∃ l : List UInt8, cs = l.map byteV ∧ l.length = 32 := by
  obtain ⟨xs, m, _, _, hl, hx, hi⟩ := DataW.trod_array Tryd.underlying93 h
  have h1 : Tryd.prog.cellsOf 5 = 1 := by kernel_rfl
  have h32 : Tryd.prog.cellsOf 93 = 32 := by kernel_rfl
  rw [h32] at hl
  obtain ⟨l, rfl⟩ := bytes_of_cells cs fun i hil => by
    have := hi i (by omega)
    rw [h1, Nat.mul_one, List.getElem?_eq_getElem (by omega)] at this
    obtain ⟨k, hk, _, hw⟩ := DataW.trod_int Tryd.underlying5 this
    obtain ⟨b, rfl⟩ := byte_of hw
    exact ⟨b, hk⟩
  exact ⟨l, rfl, by simpa using hl⟩
theorem isOut_open (n : Nat) (cs : List Value) (x : DataW H × List MemPlace) (hl : cs.length = 33)
    (h : DataW.trod enc Tryd.prog W base sp held n 158 cs = some x) : ∃ y : Txs.Out, IsOut cs y := by
  obtain ⟨y0, y1, m, _, _, h0, h1⟩ := trod_struct2 Tryd.underlying158 h
  have c64 : Tryd.prog.cellsOf 27 = 1 := by kernel_rfl
  have ch : Tryd.prog.cellsOf 93 = 32 := by kernel_rfl
  simp only [c64, ch, List.drop_zero] at h0 h1
  obtain ⟨k, hk, _, hw⟩ := DataW.trod_int Tryd.underlying27 h0
  obtain ⟨l, hl1, hl2⟩ := hash_open h1
  obtain ⟨hk0, hk1⟩ := wf_u64 hw
  match cs, hl with
  | v :: cs, hl =>
    simp only [List.take_succ_cons, List.take_zero, List.cons.injEq, and_true] at hk
    simp only [List.drop_succ_cons, List.drop_zero] at hl1
    rw [List.take_of_length_le (by simp at hl; omega)] at hl1
    refine ⟨⟨k.toNat, l⟩, ⟨by show k.toNat < _; omega, hl2⟩, ?_⟩
    unfold outCells
    rw [hk, hl1]
    simp only [List.cons.injEq, Value.int.injEq, true_and, and_true]
    omega
theorem isIn_open (n : Nat) (cs : List Value) (x : DataW H × List MemPlace) (hl : cs.length = 34)
    (h : DataW.trod enc Tryd.prog W 0 (fun _ => true) true n 97 cs = some x) : ∃ y : Txs.In, IsIn W W.heap.size cs y := by
  obtain ⟨y0, y1, m, _, _, h0, h1⟩ := trod_struct2 Tryd.underlying97 h
  have cp : Tryd.prog.cellsOf 95 = 33 := by kernel_rfl
  have cs1 : Tryd.prog.cellsOf 22 = 1 := by kernel_rfl
  have ch : Tryd.prog.cellsOf 93 = 32 := by kernel_rfl
  have cu : Tryd.prog.cellsOf 44 = 1 := by kernel_rfl
  simp only [cp, cs1, List.drop_zero] at h0 h1
  obtain ⟨z0, z1, m', _, _, g0, g1⟩ := trod_struct2 Tryd.underlying95 h0
  simp only [ch, cu, List.drop_zero] at g0 g1
  obtain ⟨l, hl1, hl2⟩ := hash_open g0
  obtain ⟨k, hk, _, hw⟩ := DataW.trod_int Tryd.underlying44 g1
  obtain ⟨hk0, hk1⟩ := wf_u32 hw
  obtain ⟨v, hv⟩ : ∃ v, (cs.drop 33).take 1 = [v] := by
    have : ((cs.drop 33).take 1).length = 1 := by simp; omega
    exact List.length_eq_one_iff.1 this
  rw [hv] at h1
  obtain ⟨A, len, cap, kb, rfl, hkl, hkc, hkm, hkat⟩ := open_at_of IsByte 1 (by omega) Tryd.underlying22 (by kernel_rfl) h1 isByte_open
  subst hkl
  refine ⟨⟨l, k.toNat, kb⟩, ⟨hl2, by show k.toNat < _; omega⟩, A, cap, ?_, hkc, hkm, hkat⟩
  unfold inCells
  have e1 : cs = cs.take 32 ++ ((cs.drop 32).take 1 ++ (cs.drop 33).take 1) := by
    have a1 : cs.drop 32 = (cs.drop 32).take 1 ++ (cs.drop 33) := by
      have := (List.take_append_drop 1 (cs.drop 32)).symm
      rwa [List.drop_drop] at this
    have a2 : (cs.drop 33).take 1 = cs.drop 33 := List.take_of_length_le (by simp; omega)
    rw [a2, ← a1, List.take_append_drop]
  have e2 : cs.take 32 = l.map byteV := by
    rw [List.take_take] at hl1
    simpa using hl1
  have e3 : (cs.drop 32).take 1 = [.int .u32 k] := by
    rw [List.drop_take] at hk
    simpa [List.take_take] using hk
  rw [e1, e2, e3, hv]
  simp only [List.append_cancel_left_eq, List.cons_append, List.nil_append, List.cons.injEq, Value.int.injEq, true_and, and_true]
  omega
theorem tx_open {v : Value} {d : DataW H} {p : List MemPlace} (hv : Value.okWide Tryd.prog W .any 0 49 v) (h : DataW.Trod enc Tryd.prog W 0 (fun _ => true) true 49 v d p) : ∃ t A c A' c', v = txV t A c A' c' ∧ TxAt W W.heap.size t A c A' c' := by
  obtain ⟨v0, v1, v2, y0, y1, y2, m, rfl, _, _, h0, h1, h2⟩ := Joins.open_agg3 Tryd.underlying49 (by kernel_rfl) (by kernel_rfl) hv h
  obtain ⟨k, hk, _, hw⟩ := DataW.trod_int Tryd.underlying44 h0
  injection hk with hk _
  subst hk
  obtain ⟨hk0, hk1⟩ := wf_u32 hw
  obtain ⟨A, len, c, l, rfl, hl, hc, hm, hat⟩ := open_at_of (IsIn W W.heap.size) 34 (by omega) Tryd.underlying46 (by kernel_rfl) h1 isIn_open
  subst hl
  obtain ⟨A', len', c', l', rfl, hl', hc', hm', hat'⟩ := open_at_of IsOut 33 (by omega) Tryd.underlying47 (by kernel_rfl) h2 (fun n cs x => isOut_open n cs x)
  subst hl'
  refine ⟨⟨k.toNat, l, l'⟩, A, c, A', c', ?_, by show k.toNat < _; omega, hc, hm, hc', hm', hat, hat'⟩
  unfold txV
  rw [show ((k.toNat : Nat) : Int) = k by omega]
end
end Go.Proofs.YtpacgblddeoheaaDoor.T7
/- Package tx: has a transaction a form? -/
namespace Go.Proofs.YtpacgblddeoheaaDoor.T7
open Go.RowKit Go.Deep
set_option linter.unusedVariables false
set_option linter.unusedSimpArgs false
set_option maxRecDepth 100000
attribute [local go_sem ↓] Go.wp_at_zero Go.wp_at_succ

theorem ret_bool {a b : Bool} (h : a = b) : Ending.returned (.bool a) = .returned (.bool b) := by rw [h]
theorem run_alloc_of {P : Program} {t : TypeId} {cs : Array Value} (w : World) (hz : (P.info? t).map (·.zero) = some (some (.agg cs))) : (Instr.alloc t true (.tuple #[])).run P w = .ok (.pointer (some ⟨w.heap.size, 0, none⟩)) (w.alloc (.cells cs t)) := by
  obtain ⟨i, hi, hz⟩ := Option.map_eq_some_iff.1 hz
  simp [Instr.alloc, zeroValue, typeInfo, hi, hz, newVar, Value.cells, newRow, go_sem]
theorem wpList_allocOf {P : Program} {ops : Array Oper} {rest : List Oper} {o : Oper} {a : Act} {w : World} {Q : Exit → Act → World → Prop} (hg : o.guard = none) (t : TypeId) (ho : o.op = .alloc t) (cs : Array Value) (hz : (P.info? t).map (·.zero) = some (some (.agg cs)))
    (h : wpList P ops Q rest (a.put o.dst (.pointer (some ⟨w.heap.size, 0, none⟩))) (w.alloc (.cells cs t))) : wpList P ops Q (o :: rest) a w :=
  wpList_plain hg fun _ hK => by
    unfold Oper.wp execOp
    simp only [ho, Sem.run_bind, run_alloc_of w hz, Result.andThen_ok]
    exact hK _ _ h
/-- a struct that lies in a row, laid into a variable of its own: load, alloc, store -/
theorem wpList_elem {P : Program} {ops : Array Oper} {rest : List Oper} {o1 o2 o3 : Oper} {a : Act} {w : World} {Q : Exit → Act → World → Prop} (g1 : o1.guard = none) (g2 : o2.guard = none) (g3 : o3.guard = none)
    (T : TypeId) (x p v : Operand) (h1 : o1.op = .load T x) (h2 : o2.op = .alloc T) (h3 : o3.op = .store T p v)
    (b o : Nat) (hx : a.eval x = .pointer (some ⟨b, o, none⟩)) (cs : List Value) (d : TypeDesc) (hc : w.rangeAt b o cs)
    (hu : P.underlying T = some d) (hd : d.isRow = true) (hi : (P.info? T).map (·.size) = some cs.length) (zs : Array Value) (hz : (P.info? T).map (·.zero) = some (some (.agg zs))) (hzl : zs.size = cs.length)
    (hone : ∀ u ∈ cs, u.oneCell' = true)
    (hp : ((a.put o1.dst (.agg cs.toArray)).put o2.dst (.pointer (some ⟨w.heap.size, 0, none⟩))).eval p = .pointer (some ⟨w.heap.size, 0, none⟩))
    (hv : ((a.put o1.dst (.agg cs.toArray)).put o2.dst (.pointer (some ⟨w.heap.size, 0, none⟩))).eval v = .agg cs.toArray)
    (h : wpList P ops Q rest ((((a.put o1.dst (.agg cs.toArray)).put o2.dst (.pointer (some ⟨w.heap.size, 0, none⟩)))).put o3.dst undef) (w.alloc (.cells cs.toArray T))) : wpList P ops Q (o1 :: o2 :: o3 :: rest) a w := by
  refine wpList_load_mid g1 T x h1 b o hx cs d hc hu hd hi ?_
  refine wpList_allocOf g2 T h2 zs hz ?_
  refine wpList_store_row g3 T p v h3 w.heap.size cs.toArray hp hv T zs (heap_alloc_new w _) (by rw [hi]; simp) (by rw [hzl]; simp) (all_oneCell_toArray hone) ?_
  rw [World.setRow_alloc_new]
  exact h
theorem zero_in : (Tryd.prog.info? 97).map (·.zero) = some (some (.agg (inCells ⟨List.replicate 32 0, 0, []⟩ (.slice none 0 0)).toArray)) := by kernel_rfl
theorem zero_out : (Tryd.prog.info? 158).map (·.zero) = some (some (.agg (outCells ⟨0, List.replicate 32 0⟩).toArray)) := by kernel_rfl
theorem size_in : (Tryd.prog.info? 97).map (·.size) = some 34 := by kernel_rfl
theorem size_out : (Tryd.prog.info? 158).map (·.size) = some 33 := by kernel_rfl
theorem inCells_one (x : Txs.In) (A : Option Addr) (n c : Nat) : ∀ u ∈ inCells x (.slice A n c), u.oneCell' = true := by
  intro u hu
  unfold inCells at hu
  rcases List.mem_append.1 hu with h | h
  · exact oneCell_bytes _ u h
  · simp only [List.mem_cons, List.not_mem_nil, or_false] at h
    rcases h with rfl | rfl <;> rfl
theorem outCells_one (x : Txs.Out) : ∀ u ∈ outCells x, u.oneCell' = true := by
  intro u hu
  unfold outCells at hu
  rcases List.mem_cons.1 hu with rfl | h
  · rfl
  · exact oneCell_bytes _ u h
theorem zeroIn_len : (inCells ⟨List.replicate 32 0, 0, []⟩ (.slice none 0 0)).toArray.size = 34 := by simp [inCells]
theorem zeroOut_len : (outCells ⟨0, List.replicate 32 0⟩).toArray.size = 33 := by simp [outCells]
theorem in_key {w : World} {g t : Nat} {x : Txs.In} {u : Value} (h : Bk w g t (inCells x u).toArray) (hx : x.Ok) : w.cell? ⟨g, 33, none⟩ = some u := by
  rw [h.cell]
  simp only [List.getElem?_toArray, inCells]
  rw [List.getElem?_append_right (by rw [List.length_map, hx.1]; omega), List.length_map, hx.1]
  rfl
theorem in_n {w : World} {g t : Nat} {x : Txs.In} {u : Value} (h : Bk w g t (inCells x u).toArray) (hx : x.Ok) : w.cell? ⟨g, 32, none⟩ = some (.int .u32 (x.n : Int)) := by
  rw [h.cell]
  simp only [List.getElem?_toArray, inCells]
  rw [List.getElem?_append_right (by rw [List.length_map, hx.1]; omega), List.length_map, hx.1]
  rfl
theorem all_take' {α : Type} {l : List α} {k : Nat} (hk : k < l.length) (p : α → Bool) (h : (l.take k).all p = true) (hp : p l[k] = true) : (l.take (k + 1)).all p = true := by
  rw [List.take_succ_eq_append_getElem hk, List.all_append, h]; simp [hp]
set_option maxHeartbeats 1000000 in
theorem form_any (t : Txs.Tx) (A A' : Option Addr) (c c' B : Nat) (w : World) (h : TxAt w B t A c A' c') (hB : B ≤ w.heap.size) :
    Calls Tryd.prog 84 #[txV t A c A' c'] w fun e w' => e = .returned (.bool (Txs.form t)) ∧ Below w.heap.size w w' := by
  have hmi := Nat.le_trans h.ic h.im
  have hmo := Nat.le_trans h.oc h.om
  unfold maxLen at hmi hmo
  have HI := Lib.hid h.ins
  unfold txV
  generalize hv : t.version = ver at *
  clear hv h
  obtain ⟨w1, hw1⟩ : ∃ w1, w1 = w.alloc (.cells #[.int .u32 (ver : Int), .slice A t.ins.length c, .slice A' t.outs.length c'] 49) := ⟨_, rfl⟩
  have HK := Lib.hid (show Bk w1 w.heap.size 49 #[.int .u32 (ver : Int), .slice A t.ins.length c, .slice A' t.outs.length c'] by rw [hw1]; exact Bk.new _ _ _)
  have HZ := Lib.hid (show w1.heap.size = w.heap.size + 1 by rw [hw1]; simp)
  have HW := Lib.hid (show Below w.heap.size w w1 by rw [hw1]; exact Joins.below_alloc1 _ _)
  have HI1 := Lib.hid (show InsAt w1 B A t.ins from HI.out.below (HW.out.mono hB))
  have k1 : w1.cell? ⟨w.heap.size, 1, none⟩ = some (.slice A t.ins.length c) := (HK.out.cell 1).trans rfl
  go_enter Tryd.func84, Tryd.ntmps84
  go_wp2_with fail
  rw [← hw1]
  clear hw1
  go_wp2_with fail
  go_loopw [8] (fun i wr => ∃ k : Nat, k ≤ t.ins.length ∧ i = .int .i64 (k : Int) ∧ Hid ((t.ins.take k).all (fun x => decide (x.key.length ≤ 64)) = true) ∧ Hid (Below w1.heap.size w1 wr)) (fun i _ => t.ins.length - (intOf i).toNat)
  case atStart => exact ⟨0, Nat.zero_le _, rfl, Lib.hid rfl, Lib.hid (Below.refl _ _)⟩
  case round =>
    obtain ⟨k, hk, rfl, ha, hb⟩ := hrel
    by_cases hlt : k < t.ins.length
    · obtain ⟨b, off, Ak, ck, rfl, _, hr, hok, hkc, hkm, _⟩ := (HI1.out.below (hb.out.mono (by rw [HZ.out]; omega))).range hlt
      have HN := Lib.hid (fun hp => all_take' hlt (fun x => decide (x.key.length ≤ 64)) ha.out hp)
      have HX : Hid (¬ t.ins[k].key.length ≤ 64 → Txs.form t = false) := Lib.hid fun hp => by
        unfold Txs.form
        rw [show t.ins.all (fun x => decide (x.key.length ≤ 64)) = false from by rw [List.all_eq_false]; exact ⟨t.ins[k], List.getElem_mem hlt, by simpa using hp⟩]
        rfl
      have HR := Lib.hid hr
      have HOK := Lib.hid hok
      clear hr hok
      generalize t.ins[k] = x at *
      have HL := Lib.hid (inCells_len HOK.out (.slice Ak x.key.length ck))
      have HKY := Lib.hid (in_key (Bk.new _ 97 (inCells x (.slice Ak x.key.length ck)).toArray : Bk (wr.alloc (.cells (inCells x (.slice Ak x.key.length ck)).toArray 97)) wr.heap.size _ _) HOK.out)
      have HONE := Lib.hid (inCells_one x Ak x.key.length ck)
      have hkl : x.key.length ≤ 9223372036854775807 := by unfold maxLen at hkm; omega
      obtain ⟨ky, hky⟩ : ∃ ky, ky = x.key.length := ⟨_, rfl⟩
      rw [← hky] at HR HL HKY HONE hkl HN HX hkc
      generalize hcs : inCells x (.slice Ak ky ck) = cs at *
      have HZI := zero_in
      have HZL := Lib.hid zeroIn_len
      generalize (inCells ⟨List.replicate 32 0, 0, []⟩ (.slice none 0 0)).toArray = zs at *
      have HZI := Lib.hid HZI
      clear hky hcs
      go_wp2_with (refine wpList_elem rfl rfl rfl 97 (.tmp 10) (.tmp 4) (.tmp 11) rfl rfl rfl b (off + k * 34) (by rfl) cs _ HR.out Tryd.underlying97 rfl (by rw [HL.out]; exact size_in) zs HZI.out (by rw [HZL.out, HL.out]) HONE.out (by rfl) (by rfl) ?_; have hcell := HKY.out)
      · have h64 : (64 : Int) < (ky : Int) := by assumption
        go_ret
        exact ⟨ret_bool (HX.out (by omega)).symm, HW.out.trans ((hb.out.alloc hb.out.size _).mono (by rw [HZ.out]; omega))⟩
      · have h64 : (ky : Int) ≤ 64 := by assumption
        go_roundw
        case rel => exact ⟨k + 1, by omega, by go_num, Lib.hid (HN.out (by rw [decide_eq_true_eq]; omega)), Lib.hid (hb.out.alloc hb.out.size _)⟩
        case measure => simp [intOf]; omega
    · have hkl : k = t.ins.length := by omega
      have HA := Lib.hid (show t.ins.all (fun x => decide (x.key.length ≤ 64)) = true by have := ha.out; rwa [hkl, List.take_of_length_le (Nat.le_refl _)] at this)
      have c1 : wr.cell? ⟨w.heap.size, 1, none⟩ = some (.slice A t.ins.length c) := (hb.out.cell (p := ⟨w.heap.size, 1, none⟩) HK.out.lt).trans ((HK.out.cell 1).trans rfl)
      have c2 : wr.cell? ⟨w.heap.size, 2, none⟩ = some (.slice A' t.outs.length c') := (hb.out.cell (p := ⟨w.heap.size, 2, none⟩) HK.out.lt).trans ((HK.out.cell 2).trans rfl)
      have HB := Lib.hid (HW.out.trans (hb.out.mono (by rw [HZ.out]; omega)))
      have HF := Lib.hid (show Txs.form t = (decide (t.ins.length ≤ 8) && decide (t.outs.length ≤ 8)) by unfold Txs.form; rw [HA.out]; rfl)
      clear hkl ha k1 hb
      by_cases hi8 : t.ins.length ≤ 8
      · have hi8' : (t.ins.length : Int) ≤ 8 := by omega
        go_wp2_with fail
        go_ret
        refine ⟨ret_bool ?_, HB.out⟩
        rw [HF.out, decide_eq_true hi8, Bool.true_and, decide_eq_decide]
        omega
      · have hi8' : ¬ (t.ins.length : Int) ≤ 8 := by omega
        go_wp2_with fail
        go_ret
        refine ⟨ret_bool ?_, HB.out⟩
        rw [HF.out, decide_eq_false hi8]
        rfl
end Go.Proofs.YtpacgblddeoheaaDoor.T7
