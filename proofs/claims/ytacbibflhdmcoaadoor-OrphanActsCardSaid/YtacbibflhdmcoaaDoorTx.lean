/- How transactions lie in memory. -/
import Derived.Test.YtacbibflhdmcoaaDoorBase
import Derived.Test.YtacbibflhdmcoaaDoorTxPure
import Derived.Lib.SmallJoins
namespace Go.Proofs.YtacbibflhdmcoaaDoor.T7
open Go.RowKit Go.Deep Go.ChangeShapes Go.WideShapes Go.ChangeAt
set_option linter.unusedVariables false
set_option linter.unusedSimpArgs false
set_option maxRecDepth 100000

def inCells (x : Txs.In) (u : Value) : List Value := x.hash.map byteV ++ [.int .u32 (x.n : Int), u]
def outCells (x : Txs.Out) : List Value := .int .u64 (x.value : Int) :: x.lock.map byteV
def IsIn (w : World) (B : Nat) (vs : List Value) (x : Txs.In) : Prop :=
  x.Ok ∧ ∃ A cap, vs = inCells x (.slice A x.key.length cap) ∧ x.key.length ≤ cap ∧ cap ≤ maxLen ∧ BytesAt w B A x.key
def IsOut (vs : List Value) (x : Txs.Out) : Prop := x.Ok ∧ vs = outCells x
abbrev InsAt (w : World) (B : Nat) (A : Option Addr) (l : List Txs.In) : Prop := At 34 (IsIn w B) w B A l
abbrev OutsAt (w : World) (B : Nat) (A : Option Addr) (l : List Txs.Out) : Prop := At 33 IsOut w B A l
/-- a transaction, as a value -/
def txV (t : Txs.Tx) (A : Option Addr) (c : Nat) (A' : Option Addr) (c' : Nat) : Value := .agg #[.int .u32 (t.version : Int), .slice A t.ins.length c, .slice A' t.outs.length c']
structure TxAt (w : World) (B : Nat) (t : Txs.Tx) (A : Option Addr) (c : Nat) (A' : Option Addr) (c' : Nat) : Prop where
  v : t.version < 4294967296
  ic : t.ins.length ≤ c
  im : c ≤ maxLen
  oc : t.outs.length ≤ c'
  om : c' ≤ maxLen
  ins : InsAt w B A t.ins
  outs : OutsAt w B A' t.outs
def IsTx (w : World) (B : Nat) (v : Value) (t : Txs.Tx) : Prop := ∃ A c A' c', v = txV t A c A' c' ∧ TxAt w B t A c A' c'
theorem IsIn.below {w w' : World} {B : Nat} {vs : List Value} {x : Txs.In} (h : IsIn w B vs x) (hb : Below B w w') : IsIn w' B vs x := by
  obtain ⟨k, A, cap, h1, h2, h3, h4⟩ := h
  exact ⟨k, A, cap, h1, h2, h3, At.below h4 hb⟩
theorem IsIn.mono {w : World} {B B' : Nat} {vs : List Value} {x : Txs.In} (h : IsIn w B vs x) (hb : B ≤ B') : IsIn w B' vs x := by
  obtain ⟨k, A, cap, h1, h2, h3, h4⟩ := h
  exact ⟨k, A, cap, h1, h2, h3, At.mono h4 hb⟩
theorem InsAt.below {w w' : World} {B : Nat} {A : Option Addr} {l : List Txs.In} (h : InsAt w B A l) (hb : Below B w w') : InsAt w' B A l :=
  At.imp (At.below h hb) fun _ _ h => h.below hb
theorem InsAt.mono {w : World} {B B' : Nat} {A : Option Addr} {l : List Txs.In} (h : InsAt w B A l) (hb : B ≤ B') : InsAt w B' A l :=
  At.imp (At.mono h hb) fun _ _ h => h.mono hb
theorem TxAt.below {w w' : World} {B : Nat} {t : Txs.Tx} {A A' : Option Addr} {c c' : Nat} (h : TxAt w B t A c A' c') (hb : Below B w w') : TxAt w' B t A c A' c' :=
  ⟨h.v, h.ic, h.im, h.oc, h.om, h.ins.below hb, At.below h.outs hb⟩
theorem TxAt.mono {w : World} {B B' : Nat} {t : Txs.Tx} {A A' : Option Addr} {c c' : Nat} (h : TxAt w B t A c A' c') (hb : B ≤ B') : TxAt w B' t A c A' c' :=
  ⟨h.v, h.ic, h.im, h.oc, h.om, h.ins.mono hb, At.mono h.outs hb⟩
theorem all_of_at {α : Type} {k : Nat} {R : List Value → α → Prop} {w : World} {B : Nat} {A : Option Addr} {l : List α} (h : At k R w B A l) {p : α → Prop} (hp : ∀ vs x, R vs x → p x) : ∀ x ∈ l, p x := by
  intro x hx
  obtain ⟨i, hi, rfl⟩ := List.mem_iff_getElem.1 hx
  obtain ⟨_, _, vs, _, _, hR, _⟩ := h i hi
  exact hp _ _ hR
theorem TxAt.ok {w : World} {B : Nat} {t : Txs.Tx} {A A' : Option Addr} {c c' : Nat} (h : TxAt w B t A c A' c') : t.Ok :=
  ⟨h.v, all_of_at h.ins fun _ _ h => h.1, all_of_at h.outs fun _ _ h => h.1⟩
theorem inCells_len {x : Txs.In} (h : x.Ok) (u : Value) : (inCells x u).length = 34 := by unfold inCells; rw [List.length_append, List.length_map, h.1]; rfl
theorem outCells_len {x : Txs.Out} (h : x.Ok) : (outCells x).length = 33 := by unfold outCells; rw [List.length_cons, List.length_map, h.2]
/-- an input, its cells -/
theorem InsAt.range {w : World} {B : Nat} {A : Option Addr} {l : List Txs.In} (h : InsAt w B A l) {i : Nat} (hi : i < l.length) :
    ∃ b off A' cap, A = some ⟨b, off, none⟩ ∧ b < B ∧ w.rangeAt b (off + i * 34) (inCells l[i] (.slice A' l[i].key.length cap)) ∧ l[i].Ok ∧ l[i].key.length ≤ cap ∧ cap ≤ maxLen ∧ BytesAt w B A' l[i].key := by
  obtain ⟨b, off, vs, hA, hb, ⟨hk, A', cap, hvs, h1, h2, h3⟩, hc⟩ := h i hi
  refine ⟨b, off, A', cap, hA, hb, fun j v hv => ?_, hk, h1, h2, h3⟩
  rw [← hvs] at hv
  obtain ⟨hj, rfl⟩ := List.getElem?_eq_some_iff.1 hv
  exact hc j hj
theorem OutsAt.range {w : World} {B : Nat} {A : Option Addr} {l : List Txs.Out} (h : OutsAt w B A l) {i : Nat} (hi : i < l.length) :
    ∃ b off, A = some ⟨b, off, none⟩ ∧ b < B ∧ w.rangeAt b (off + i * 33) (outCells l[i]) ∧ l[i].Ok := by
  obtain ⟨b, off, vs, hA, hb, ⟨hk, hvs⟩, hc⟩ := h i hi
  refine ⟨b, off, hA, hb, fun j v hv => ?_, hk⟩
  rw [← hvs] at hv
  obtain ⟨hj, rfl⟩ := List.getElem?_eq_some_iff.1 hv
  exact hc j hj
/-! ### what came in -/
theorem bytes_of_cells : ∀ (hs : List Value), (∀ i, i < hs.length → ∃ b : UInt8, (hs.drop i).take 1 = [byteV b]) → ∃ l : List UInt8, hs = l.map byteV
  | [], _ => ⟨[], rfl⟩
  | v :: hs, h => by
    obtain ⟨b, hb⟩ := h 0 (by simp)
    obtain ⟨l, hl⟩ := bytes_of_cells hs fun i hi => by simpa using h (i + 1) (by simpa using hi)
    refine ⟨b :: l, ?_⟩
    simp only [List.drop_zero, List.take_succ_cons, List.take_zero, List.cons.injEq, and_true] at hb
    rw [hl, hb]; rfl
section
variable {H : Type} {enc : TypeId × Value → H} {W : World} {base : Nat} {sp : Nat → Bool} {held : Bool}
theorem hash_open {n : Nat} {cs : List Value} {x : DataW H × List MemPlace} (h : DataW.trod enc Tryd.prog W base sp held n 54 cs = some x) : ∃ l : List UInt8, cs = l.map byteV ∧ l.length = 32 := by
  obtain ⟨xs, m, _, _, hl, hx, hi⟩ := DataW.trod_array Tryd.underlying54 h
  have h1 : Tryd.prog.cellsOf 5 = 1 := by kernel_rfl
  have h32 : Tryd.prog.cellsOf 54 = 32 := by kernel_rfl
  rw [h32] at hl
  obtain ⟨l, rfl⟩ := bytes_of_cells cs fun i hil => by
    have := hi i (by omega)
    rw [h1, Nat.mul_one, List.getElem?_eq_getElem (by omega)] at this
    obtain ⟨k, hk, _, hw⟩ := DataW.trod_int Tryd.underlying5 this
    obtain ⟨b, rfl⟩ := byte_of hw
    exact ⟨b, hk⟩
  exact ⟨l, rfl, by simpa using hl⟩
theorem isOut_open (n : Nat) (cs : List Value) (x : DataW H × List MemPlace) (hl : cs.length = 33)
    (h : DataW.trod enc Tryd.prog W base sp held n 94 cs = some x) : ∃ y : Txs.Out, IsOut cs y := by
  obtain ⟨y0, y1, m, _, _, h0, h1⟩ := trod_struct2 Tryd.underlying94 h
  have c64 : Tryd.prog.cellsOf 37 = 1 := by kernel_rfl
  have ch : Tryd.prog.cellsOf 54 = 32 := by kernel_rfl
  simp only [c64, ch, List.drop_zero] at h0 h1
  obtain ⟨k, hk, _, hw⟩ := DataW.trod_int Tryd.underlying37 h0
  obtain ⟨l, hl1, hl2⟩ := hash_open h1
  obtain ⟨hk0, hk1⟩ := wf_u64 hw
  match cs, hl with
  | v :: cs, hl =>
    simp only [List.take_succ_cons, List.take_zero, List.cons.injEq, and_true] at hk
    simp only [List.drop_succ_cons, List.drop_zero] at hl1
    rw [List.take_of_length_le (by simp at hl; omega)] at hl1
    refine ⟨⟨k.toNat, l⟩, ⟨by show k.toNat < _; omega, hl2⟩, ?_⟩
    unfold outCells
    rw [hk, hl1]
    simp only [List.cons.injEq, Value.int.injEq, true_and, and_true]
    omega
theorem isIn_open (n : Nat) (cs : List Value) (x : DataW H × List MemPlace) (hl : cs.length = 34)
    (h : DataW.trod enc Tryd.prog W 0 (fun _ => true) true n 91 cs = some x) : ∃ y : Txs.In, IsIn W W.heap.size cs y := by
  obtain ⟨y0, y1, m, _, _, h0, h1⟩ := trod_struct2 Tryd.underlying91 h
  have cp : Tryd.prog.cellsOf 78 = 33 := by kernel_rfl
  have cs1 : Tryd.prog.cellsOf 89 = 1 := by kernel_rfl
  have ch : Tryd.prog.cellsOf 54 = 32 := by kernel_rfl
  have cu : Tryd.prog.cellsOf 31 = 1 := by kernel_rfl
  simp only [cp, cs1, List.drop_zero] at h0 h1
  obtain ⟨z0, z1, m', _, _, g0, g1⟩ := trod_struct2 Tryd.underlying78 h0
  simp only [ch, cu, List.drop_zero] at g0 g1
  obtain ⟨l, hl1, hl2⟩ := hash_open g0
  obtain ⟨k, hk, _, hw⟩ := DataW.trod_int Tryd.underlying31 g1
  obtain ⟨hk0, hk1⟩ := wf_u32 hw
  obtain ⟨v, hv⟩ : ∃ v, (cs.drop 33).take 1 = [v] := by
    have : ((cs.drop 33).take 1).length = 1 := by simp; omega
    exact List.length_eq_one_iff.1 this
  rw [hv] at h1
  obtain ⟨A, len, cap, kb, rfl, hkl, hkc, hkm, hkat⟩ := open_at_of IsByte 1 (by omega) Tryd.underlying89 (by kernel_rfl) h1 isByte_open
  subst hkl
  refine ⟨⟨l, k.toNat, kb⟩, ⟨hl2, by show k.toNat < _; omega⟩, A, cap, ?_, hkc, hkm, hkat⟩
  unfold inCells
  have e1 : cs = cs.take 32 ++ ((cs.drop 32).take 1 ++ (cs.drop 33).take 1) := by
    have a1 : cs.drop 32 = (cs.drop 32).take 1 ++ (cs.drop 33) := by
      have := (List.take_append_drop 1 (cs.drop 32)).symm
      rwa [List.drop_drop] at this
    have a2 : (cs.drop 33).take 1 = cs.drop 33 := List.take_of_length_le (by simp; omega)
    rw [a2, ← a1, List.take_append_drop]
  have e2 : cs.take 32 = l.map byteV := by
    rw [List.take_take] at hl1
    simpa using hl1
  have e3 : (cs.drop 32).take 1 = [.int .u32 k] := by
    rw [List.drop_take] at hk
    simpa [List.take_take] using hk
  rw [e1, e2, e3, hv]
  simp only [List.append_cancel_left_eq, List.cons_append, List.nil_append, List.cons.injEq, Value.int.injEq, true_and, and_true]
  omega
theorem tx_open {v : Value} {d : DataW H} {p : List MemPlace} (hv : Value.okWide Tryd.prog W .any 0 35 v) (h : DataW.Trod enc Tryd.prog W 0 (fun _ => true) true 35 v d p) : ∃ t A c A' c', v = txV t A c A' c' ∧ TxAt W W.heap.size t A c A' c' := by
  obtain ⟨v0, v1, v2, y0, y1, y2, m, rfl, _, _, h0, h1, h2⟩ := Joins.open_agg3 Tryd.underlying35 (by kernel_rfl) (by kernel_rfl) hv h
  obtain ⟨k, hk, _, hw⟩ := DataW.trod_int Tryd.underlying31 h0
  injection hk with hk _
  subst hk
  obtain ⟨hk0, hk1⟩ := wf_u32 hw
  obtain ⟨A, len, c, l, rfl, hl, hc, hm, hat⟩ := open_at_of (IsIn W W.heap.size) 34 (by omega) Tryd.underlying32 (by kernel_rfl) h1 isIn_open
  subst hl
  obtain ⟨A', len', c', l', rfl, hl', hc', hm', hat'⟩ := open_at_of IsOut 33 (by omega) Tryd.underlying33 (by kernel_rfl) h2 (fun n cs x => isOut_open n cs x)
  subst hl'
  refine ⟨⟨k.toNat, l, l'⟩, A, c, A', c', ?_, by show k.toNat < _; omega, hc, hm, hc', hm', hat, hat'⟩
  unfold txV
  rw [show ((k.toNat : Nat) : Int) = k by omega]
end
end Go.Proofs.YtacbibflhdmcoaaDoor.T7
