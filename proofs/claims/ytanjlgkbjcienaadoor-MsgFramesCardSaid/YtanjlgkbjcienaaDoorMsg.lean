/- How messages lie in memory. -/
import Derived.Test.YtanjlgkbjcienaaDoorTxGet
import Derived.Test.YtanjlgkbjcienaaDoorMsgPure
namespace Go.Proofs.YtanjlgkbjcienaaDoor.M8
open Go.RowKit Go.Deep Go.ChangeShapes Go.WideShapes Go.ChangeAt T7
set_option linter.unusedVariables false
set_option linter.unusedSimpArgs false
set_option maxRecDepth 100000

def IsHash (vs : List Value) (l : List UInt8) : Prop := l.length = 32 ∧ vs = l.map byteV
abbrev HashesAt (w : World) (B : Nat) (A : Option Addr) (l : List (List UInt8)) : Prop := At 32 IsHash w B A l
theorem HashesAt.range {w : World} {B : Nat} {A : Option Addr} {l : List (List UInt8)} (h : HashesAt w B A l) {i : Nat} (hi : i < l.length) :
    ∃ b off, A = some ⟨b, off, none⟩ ∧ b < B ∧ w.rangeAt b (off + i * 32) (l[i].map byteV) ∧ l[i].length = 32 := by
  obtain ⟨b, off, vs, hA, hb, ⟨hk, hvs⟩, hc⟩ := h i hi
  refine ⟨b, off, hA, hb, fun j v hv => ?_, hk⟩
  rw [← hvs] at hv
  obtain ⟨hj, rfl⟩ := List.getElem?_eq_some_iff.1 hv
  exact hc j hj
/-- a message's cells -/
def mCells (k : Int) (n code : Nat) (I : Value) (v : Nat) (i o : Value) : Array Value := #[.int .i64 k, .int .u64 (n : Int), .int .u32 (code : Int), I, .int .u32 (v : Int), i, o]
/-- a message, as a value -/
def msgV (m : Msgs.Msg) (A : Option Addr) (c : Nat) (A1 : Option Addr) (c1 : Nat) (A2 : Option Addr) (c2 : Nat) : Value :=
  .agg #[.int .i64 m.kind, .int .u64 (m.n : Int), .int .u32 (m.code : Int), .slice A m.ids.length c, .int .u32 (m.tx.version : Int), .slice A1 m.tx.ins.length c1, .slice A2 m.tx.outs.length c2]
structure MsgAt (w : World) (B : Nat) (m : Msgs.Msg) (A : Option Addr) (c : Nat) (A1 : Option Addr) (c1 : Nat) (A2 : Option Addr) (c2 : Nat) : Prop where
  lo : -9223372036854775808 ≤ m.kind
  hi : m.kind ≤ 9223372036854775807
  n : m.n < 18446744073709551616
  code : m.code < 4294967296
  ic : m.ids.length ≤ c
  im : c ≤ maxLen
  ids : HashesAt w B A m.ids
  tx : TxAt w B m.tx A1 c1 A2 c2
section
variable {w w' : World} {B B' : Nat} {m : Msgs.Msg} {A A1 A2 : Option Addr} {c c1 c2 : Nat}
theorem MsgAt.below (h : MsgAt w B m A c A1 c1 A2 c2) (hb : Below B w w') : MsgAt w' B m A c A1 c1 A2 c2 := ⟨h.lo, h.hi, h.n, h.code, h.ic, h.im, At.below h.ids hb, h.tx.below hb⟩
theorem MsgAt.mono (h : MsgAt w B m A c A1 c1 A2 c2) (hb : B ≤ B') : MsgAt w B' m A c A1 c1 A2 c2 := ⟨h.lo, h.hi, h.n, h.code, h.ic, h.im, At.mono h.ids hb, h.tx.mono hb⟩
theorem MsgAt.ok (h : MsgAt w B m A c A1 c1 A2 c2) : m.Ok := ⟨h.lo, h.hi, h.n, h.code, all_of_at h.ids fun _ _ h => h.1, h.tx.ok⟩
end
/-- a message that was read, and an error's number -/
def MsgOut (w w' : World) (r : Msgs.Msg × Int) (e : Ending) : Prop :=
  ∃ A c A1 c1 A2 c2, e = .returned (.tuple #[msgV r.1 A c A1 c1 A2 c2, .int .i64 r.2]) ∧ MsgAt w' w'.heap.size r.1 A c A1 c1 A2 c2 ∧ Below w.heap.size w w'
theorem none_tx (w : World) (B : Nat) : TxAt w B Txs.none none 0 none 0 := ⟨by decide, Nat.le_refl _, by simp [maxLen], Nat.le_refl _, by simp [maxLen], fun i hi => by simp [Txs.none] at hi, fun i hi => by simp [Txs.none] at hi⟩
theorem none_msg (w : World) (B : Nat) : MsgAt w B Msgs.none none 0 none 0 none 0 := ⟨by decide, by decide, by decide, by decide, Nat.le_refl _, by simp [maxLen], fun i hi => by simp [Msgs.none] at hi, none_tx w B⟩
theorem size_msg : (Tryd.prog.info? 30).map (·.size) = some 7 := by kernel_rfl
theorem zero_msg : (Tryd.prog.info? 30).map (·.zero) = some (some (.agg #[.int .i64 0, .int .u64 0, .int .u32 0, .slice none 0 0, .int .u32 0, .slice none 0 0, .slice none 0 0])) := by kernel_rfl
theorem msg_cells {w : World} {g : Nat} {T : TypeId} {k : Int} {n code v : Nat} {I i o : Value} (h : Bk w g T (mCells k n code I v i o)) :
    w.cell? ⟨g, 0, none⟩ = some (.int .i64 k) ∧ w.cell? ⟨g, 1, none⟩ = some (.int .u64 (n : Int)) ∧ w.cell? ⟨g, 2, none⟩ = some (.int .u32 (code : Int)) ∧ w.cell? ⟨g, 3, none⟩ = some I ∧
    w.cell? ⟨g, 4, none⟩ = some (.int .u32 (v : Int)) ∧ w.cell? ⟨g, 5, none⟩ = some i ∧ w.cell? ⟨g, 6, none⟩ = some o :=
  ⟨(h.cell 0).trans rfl, (h.cell 1).trans rfl, (h.cell 2).trans rfl, (h.cell 3).trans rfl, (h.cell 4).trans rfl, (h.cell 5).trans rfl, (h.cell 6).trans rfl⟩
/-! ### what came in -/
theorem array7 {α : Type} {cs : Array α} (h : cs.size = 7) : ∃ c0 c1 c2 c3 c4 c5 c6, cs = #[c0, c1, c2, c3, c4, c5, c6] := by
  obtain ⟨l⟩ := cs
  match l, h with
  | [c0, c1, c2, c3, c4, c5, c6], _ => exact ⟨c0, c1, c2, c3, c4, c5, c6, rfl⟩
section
variable {H : Type} {enc : TypeId × Value → H} {W : World} {base : Nat} {sp : Nat → Bool} {held : Bool}
theorem trod_struct5 {P : Program} {t : TypeId} {f0 f1 f2 f3 f4 : Field} {fuel : Nat} {cs : List Value} {x : DataW H × List MemPlace} (ht : P.underlying t = some (.struct #[f0, f1, f2, f3, f4])) (h : DataW.trod enc P W base sp held fuel t cs = some x) :
    ∃ y0 y1 y2 y3 y4 n, DataW.trod enc P W base sp held n f0.type ((cs.drop f0.offset).take (P.cellsOf f0.type)) = some y0 ∧ DataW.trod enc P W base sp held n f1.type ((cs.drop f1.offset).take (P.cellsOf f1.type)) = some y1 ∧
      DataW.trod enc P W base sp held n f2.type ((cs.drop f2.offset).take (P.cellsOf f2.type)) = some y2 ∧ DataW.trod enc P W base sp held n f3.type ((cs.drop f3.offset).take (P.cellsOf f3.type)) = some y3 ∧ DataW.trod enc P W base sp held n f4.type ((cs.drop f4.offset).take (P.cellsOf f4.type)) = some y4 := by
  obtain ⟨xs, n, _, _, _, hx, hi⟩ := DataW.trod_struct ht h
  match xs, hx with
  | [y0, y1, y2, y3, y4], _ => exact ⟨y0, y1, y2, y3, y4, n, hi 0 f0 rfl, hi 1 f1 rfl, hi 2 f2 rfl, hi 3 f3 rfl, hi 4 f4 rfl⟩
theorem isHash_open (n : Nat) (cs : List Value) (x : DataW H × List MemPlace) (hl : cs.length = 32) (h : DataW.trod enc Tryd.prog W base sp held n 49 cs = some x) : ∃ y : List UInt8, IsHash cs y := by
  obtain ⟨l, h1, h2⟩ := hash_open h
  exact ⟨l, h2, h1⟩
theorem tx3_open {v4 v5 v6 : Value} {m : Nat} {y : DataW H × List MemPlace} (h : DataW.trod enc Tryd.prog W 0 (fun _ => true) true m 28 [v4, v5, v6] = some y) :
    ∃ t A c A' c', v4 = .int .u32 (t.version : Int) ∧ v5 = .slice A t.ins.length c ∧ v6 = .slice A' t.outs.length c' ∧ TxAt W W.heap.size t A c A' c' := by
  have cu : Tryd.prog.cellsOf 23 = 1 := by kernel_rfl
  have ci : Tryd.prog.cellsOf 25 = 1 := by kernel_rfl
  have co : Tryd.prog.cellsOf 26 = 1 := by kernel_rfl
  obtain ⟨z0, z1, z2, m', _, _, g0, g1, g2⟩ := trod_struct3 Tryd.underlying28 h
  simp only [cu, ci, co, List.drop_zero, List.drop_succ_cons, List.take_succ_cons, List.take_zero] at g0 g1 g2
  obtain ⟨k2, e2, _, w2⟩ := DataW.trod_int Tryd.underlying23 g0
  obtain ⟨a2, b2⟩ := wf_u32 w2
  injection e2 with e2 _
  subst e2
  obtain ⟨A, len, c, li, rfl, hl, hc, hm, hat⟩ := open_at_of (IsIn W W.heap.size) 34 (by omega) Tryd.underlying25 (by kernel_rfl) g1 isIn_open
  subst hl
  obtain ⟨A', len', c', lo, rfl, hl', hc', hm', hat'⟩ := open_at_of IsOut 33 (by omega) Tryd.underlying26 (by kernel_rfl) g2 (fun n cs x => isOut_open n cs x)
  subst hl'
  refine ⟨⟨k2.toNat, li, lo⟩, A, c, A', c', ?_, rfl, rfl, ⟨by show k2.toNat < _; omega, hc, hm, hc', hm', hat, hat'⟩⟩
  show _ = Value.int .u32 ((k2.toNat : Nat) : Int)
  rw [show ((k2.toNat : Nat) : Int) = k2 by omega]
theorem msg7_open {v0 v1 v2 v3 v4 v5 v6 : Value} {m : Nat} {y : DataW H × List MemPlace} (h : DataW.trod enc Tryd.prog W 0 (fun _ => true) true m 30 [v0, v1, v2, v3, v4, v5, v6] = some y) :
    ∃ t A c A1 c1 A2 c2, Value.agg #[v0, v1, v2, v3, v4, v5, v6] = msgV t A c A1 c1 A2 c2 ∧ MsgAt W W.heap.size t A c A1 c1 A2 c2 := by
  have c3 : Tryd.prog.cellsOf 3 = 1 := by kernel_rfl
  have ctx : Tryd.prog.cellsOf 28 = 3 := by kernel_rfl
  have chs : Tryd.prog.cellsOf 24 = 1 := by kernel_rfl
  have c64 : Tryd.prog.cellsOf 22 = 1 := by kernel_rfl
  have c32 : Tryd.prog.cellsOf 23 = 1 := by kernel_rfl
  obtain ⟨y0, y1, y2, y3, y4, m', h0, h1, h2, h3, h4⟩ := trod_struct5 Tryd.underlying30 h
  simp only [c3, ctx, chs, c64, c32] at h0 h1 h2 h3 h4
  simp only [List.drop_zero, List.drop_succ_cons, List.take_succ_cons, List.take_zero] at h0 h1 h2 h3 h4
  obtain ⟨k0, e0, _, w0⟩ := DataW.trod_int Tryd.underlying3 h0
  obtain ⟨k1, e1, _, w1⟩ := DataW.trod_int Tryd.underlying22 h1
  obtain ⟨k2, e2, _, w2⟩ := DataW.trod_int Tryd.underlying23 h2
  obtain ⟨a0, b0⟩ := wf_i64 w0
  obtain ⟨a1, b1⟩ := wf_u64 w1
  obtain ⟨a2, b2⟩ := wf_u32 w2
  injection e0 with e0 _
  injection e1 with e1 _
  injection e2 with e2 _
  subst e0 e1 e2
  obtain ⟨Ap, lenp, cp, lp, rfl, hlp, hcp, hmp, hatp⟩ := open_at_of IsHash 32 (by omega) Tryd.underlying24 (by kernel_rfl) h3 (fun n cs x => isHash_open n cs x)
  subst hlp
  obtain ⟨t, A1, c1, A2, c2, rfl, rfl, rfl, ht⟩ := tx3_open h4
  refine ⟨⟨k0, k1.toNat, k2.toNat, lp, t⟩, Ap, cp, A1, c1, A2, c2, ?_, ⟨a0, b0, by show k1.toNat < _; omega, by show k2.toNat < _; omega, hcp, hmp, hatp, ht⟩⟩
  unfold msgV
  simp only [show ((k1.toNat : Nat) : Int) = k1 by omega, show ((k2.toNat : Nat) : Int) = k2 by omega]
theorem msg_open {v : Value} {d : DataW H} {p : List MemPlace} (hv : Value.okWide Tryd.prog W .any 0 30 v) (h : DataW.Trod enc Tryd.prog W 0 (fun _ => true) true 30 v d p) :
    ∃ t A c A1 c1 A2 c2, v = msgV t A c A1 c1 A2 c2 ∧ MsgAt W W.heap.size t A c A1 c1 A2 c2 := by
  obtain ⟨cs, rfl, hsz⟩ := okWide_struct Tryd.underlying30 hv
  obtain ⟨v0, v1, v2, v3, v4, v5, v6, rfl⟩ := array7 (hsz.trans (by kernel_rfl))
  obtain ⟨fuel, hf⟩ := h
  obtain ⟨t, A, c, A1, c1, A2, c2, h1, h2⟩ := msg7_open (by simpa [Value.cells] using hf)
  exact ⟨t, A, c, A1, c1, A2, c2, h1, h2⟩
end
end Go.Proofs.YtanjlgkbjcienaaDoor.M8
