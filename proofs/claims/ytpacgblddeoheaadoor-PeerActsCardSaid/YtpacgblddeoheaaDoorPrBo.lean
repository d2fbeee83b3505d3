/- PrBo, merged: RpS, PrAct, PrBoth. -/
import Derived.Test.YtpacgblddeoheaaDoorPrRows
import Derived.Test.YtpacgblddeoheaaDoorPrIn
import Derived.Test.YtpacgblddeoheaaDoorRpRd
import Derived.Test.YtpacgblddeoheaaDoorRp
/- The document's SameMsgs. -/
namespace Go.Proofs.YtpacgblddeoheaaDoor.P22
open Go.RowKit Go.Deep M8 T7
set_option linter.unusedVariables false
set_option linter.unusedSimpArgs false
set_option maxRecDepth 100000
set_option maxHeartbeats 4000000
attribute [local go_sem ↓] Go.wp_at_zero Go.wp_at_succ

abbrev mOf (m : Nat × Nat × Nat) : List Value := (msgCells m.1 m.2.1 m.2.2).toList
theorem mOf_len (m : Nat × Nat × Nat) : (mOf m).length = 7 := rfl
theorem Outs.range {w : World} {base : Nat} {A : Option Addr} {n c : Nat} {l : List (Nat × Nat × Nat)} (h : Outs w base (.slice A n c) l) : n = l.length ∧ n ≤ c ∧ c ≤ maxLen ∧ ∀ j (hj : j < l.length), ∃ b, A = some ⟨b, 0, none⟩ ∧ b < w.heap.size ∧ w.rangeAt b (j * 7) (mOf l[j]) := by
  obtain ⟨A', c', hv, h1, h2, _, hc⟩ := own_form (show w.ownsRow _ _ _ _ _ _ from h)
  injection hv with q1 q2 q3
  subst q1 q3 q2
  refine ⟨rfl, h1, h2, fun j hj => ?_⟩
  have hcell : ∀ r (hr : r < 7), ∃ b, A = some ⟨b, 0, none⟩ ∧ b < w.heap.size ∧ w.cell? ⟨b, j * 7 + r, none⟩ = some ((mOf l[j])[r]'(by rw [mOf_len]; exact hr)) := fun r hr => by
    obtain ⟨b, e1, _, e2, e3⟩ := hc (j * 7 + r) ((mOf l[j])[r]'(by rw [mOf_len]; exact hr)) (by
      rw [flatMap_index l (fun x _ => mOf_len x) j hj r hr, List.getElem?_eq_getElem])
    exact ⟨b, e1, e2, e3⟩
  obtain ⟨b, hA, hb, _⟩ := hcell 0 (by omega)
  refine ⟨b, hA, hb, fun r u hu => ?_⟩
  obtain ⟨hr, rfl⟩ := List.getElem?_eq_some_iff.1 hu
  obtain ⟨b', hA', _, hcr⟩ := hcell r (by rw [mOf_len] at hr; exact hr)
  rw [hA] at hA'
  injection hA' with hA'
  injection hA' with hA' _
  subst hA'
  exact hcr
theorem own_anyv {w : World} {base : Nat} {v : Value} {l : List (Nat × Nat × Nat)} (h : Outs w base v l) : ∃ A c, v = .slice A l.length c := by
  obtain ⟨A, c, hv, _⟩ := own_form (show w.ownsRow _ _ _ _ _ _ from h)
  exact ⟨A, c, hv⟩
theorem plain_msg (w : World) (B : Nat) (k n c : Nat) (h1 : k ≤ 100) (h2 : n < 18446744073709551616) (h3 : c < 4294967296) : MsgAt w B ⟨(k : Int), n, c, [], Txs.none⟩ none 0 none 0 none 0 :=
  ⟨by show (-9223372036854775808 : Int) ≤ (k : Int); omega, by show (k : Int) ≤ 9223372036854775807; omega, h2, h3, Nat.le_refl _, by simp [maxLen], fun i hi => by simp at hi, none_tx w B⟩
theorem samemsgs_any (l : List (Nat × Nat × Nat)) (base base' : Nat) (v v' : Value) (w : World) (hrow : Outs w base v l) (hrow' : Outs w base' v' l) (hok : ∀ m ∈ l, m.1 ≤ 100 ∧ m.2.1 < 18446744073709551616 ∧ m.2.2 < 4294967296) :
    Calls Tryd.prog 14 #[v, v'] w fun e w' => e = .returned (.bool true) ∧ Below w.heap.size w w' := by
  obtain ⟨A, c, rfl⟩ := own_anyv hrow
  obtain ⟨A', c', rfl⟩ := own_anyv hrow'
  obtain ⟨_, hnc, hcm, hrng⟩ := hrow.range
  obtain ⟨_, hnc', hcm', hrng'⟩ := hrow'.range
  obtain ⟨n, hn⟩ : ∃ n, n = l.length := ⟨_, rfl⟩
  have hnm : n ≤ 9223372036854775807 := by unfold maxLen at hcm; omega
  have HN := Lib.hid hn
  have HRNG := Lib.hid hrng
  have HRNG' := Lib.hid hrng'
  have HOK := Lib.hid hok
  rw [← hn]
  clear hrow hrow' hrng hrng' hok hn hnc hcm hnc' hcm'
  go_enter Tryd.func14, Tryd.ntmps14
  go_wp2_with fail
  go_loopw [13] (fun iv wr => ∃ j : Nat, iv = .int .i64 (j : Int) ∧ j ≤ n ∧ Hid (Below w.heap.size w wr)) (fun iv _ => n - (intOf iv).toNat)
  case atStart => exact ⟨0, rfl, Nat.zero_le _, Lib.hid (Below.refl _ _)⟩
  case round =>
    obtain ⟨j, rfl, hj, hbr⟩ := hrel
    by_cases hlt : j < n
    · have hlt1 : j < l.length := by rw [← HN.out]; exact hlt
      obtain ⟨bi, rfl, hbl, hcells⟩ := HRNG.out j hlt1
      obtain ⟨bj, rfl, hbl', hcells'⟩ := HRNG'.out j hlt1
      obtain ⟨g1, g2, g3⟩ := HOK.out _ (List.getElem_mem hlt1)
      generalize l[j] = mm at *
      obtain ⟨mk, mn, mc⟩ := mm
      simp only [mOf] at g1 g2 g3 hcells hcells'
      have HSM : Hid (∀ W : World, Calls Tryd.prog 34 #[.agg #[.int .i64 (mk : Int), .int .u64 (mn : Int), .int .u32 (mc : Int), .slice none 0 0, .int .u32 0, .slice none 0 0, .slice none 0 0], .agg #[.int .i64 (mk : Int), .int .u64 (mn : Int), .int .u32 (mc : Int), .slice none 0 0, .int .u32 0, .slice none 0 0, .slice none 0 0]] W fun e w' => e = .returned (.bool true) ∧ Below W.heap.size W w') :=
        Lib.hid (fun W => rsame_self8 ⟨(mk : Int), mn, mc, [], Txs.none⟩ none none none none none none 0 0 0 0 0 0 0 0 W (plain_msg W 0 mk mn mc g1 g2 g3) (plain_msg W 0 mk mn mc g1 g2 g3) (Nat.zero_le _) (Nat.zero_le _))
      have k0 : wr.cell? ⟨bi, j * 7, none⟩ = some (.int .i64 (mk : Int)) := (hbr.out.cell (p := ⟨bi, j * 7, none⟩) hbl).trans (hcells 0 _ rfl)
      have k1 : wr.cell? ⟨bi, j * 7 + 1, none⟩ = some (.int .u64 (mn : Int)) := (hbr.out.cell (p := ⟨bi, j * 7 + 1, none⟩) hbl).trans (hcells 1 _ rfl)
      have k2 : wr.cell? ⟨bi, j * 7 + 2, none⟩ = some (.int .u32 (mc : Int)) := (hbr.out.cell (p := ⟨bi, j * 7 + 2, none⟩) hbl).trans (hcells 2 _ rfl)
      have k3 : wr.cell? ⟨bi, j * 7 + 3, none⟩ = some (.slice none 0 0) := (hbr.out.cell (p := ⟨bi, j * 7 + 3, none⟩) hbl).trans (hcells 3 _ rfl)
      have k4 : wr.cell? ⟨bi, j * 7 + 4, none⟩ = some (.int .u32 0) := (hbr.out.cell (p := ⟨bi, j * 7 + 4, none⟩) hbl).trans (hcells 4 _ rfl)
      have k5 : wr.cell? ⟨bi, j * 7 + 5, none⟩ = some (.slice none 0 0) := (hbr.out.cell (p := ⟨bi, j * 7 + 5, none⟩) hbl).trans (hcells 5 _ rfl)
      have k6 : wr.cell? ⟨bi, j * 7 + 6, none⟩ = some (.slice none 0 0) := (hbr.out.cell (p := ⟨bi, j * 7 + 6, none⟩) hbl).trans (hcells 6 _ rfl)
      have m0 : wr.cell? ⟨bj, j * 7, none⟩ = some (.int .i64 (mk : Int)) := (hbr.out.cell (p := ⟨bj, j * 7, none⟩) hbl').trans (hcells' 0 _ rfl)
      have m1 : wr.cell? ⟨bj, j * 7 + 1, none⟩ = some (.int .u64 (mn : Int)) := (hbr.out.cell (p := ⟨bj, j * 7 + 1, none⟩) hbl').trans (hcells' 1 _ rfl)
      have m2 : wr.cell? ⟨bj, j * 7 + 2, none⟩ = some (.int .u32 (mc : Int)) := (hbr.out.cell (p := ⟨bj, j * 7 + 2, none⟩) hbl').trans (hcells' 2 _ rfl)
      have m3 : wr.cell? ⟨bj, j * 7 + 3, none⟩ = some (.slice none 0 0) := (hbr.out.cell (p := ⟨bj, j * 7 + 3, none⟩) hbl').trans (hcells' 3 _ rfl)
      have m4 : wr.cell? ⟨bj, j * 7 + 4, none⟩ = some (.int .u32 0) := (hbr.out.cell (p := ⟨bj, j * 7 + 4, none⟩) hbl').trans (hcells' 4 _ rfl)
      have m5 : wr.cell? ⟨bj, j * 7 + 5, none⟩ = some (.slice none 0 0) := (hbr.out.cell (p := ⟨bj, j * 7 + 5, none⟩) hbl').trans (hcells' 5 _ rfl)
      have m6 : wr.cell? ⟨bj, j * 7 + 6, none⟩ = some (.slice none 0 0) := (hbr.out.cell (p := ⟨bj, j * 7 + 6, none⟩) hbl').trans (hcells' 6 _ rfl)
      have hbl1 : bi < wr.drew.heap.size := Nat.lt_of_lt_of_le hbl hbr.out.size
      have hbl2 : bj < wr.drew.heap.size := Nat.lt_of_lt_of_le hbl' hbr.out.size
      have i4 : (0 : Int) ≤ (j : Int) := by omega
      have i5 : (j : Int) < (n : Int) := by omega
      have HJ := Lib.hid hlt
      clear hcells hcells' g1 g2 g3
      go_upto_region 6 with (fail)
      go_region_held3 (fun W => W.cell? ⟨bi, j * 7, none⟩ = some (.int .i64 (mk : Int)) ∧ W.cell? ⟨bi, j * 7 + 1, none⟩ = some (.int .u64 (mn : Int)) ∧ W.cell? ⟨bi, j * 7 + 2, none⟩ = some (.int .u32 (mc : Int)) ∧ W.cell? ⟨bi, j * 7 + 3, none⟩ = some (.slice none 0 0) ∧ W.cell? ⟨bi, j * 7 + 4, none⟩ = some (.int .u32 0) ∧ W.cell? ⟨bi, j * 7 + 5, none⟩ = some (.slice none 0 0) ∧ W.cell? ⟨bi, j * 7 + 6, none⟩ = some (.slice none 0 0) ∧ W.cell? ⟨bj, j * 7, none⟩ = some (.int .i64 (mk : Int)) ∧ W.cell? ⟨bj, j * 7 + 1, none⟩ = some (.int .u64 (mn : Int)) ∧ W.cell? ⟨bj, j * 7 + 2, none⟩ = some (.int .u32 (mc : Int)) ∧ W.cell? ⟨bj, j * 7 + 3, none⟩ = some (.slice none 0 0) ∧ W.cell? ⟨bj, j * 7 + 4, none⟩ = some (.int .u32 0) ∧ W.cell? ⟨bj, j * 7 + 5, none⟩ = some (.slice none 0 0) ∧ W.cell? ⟨bj, j * 7 + 6, none⟩ = some (.slice none 0 0)) (first | go_keep | exact ⟨(hb12.cell (p := ⟨bi, j * 7, none⟩) hbl1).trans k0, (hb12.cell (p := ⟨bi, j * 7 + 1, none⟩) hbl1).trans k1, (hb12.cell (p := ⟨bi, j * 7 + 2, none⟩) hbl1).trans k2, (hb12.cell (p := ⟨bi, j * 7 + 3, none⟩) hbl1).trans k3, (hb12.cell (p := ⟨bi, j * 7 + 4, none⟩) hbl1).trans k4, (hb12.cell (p := ⟨bi, j * 7 + 5, none⟩) hbl1).trans k5, (hb12.cell (p := ⟨bi, j * 7 + 6, none⟩) hbl1).trans k6, (hb12.cell (p := ⟨bj, j * 7, none⟩) hbl2).trans m0, (hb12.cell (p := ⟨bj, j * 7 + 1, none⟩) hbl2).trans m1, (hb12.cell (p := ⟨bj, j * 7 + 2, none⟩) hbl2).trans m2, (hb12.cell (p := ⟨bj, j * 7 + 3, none⟩) hbl2).trans m3, (hb12.cell (p := ⟨bj, j * 7 + 4, none⟩) hbl2).trans m4, (hb12.cell (p := ⟨bj, j * 7 + 5, none⟩) hbl2).trans m5, (hb12.cell (p := ⟨bj, j * 7 + 6, none⟩) hbl2).trans m6⟩) ((go_at_call 34; (refine (HSM.out _).mono ?_); rintro e w12 ⟨rfl, hb12⟩))
      have HB12 := Lib.hid (hbr.out.trans (((Below.refl wr.heap.size wr).drew.trans hb12).mono hbr.out.size))
      go_wp2_with fail
      go_roundw
      case rel => exact ⟨j + 1, by go_num, HJ.out, HB12⟩
      case measure => have := HJ.out; simp [intOf]; omega
    · obtain rfl : j = n := by omega
      go_wp2_with fail
      go_ret
      exact ⟨rfl, hbr.out⟩
end Go.Proofs.YtpacgblddeoheaaDoor.P22
/- The peer law's acts in plain Lean and in memory; great. -/
namespace Go.Proofs.YtpacgblddeoheaaDoor.P22
open Go.RowKit Go.Deep M8 T7 Go.ChangeShapes Go.WideShapes Go.ChangeAt
set_option linter.unusedVariables false
set_option linter.unusedSimpArgs false
set_option maxRecDepth 100000
set_option maxHeartbeats 2000000
attribute [local go_sem ↓] Go.wp_at_zero Go.wp_at_succ

structure Act where
  kind : Int
  lane : Int
  bytes : List UInt8
  msg : Msgs.Msg
  now : Nat
def actCells (a : Act) (b I i o : Value) : List Value := [.int .i64 a.kind, .int .i64 a.lane, b, .int .i64 a.msg.kind, .int .u64 (a.msg.n : Int), .int .u32 (a.msg.code : Int), I, .int .u32 (a.msg.tx.version : Int), i, o, .int .u64 (a.now : Int)]
/-- an act, its cells -/
def IsAct (w : World) (B : Nat) (vs : List Value) (a : Act) : Prop :=
  a.now < 18446744073709551616 ∧ ∃ Ab cb A c A1 c1 A2 c2, vs = actCells a (.slice Ab a.bytes.length cb) (.slice A a.msg.ids.length c) (.slice A1 a.msg.tx.ins.length c1) (.slice A2 a.msg.tx.outs.length c2) ∧ a.bytes.length ≤ cb ∧ cb ≤ maxLen ∧ BytesAt w B Ab a.bytes ∧ MsgAt w B a.msg A c A1 c1 A2 c2
abbrev ActsAt (w : World) (B : Nat) (A : Option Addr) (l : List Act) : Prop := At 11 (IsAct w B) w B A l
theorem IsAct.below {w w' : World} {B : Nat} {vs : List Value} {a : Act} (h : IsAct w B vs a) (hb : Below B w w') : IsAct w' B vs a := by
  obtain ⟨h0, Ab, cb, A, c, A1, c1, A2, c2, h1, h2, h3, h4, h5⟩ := h
  exact ⟨h0, Ab, cb, A, c, A1, c1, A2, c2, h1, h2, h3, At.below h4 hb, h5.below hb⟩
theorem ActsAt.below {w w' : World} {B : Nat} {A : Option Addr} {l : List Act} (h : ActsAt w B A l) (hb : Below B w w') : ActsAt w' B A l := At.imp (At.below h hb) fun _ _ h => h.below hb
theorem ActsAt.range {w : World} {B : Nat} {A : Option Addr} {l : List Act} (h : ActsAt w B A l) {j : Nat} (hj : j < l.length) :
    ∃ b off Ab cb Ai ci A1 c1 A2 c2, A = some ⟨b, off, none⟩ ∧ b < B ∧ w.rangeAt b (off + j * 11) (actCells l[j] (.slice Ab l[j].bytes.length cb) (.slice Ai l[j].msg.ids.length ci) (.slice A1 l[j].msg.tx.ins.length c1) (.slice A2 l[j].msg.tx.outs.length c2)) ∧ l[j].now < 18446744073709551616 ∧ l[j].bytes.length ≤ cb ∧ cb ≤ maxLen ∧ BytesAt w B Ab l[j].bytes ∧ MsgAt w B l[j].msg Ai ci A1 c1 A2 c2 := by
  obtain ⟨b, off, vs, hA, hb, ⟨hk, Ab, cb, Ai, ci, A1, c1, A2, c2, hvs, h1, h2, h3, h4⟩, hc⟩ := h j hj
  refine ⟨b, off, Ab, cb, Ai, ci, A1, c1, A2, c2, hA, hb, fun r v hv => ?_, hk, h1, h2, h3, h4⟩
  rw [← hvs] at hv
  obtain ⟨hr, rfl⟩ := List.getElem?_eq_some_iff.1 hv
  exact hc r hr
theorem act_one (a : Act) (Ab : Option Addr) (n0 c0 : Nat) (A : Option Addr) (n c : Nat) (A1 : Option Addr) (n1 c1 : Nat) (A2 : Option Addr) (n2 c2 : Nat) : ∀ u ∈ actCells a (.slice Ab n0 c0) (.slice A n c) (.slice A1 n1 c1) (.slice A2 n2 c2), u.oneCell' = true := by
  intro u hu
  simp only [actCells, List.mem_cons, List.not_mem_nil, or_false] at hu
  rcases hu with rfl | rfl | rfl | rfl | rfl | rfl | rfl | rfl | rfl | rfl | rfl <;> rfl
section
variable {H : Type} {enc : TypeId × Value → H} {W : World} {base : Nat} {sp : Nat → Bool} {held : Bool}
theorem isAct_open (n : Nat) (cs : List Value) (x : DataW H × List MemPlace) (hl : cs.length = 11)
    (h : DataW.trod enc Tryd.prog W 0 (fun _ => true) true n 53 cs = some x) : ∃ y : Act, IsAct W W.heap.size cs y := by
  obtain ⟨y0, y1, y2, y3, y4, m, h0, h1, h2, h3, h4⟩ := M8.trod_struct5 Tryd.underlying53 h
  have c3 : Tryd.prog.cellsOf 3 = 1 := by kernel_rfl
  have cby : Tryd.prog.cellsOf 22 = 1 := by kernel_rfl
  have cms : Tryd.prog.cellsOf 51 = 7 := by kernel_rfl
  have c64 : Tryd.prog.cellsOf 27 = 1 := by kernel_rfl
  simp only [c3, cby, cms, c64] at h0 h1 h2 h3 h4
  match cs, hl with
  | [v0, v1, v2, v3, v4, v5, v6, v7, v8, v9, v10], _ =>
    simp only [List.drop_zero, List.drop_succ_cons, List.take_succ_cons, List.take_zero] at h0 h1 h2 h3 h4
    obtain ⟨k0, e0, _, w0⟩ := DataW.trod_int Tryd.underlying3 h0
    obtain ⟨k1, e1, _, w1⟩ := DataW.trod_int Tryd.underlying3 h1
    obtain ⟨k6, e6, _, w6⟩ := DataW.trod_int Tryd.underlying27 h4
    obtain ⟨a6, b6⟩ := wf_u64 w6
    injection e0 with e0 _
    injection e1 with e1 _
    injection e6 with e6 _
    subst e0 e1 e6
    obtain ⟨Ab, lenb, cb, lb, rfl, hlb, hcb, hmb, hatb⟩ := open_at_of IsByte 1 (by omega) Tryd.underlying22 (by kernel_rfl) h2 isByte_open
    subst hlb
    obtain ⟨t, A, c, A1, c1, A2, c2, hv, hm⟩ := M8.msg7_open h3
    unfold M8.msgV at hv
    injection hv with hv
    have hv2 := congrArg Array.toList hv
    simp only [List.cons.injEq, and_true] at hv2
    obtain ⟨q3, q4, q5, q6, q7, q8, q9⟩ := hv2
    refine ⟨⟨k0, k1, lb, t, k6.toNat⟩, by show k6.toNat < _; omega, Ab, cb, A, c, A1, c1, A2, c2, ?_, hcb, hmb, hatb, hm⟩
    unfold actCells
    rw [q3, q4, q5, q6, q7, q8, q9]
    show (_ : List Value) = [_, _, _, _, _, _, _, _, _, _, Value.int .u64 ((k6.toNat : Nat) : Int)]
    rw [show ((k6.toNat : Nat) : Int) = k6 by omega]
end
theorem size_act : (Tryd.prog.info? 53).map (·.size) = some 11 := by kernel_rfl
theorem zero_act : (Tryd.prog.info? 53).map (·.zero) = some (some (.agg #[.int .i64 0, .int .i64 0, .slice none 0 0, .int .i64 0, .int .u64 0, .int .u32 0, .slice none 0 0, .int .u32 0, .slice none 0 0, .slice none 0 0, .int .u64 0])) := by kernel_rfl
theorem act_cells {w : World} {g : Nat} {a : Act} {b I i o : Value} (h : Bk w g 53 (actCells a b I i o).toArray) :
    w.cell? ⟨g, 0, none⟩ = some (.int .i64 a.kind) ∧ w.cell? ⟨g, 1, none⟩ = some (.int .i64 a.lane) ∧ w.cell? ⟨g, 2, none⟩ = some b ∧ w.cell? ⟨g, 3, none⟩ = some (.int .i64 a.msg.kind) ∧ w.cell? ⟨g, 4, none⟩ = some (.int .u64 (a.msg.n : Int)) ∧ w.cell? ⟨g, 5, none⟩ = some (.int .u32 (a.msg.code : Int)) ∧ w.cell? ⟨g, 6, none⟩ = some I ∧ w.cell? ⟨g, 7, none⟩ = some (.int .u32 (a.msg.tx.version : Int)) ∧ w.cell? ⟨g, 8, none⟩ = some i ∧ w.cell? ⟨g, 9, none⟩ = some o ∧ w.cell? ⟨g, 10, none⟩ = some (.int .u64 (a.now : Int)) :=
  ⟨(h.cell 0).trans rfl, (h.cell 1).trans rfl, (h.cell 2).trans rfl, (h.cell 3).trans rfl, (h.cell 4).trans rfl, (h.cell 5).trans rfl, (h.cell 6).trans rfl, (h.cell 7).trans rfl, (h.cell 8).trans rfl, (h.cell 9).trans rfl, (h.cell 10).trans rfl⟩
/-- what is not great -/
def SmallActs (l : List Act) : Prop := l.length ≤ 100 ∧ ∀ a ∈ l, a.bytes.length ≤ 20000
theorem small_take {l : List Act} {k : Nat} (hk : k < l.length) (h : ∀ a ∈ l.take k, a.bytes.length ≤ 20000) (h2 : l[k].bytes.length ≤ 20000) : ∀ a ∈ l.take (k + 1), a.bytes.length ≤ 20000 := by
  intro a ha
  rw [List.take_succ_eq_append_getElem hk] at ha
  rcases List.mem_append.1 ha with ha | ha
  · exact h a ha
  · rw [List.mem_singleton.1 ha]; exact h2
def GreatP (l : List Act) (w : World) (e : Ending) (w' : World) : Prop := (∃ g : Bool, e = .returned (.bool g) ∧ (g = false → SmallActs l)) ∧ Below w.heap.size w w'
theorem GreatP.yes {l : List Act} {w w' : World} (hb : Below w.heap.size w w') : GreatP l w (.returned (.bool true)) w' := ⟨⟨true, rfl, fun h => by cases h⟩, hb⟩
theorem great_any (l : List Act) (A : Option Addr) (c B : Nat) (w : World) (h : ActsAt w B A l) (hB : B ≤ w.heap.size) (hc : l.length ≤ c) (hm : c ≤ maxLen) :
    Calls Tryd.prog 12 #[.slice A l.length c] w (GreatP l w) := by
  have HI := Lib.hid h
  clear h
  unfold maxLen at hm
  by_cases h80 : 100 < l.length
  · have i80 : (100 : Int) < (l.length : Int) := by omega
    go_enter Tryd.func12, Tryd.ntmps12
    go_wp2_with fail
    go_ret
    exact GreatP.yes (Below.refl _ _)
  have i80 : (l.length : Int) ≤ 100 := by omega
  have h100 : l.length ≤ 100 := by omega
  have hZA := zero_act
  generalize (#[.int .i64 0, .int .i64 0, .slice none 0 0, .int .i64 0, .int .u64 0, .int .u32 0, .slice none 0 0, .int .u32 0, .slice none 0 0, .slice none 0 0, .int .u64 0] : Array Value) = za at hZA
  have HZA := Lib.hid hZA
  have HZAL := Lib.hid (show za.size = 11 by
    have := zero_act
    rw [this] at hZA
    simp only [Option.some.injEq, Value.agg.injEq] at hZA
    rw [← hZA]; rfl)
  have HZI := Lib.hid T7.zero_in
  have HZL := Lib.hid T7.zeroIn_len
  generalize (T7.inCells ⟨List.replicate 32 0, 0, []⟩ (.slice none 0 0)).toArray = zs at *
  clear hZA h80
  go_enter Tryd.func12, Tryd.ntmps12
  go_wp2_with fail
  go_loopw [3, 13] (fun nv iv wr => ∃ k t : Nat, iv = .int .i64 (k : Int) ∧ nv = .int .i64 (t : Int) ∧ t ≤ 20000 ∧ k ≤ l.length ∧ Hid (∀ a ∈ l.take k, a.bytes.length ≤ 20000) ∧ Hid (Below w.heap.size w wr)) (fun _ iv _ => l.length - (intOf iv).toNat)
  case atStart => exact ⟨0, 0, rfl, rfl, by omega, Nat.zero_le _, Lib.hid (by simp), Lib.hid (Below.refl _ _)⟩
  case round =>
    obtain ⟨k, t, rfl, rfl, ht, hk, hno, hb⟩ := hrel
    by_cases hlt : k < l.length
    · obtain ⟨b, off, Ab, cb, Ai, ci, A1, c1, A2, c2, rfl, hbB, hr, hnow, hbc, hbm, hbat, hmat⟩ := ActsAt.range (ActsAt.below HI.out (hb.out.mono hB)) hlt
      have i1 : (0 : Int) ≤ (k : Int) := by omega
      have i2 : (k : Int) < (l.length : Int) := by omega
      have HNX := Lib.hid (fun h => small_take hlt hno.out h)
      have HK1 := Lib.hid (show k + 1 ≤ l.length from hlt)
      generalize l[k] = x at *
      obtain ⟨cs, hcs⟩ : ∃ cs, cs = actCells x (.slice Ab x.bytes.length cb) (.slice Ai x.msg.ids.length ci) (.slice A1 x.msg.tx.ins.length c1) (.slice A2 x.msg.tx.outs.length c2) := ⟨_, rfl⟩
      have HL := Lib.hid (show cs.length = 11 by rw [hcs]; rfl)
      have HONE := Lib.hid (show ∀ u ∈ cs, u.oneCell' = true by rw [hcs]; exact act_one _ _ _ _ _ _ _ _ _ _ _ _ _)
      rw [← hcs] at hr
      have HR := Lib.hid hr
      obtain ⟨wx, hwx⟩ : ∃ wx, wx = wr.alloc (.cells cs.toArray 53) := ⟨_, rfl⟩
      obtain ⟨XA, hXA⟩ : ∃ XA, XA = wr.heap.size := ⟨_, rfl⟩
      have hbx : Below wr.heap.size wr wx := by rw [hwx]; exact Joins.below_alloc1 _ _
      have HBX := Lib.hid (hb.out.trans (hbx.mono hb.out.size))
      have hins : InsAt wr B A1 x.msg.tx.ins := hmat.tx.ins
      have HINS := Lib.hid (show InsAt wx B A1 x.msg.tx.ins from hins.below (hbx.mono (Nat.le_trans hB hb.out.size)))
      have hBx : B ≤ wx.heap.size := Nat.le_trans hB HBX.out.size
      have hmk := Nat.le_trans hmat.ic hmat.im
      have hmi := Nat.le_trans hmat.tx.ic hmat.tx.im
      have hmo := Nat.le_trans hmat.tx.oc hmat.tx.om
      have hmb := Nat.le_trans hbc hbm
      unfold maxLen at hmk hmi hmo hmb
      obtain ⟨k0, k1, k2, k3, k4, k5, k6, k7, k8, k9, k10⟩ := act_cells (w := wx) (g := XA) (a := x) (b := .slice Ab x.bytes.length cb) (I := .slice Ai x.msg.ids.length ci) (i := .slice A1 x.msg.tx.ins.length c1) (o := .slice A2 x.msg.tx.outs.length c2) (by rw [hwx, ← hcs, hXA]; exact Bk.new _ _ _)
      have hXA2 : XA < wx.heap.size := by rw [hwx, hXA]; simp
      generalize x.bytes.length = nb at *
      generalize x.msg.ids.length = ni at *
      generalize x.msg.tx.outs.length = no at *
      obtain ⟨ins, hins2⟩ : ∃ ins, ins = x.msg.tx.ins := ⟨_, rfl⟩
      rw [← hins2] at HINS k8 hmi
      clear hr hcs hbx hmat hbat hins hins2 k0 k1 k3 k4 k5 k7 k10
      go_upto_region 7 with (refine wpList_elem rfl rfl rfl 53 (.tmp 15) (.tmp 5) (.tmp 16) rfl rfl rfl b (off + k * 11) (by rfl) cs _ HR.out Tryd.underlying53 rfl (by rw [HL.out]; exact size_act) za HZA.out (by rw [HZAL.out, HL.out]) HONE.out (by rfl) (by rfl) ?_)
      rw [← hwx, ← hXA]
      clear hwx hXA
      by_cases q0 : 20001 < nb
      · have p0 : ¬ (nb : Int) ≤ 20001 := by omega
        have p1 : (20001 : Int) < (nb : Int) := by omega
        have p2 : (20000 : Int) < (t : Int) + 20001 := by omega
        have p3 : ((nb : Int) < 20001) = False := by simp; omega
        clear q0
        go_wp2_with fail
        go_ret
        exact GreatP.yes HBX.out
      have p0 : (nb : Int) ≤ 20001 := by omega
      have p1 : ¬ (20001 : Int) < (nb : Int) := by omega
      by_cases q1 : 20000 < t + nb
      · have p2 : (20000 : Int) < (t : Int) + (nb : Int) := by omega
        clear q1
        go_wp2_with fail
        go_ret
        exact GreatP.yes HBX.out
      have p2 : ¬ (20000 : Int) < (t : Int) + (nb : Int) := by omega
      by_cases q2 : 100 < ni
      · have p3 : (100 : Int) < (ni : Int) := by omega
        clear q2
        go_wp2_with fail
        go_ret
        exact GreatP.yes HBX.out
      have p3 : ¬ (100 : Int) < (ni : Int) := by omega
      by_cases q3 : 50 < ins.length
      · have p4 : (50 : Int) < (ins.length : Int) := by omega
        clear q3
        go_wp2_with fail
        go_ret
        exact GreatP.yes HBX.out
      have p4 : ¬ (50 : Int) < (ins.length : Int) := by omega
      by_cases q4 : 50 < no
      · have p5 : (50 : Int) < (no : Int) := by omega
        clear q4
        go_wp2_with fail
        go_ret
        exact GreatP.yes HBX.out
      have p5 : ¬ (50 : Int) < (no : Int) := by omega
      have HNN := Lib.hid (HNX.out (by omega))
      have HTT := Lib.hid (show t + nb ≤ 20000 by omega)
      clear q0 q1 q2 q3 q4
      go_wp2_with fail
      go_loopw [53] (fun i wr => ∃ k : Nat, k ≤ ins.length ∧ i = .int .i64 (k : Int) ∧ Hid (Below wx.heap.size wx wr)) (fun i _ => ins.length - (intOf i).toNat)
      case atStart => exact ⟨0, Nat.zero_le _, rfl, Lib.hid (Below.refl _ _)⟩
      case round =>
        obtain ⟨k2, hk2, rfl, hb2⟩ := hrel
        have HB2 := Lib.hid (HBX.out.trans (hb2.out.mono HBX.out.size))
        by_cases hlt2 : k2 < ins.length
        · obtain ⟨b2, off2, Ak, ck, rfl, _, hr2, hok, hkc, hkm, _⟩ := (HINS.out.below (hb2.out.mono hBx)).range hlt2
          have HR2 := Lib.hid hr2
          have HOK := Lib.hid hok
          clear hr2 hok
          generalize ins[k2] = y at *
          have HL2 := Lib.hid (T7.inCells_len HOK.out (.slice Ak y.key.length ck))
          have HKY := Lib.hid (T7.in_key (Bk.new _ 97 (T7.inCells y (.slice Ak y.key.length ck)).toArray : Bk (wr.alloc (.cells (T7.inCells y (.slice Ak y.key.length ck)).toArray 97)) wr.heap.size _ _) HOK.out)
          have HONE2 := Lib.hid (T7.inCells_one y Ak y.key.length ck)
          have hkl : y.key.length ≤ 9223372036854775807 := by unfold maxLen at hkm; omega
          obtain ⟨ky, hky⟩ : ∃ ky, ky = y.key.length := ⟨_, rfl⟩
          rw [← hky] at HR2 HL2 HKY HONE2 hkl hkc
          generalize hcs2 : T7.inCells y (.slice Ak ky ck) = cs2 at *
          clear hky hcs2
          have j1 : (0 : Int) ≤ (k2 : Int) := by omega
          have j2 : (k2 : Int) < (ins.length : Int) := by omega
          have HB3 := Lib.hid (HB2.out.alloc HB2.out.size (.cells cs2.toArray 97))
          go_wp2_with (refine wpList_elem rfl rfl rfl 97 (.tmp 55) (.tmp 7) (.tmp 56) rfl rfl rfl b2 (off2 + k2 * 34) (by rfl) cs2 _ HR2.out Tryd.underlying97 rfl (by rw [HL2.out]; exact T7.size_in) zs HZI.out (by rw [HZL.out, HL2.out]) HONE2.out (by rfl) (by rfl) ?_; have hcell := HKY.out)
          · go_ret
            exact GreatP.yes HB3.out
          · go_roundw
            case rel => exact ⟨k2 + 1, by omega, by go_num, Lib.hid (hb2.out.alloc hb2.out.size _)⟩
            case measure => simp [intOf]; omega
        · go_wp2_with fail
          go_roundw
          case rel => exact ⟨k + 1, t + nb, by go_num, by go_num, HTT.out, HK1.out, HNN, HB2⟩
          case measure => have := HK1.out; simp [intOf]; omega
    · have hkl : k = l.length := by omega
      have HF := Lib.hid (show ∀ a ∈ l, a.bytes.length ≤ 20000 by have := hno.out; rwa [hkl, List.take_of_length_le (Nat.le_refl _)] at this)
      go_wp2_with fail
      go_ret
      exact ⟨⟨false, rfl, fun _ => ⟨h100, HF.out⟩⟩, hb.out⟩
end Go.Proofs.YtpacgblddeoheaaDoor.P22
/- Both peers, side by side: what each call leaves. -/
namespace Go.Proofs.YtpacgblddeoheaaDoor.P22
open Go.RowKit Go.Deep M8 T7
set_option linter.unusedVariables false
set_option linter.unusedSimpArgs false
set_option maxRecDepth 100000
set_option maxHeartbeats 1000000

theorem IsPeer.ptrs {F G : Nat} {q : Addr} {w : World} {b : Nat} {d : PeerD} (h : IsPeer (some ⟨F, 0, none⟩, some ⟨G, 0, none⟩, q) w b d) : w.cell? ⟨b, 4, none⟩ = some (.pointer (some ⟨F, 0, none⟩)) ∧ w.cell? ⟨b, 5, none⟩ = some (.pointer (some ⟨G, 0, none⟩)) := by
  obtain ⟨f, g, q, ⟨h1, h2, h3⟩, hb⟩ := h
  simp only at h1 h2
  subst h1 h2
  exact ⟨(hb.cell 4).trans rfl, (hb.cell 5).trans rfl⟩
/-- Read of a lane's next bytes -/
theorem read_lane (b k F B0 : Nat) (hk2 : k < 2) (w w0 : World) (A : Option Addr) (m c : Nat) (bs : List UInt8) (hbm : bs.length = m) (vb : Value) (s : List UInt8 × Bool) (hptr : w.cell? ⟨b, 4 + k, none⟩ = some (.pointer (some ⟨F, 0, none⟩))) (hF : F < B0) (hB : B0 ≤ w.heap.size) (hs : FlowS w F B0 vb s)
    (hat : BytesAt w0 w0.heap.size A bs) (h0 : w0.heap.size ≤ F) (hb : Below w0.heap.size w0 w) (hlay : Laid w0) (hbl : m ≤ 1000000000) (hc : m ≤ c) (hm : c ≤ maxLen) :
    Calls Tryd.prog 10 #[.pointer (some ⟨b, 0, none⟩), .int .i64 (k : Int), .slice A m c] w (ReadPost w F B0 vb (k : Int) (Flo.feed s bs)) := by
  subst hbm
  have l1 := hlay.lc
  have l2 := hlay.lf
  exact read_any b k F B0 c hk2 A bs vb s w hptr hF hB hs ((hat.below hb).mono (by omega)) (fun a ha hp => by
    obtain ⟨q, of', hA', hq, _⟩ := BytesAt.cell hat (i := 0) hp
    rw [hA'] at ha; cases ha; show q ≠ F; omega) (hlay.below hb) (by omega) (by omega) (by omega) (by omega) hbl hc hm
def RX.v (Y : RX) (k : Nat) : Value := if k = 0 then Y.v0 else Y.v1
def RX.e (Y : RX) (k : Nat) : Bool := if k = 0 then Y.e0 else Y.e1
def RX.put (Y : RX) (k : Nat) (v : Value) (e : Bool) : RX := if k = 0 then { Y with v0 := v, e0 := e } else { Y with v1 := v, e1 := e }
/-- what the document's flow holds, in P's blocks -/
def RestS (P : Nat → Prop) (w : World) (v : Value) (e : Bool) (s : List UInt8 × Bool) : Prop :=
  ∃ A c, v = .slice A s.1.length c ∧ e = s.2 ∧ s.1.length ≤ c ∧ c ≤ maxLen ∧ BytesAt w w.heap.size A s.1 ∧ ∀ a, A = some a → 0 < s.1.length → P a.block
theorem RestS.kp {P Q S : Nat → Prop} {w w' : World} {v : Value} {e : Bool} {s : List UInt8 × Bool} (h : RestS P w v e s) (hk : Kp S w w') (hS : ∀ i, P i → ¬ S i) (hP : ∀ i, i < w.heap.size → P i → Q i) : RestS Q w' v e s := by
  obtain ⟨A, c, h1, h2, h3, h4, h5, h6⟩ := h
  refine ⟨A, c, h1, h2, h3, h4, (h5.kp_of (Nat.le_refl _) hk (fun a ha _ h0 => hS _ (h6 a ha h0))).mono hk.size, fun a ha h0 => ?_⟩
  obtain ⟨q, of', hA', hq, _⟩ := BytesAt.cell h5 (i := 0) h0
  have h7 := h6 a ha h0
  rw [hA'] at ha; cases ha
  exact hP _ hq h7
theorem rest_ref {Y : RX} {w : World} {m k : Nat} {d : PeerD} {P : Nat → Prop} {s : List UInt8 × Bool} (hk : k < 2) (hd : IsR Y w m d) (hr : RestS P w (Y.v k) (Y.e k) s) : RefS ⟨65, rpC d Y⟩ (3 + k * 2) P w m s := by
  obtain ⟨A, c, h1, h2, h3, h4, h5, h6⟩ := hr
  refine ⟨A, c, ⟨?_, ?_⟩, h3, h4, h5, h6⟩
  · rw [← h1, ← h2]
    have e : ((rpC d Y).setIfInBounds (3 + k * 2) (Y.v k)).setIfInBounds (3 + k * 2 + 1) (.bool (Y.e k)) = rpC d Y := by
      rcases (by omega : k = 0 ∨ k = 1) with rfl | rfl <;> simp [rpC, RX.v, RX.e]
    show Bk w m 65 _
    rw [e]
    exact hd.1
  · show 3 + k * 2 + 1 < (rpC d Y).size
    simp [rpC]
    omega
theorem ref_rest {Y : RX} {w w' : World} {m k : Nat} {d : PeerD} {P : Nat → Prop} {s : List UInt8 × Bool} (hk : k < 2) (hd : IsR Y w m d) (h : RefS ⟨65, rpC d Y⟩ (3 + k * 2) P w' m s) : ∃ v e, IsR (Y.put k v e) w' m d ∧ RestS P w' v e s := by
  obtain ⟨A, c, ⟨h1, _⟩, h3, h4, h5, h6⟩ := h
  refine ⟨.slice A s.1.length c, s.2, ⟨?_, ?_⟩, A, c, rfl, rfl, h3, h4, h5, h6⟩
  · have e : ((rpC d Y).setIfInBounds (3 + k * 2) (.slice A s.1.length c)).setIfInBounds (3 + k * 2 + 1) (.bool s.2) = rpC d (Y.put k (.slice A s.1.length c) s.2) := by
      rcases (by omega : k = 0 ∨ k = 1) with rfl | rfl <;> simp [rpC, RX.put]
    rw [← e]
    exact h1
  · have := hd.2
    rcases (by omega : k = 0 ∨ k = 1) with rfl | rfl <;> simpa [RX.put] using this
def upd {α : Type} (f : Nat → α) (k : Nat) (x : α) : Nat → α := fun j => if j = k then x else f j
/-- both peers: the program's at b, its flows at Fk, the document's at m -/
structure PA (w0 : World) (B0 b m : Nat) (Fk : Nat → Nat) (q : Addr) (w : World) (dp dd : PeerD) (vk : Nat → Value) (sk tk : Nat → List UInt8 × Bool) (Y : RX) : Prop where
  peer : IsPeer (some ⟨Fk 0, 0, none⟩, some ⟨Fk 1, 0, none⟩, q) w b dp
  doc : IsR Y w m dd
  fl : ∀ k, k < 2 → FlowS w (Fk k) B0 (vk k) (sk k)
  nF : ∀ i, (vk 0).ownBlock = some i → (vk 1).ownBlock ≠ some i
  rf : ∀ k, k < 2 → RestS (fun i => B0 ≤ i ∧ ∀ j, j < 2 → (vk j).ownBlock ≠ some i) w (Y.v k) (Y.e k) (tk k)
  ne : Fk 0 ≠ Fk 1 ∧ m ≠ b ∧ ∀ k, k < 2 → b ≠ Fk k ∧ m ≠ Fk k
  lt : b < B0 ∧ m < B0 ∧ ∀ k, k < 2 → Fk k < B0
  ge : w0.heap.size ≤ b ∧ w0.heap.size ≤ m ∧ ∀ k, k < 2 → w0.heap.size ≤ Fk k
  bw : B0 ≤ w.heap.size
  low : Below w0.heap.size w0 w
variable {w0 : World} {B0 b m : Nat} {Fk : Nat → Nat} {q : Addr} {w w1 : World} {dp dd : PeerD} {vk : Nat → Value} {sk tk : Nat → List UInt8 × Bool} {Y : RX}
theorem PA.own (h : PA w0 B0 b m Fk q w dp dd vk sk tk Y) {k i : Nat} (hk : k < 2) (hi : (vk k).ownBlock = some i) : B0 ≤ i ∧ i < w.heap.size := (h.fl k hk).lt.2 i hi
theorem PA.nFk (h : PA w0 B0 b m Fk q w dp dd vk sk tk Y) {k j : Nat} (hk : k < 2) (hj : j < 2) (hn : j ≠ k) : Fk j ≠ Fk k := by
  rcases (by omega : k = 0 ∧ j = 1 ∨ k = 1 ∧ j = 0) with ⟨rfl, rfl⟩ | ⟨rfl, rfl⟩
  · exact fun e => h.ne.1 e.symm
  · exact h.ne.1
theorem PA.nvk (h : PA w0 B0 b m Fk q w dp dd vk sk tk Y) {k j i : Nat} (hk : k < 2) (hj : j < 2) (hn : j ≠ k) (hi : (vk j).ownBlock = some i) : (vk k).ownBlock ≠ some i := by
  rcases (by omega : k = 0 ∧ j = 1 ∨ k = 1 ∧ j = 0) with ⟨rfl, rfl⟩ | ⟨rfl, rfl⟩
  · exact fun e => h.nF i e hi
  · exact h.nF i hi
theorem PA.kp_low {S : Nat → Prop} (h : PA w0 B0 b m Fk q w dp dd vk sk tk Y) (hk : Kp S w w1) (hS : ∀ i, S i → w0.heap.size ≤ i) : Below w0.heap.size w0 w1 := Kp.from_elder h.low hk (fun i hi h => by have := hS i h; omega)
theorem PA.lowered (h : PA w0 B0 b m Fk q w dp dd vk sk tk Y) (hb : Below w.heap.size w w1) : PA w0 B0 b m Fk q w1 dp dd vk sk tk Y := by
  have hk : Kp (fun _ => False) w w1 := Kp.of_below hb
  exact ⟨h.peer.below hb, h.doc.below hb, fun k h2 => (h.fl k h2).kp hk (fun h => h) (fun _ _ h => h), h.nF, fun k h2 => (h.rf k h2).kp hk (fun _ _ h => h) (fun _ _ h => h), h.ne, h.lt, h.ge, Nat.le_trans h.bw hk.size, h.kp_low hk (fun _ h => h.elim)⟩
/-- the program reads a lane -/
theorem PA.readP (h : PA w0 B0 b m Fk q w dp dd vk sk tk Y) {k : Nat} (hk2 : k < 2) {v : Value} {s2 : List UInt8 × Bool} (hf : FlowS w1 (Fk k) B0 v s2) (hv : ∀ i, v.ownBlock = some i → (vk k).ownBlock = some i ∨ w.heap.size ≤ i)
    (hk : Kp (fun i => i = Fk k ∨ (vk k).ownBlock = some i) w w1) : PA w0 B0 b m Fk q w1 dp dd (upd vk k v) (upd sk k s2) tk Y := by
  have hlt := h.lt
  have hge := h.ge
  have hF := hlt.2.2 k hk2
  have hG := hge.2.2 k hk2
  have hown : ∀ i, (vk k).ownBlock = some i → B0 ≤ i ∧ i < w.heap.size := fun i => h.own hk2
  have hsm : ∀ i, i < B0 → i ≠ Fk k → ¬ (i = Fk k ∨ (vk k).ownBlock = some i) := fun i hi hn e => e.elim hn (fun e => by have := (hown i e).1; omega)
  have hvo : ∀ j i, j < 2 → i < w.heap.size → (upd vk k v j).ownBlock = some i → (vk j).ownBlock = some i := fun j i hj hi e => by
    unfold upd at e
    by_cases e2 : j = k
    · rw [if_pos e2] at e
      rw [e2]
      exact (hv i e).elim id (fun h => by omega)
    · rwa [if_neg e2] at e
  refine ⟨h.peer.kp hk (hsm b hlt.1 (h.ne.2.2 k hk2).1), h.doc.kp hk (hsm m hlt.2.1 (h.ne.2.2 k hk2).2), fun j hj => ?_, fun i hi hi2 => ?_, fun j hj => ?_, h.ne, h.lt, h.ge, Nat.le_trans h.bw hk.size, h.kp_low hk (fun i e => e.elim (fun e => by omega) (fun e => by have := (hown i e).1; omega))⟩
  · by_cases e : j = k
    · subst e
      simp only [upd, if_true]
      exact hf
    · simp only [upd, if_neg e]
      exact (h.fl j hj).kp hk (hsm _ (hlt.2.2 j hj) (h.nFk hk2 hj e)) (fun i hi e2 => e2.elim (fun e2 => by have := (h.own hj hi).1; omega) (fun e2 => h.nvk hk2 hj e hi e2))
  · by_cases hi3 : i < w.heap.size
    · exact h.nF i (hvo 0 i (by omega) hi3 hi) (hvo 1 i (by omega) hi3 hi2)
    · rcases (by omega : k = 0 ∨ k = 1) with rfl | rfl
      · have : (vk 1).ownBlock = some i := hi2
        exact hi3 (h.own (by omega) this).2
      · have : (vk 0).ownBlock = some i := hi
        exact hi3 (h.own (by omega) this).2
  · exact (h.rf j hj).kp hk (fun i hi e => e.elim (fun e => by have := hi.1; omega) (hi.2 k hk2)) (fun i hi hp => ⟨hp.1, fun j2 hj2 e => hp.2 j2 hj2 (hvo j2 i hj2 hi e)⟩)
/-- the document reads a lane -/
theorem PA.readD (h : PA w0 B0 b m Fk q w dp dd vk sk tk Y) {k : Nat} (hk2 : k < 2) {s2 : List UInt8 × Bool} (hr : RefS ⟨65, rpC dd Y⟩ (3 + k * 2) (fun i => w.heap.size ≤ i) w1 m s2) (hk : Kp (fun i => i = m) w w1) :
    ∃ Y', PA w0 B0 b m Fk q w1 dp dd vk sk (upd tk k s2) Y' := by
  have hlt := h.lt
  have hge := h.ge
  have hbw := h.bw
  obtain ⟨v, e, hd, hs⟩ := ref_rest hk2 h.doc hr
  refine ⟨Y.put k v e, h.peer.kp hk (fun e => h.ne.2.1 e.symm), hd, fun j hj => (h.fl j hj).kp hk (fun e => (h.ne.2.2 j hj).2 e.symm) (fun i hi e => by have := (h.own hj hi).1; omega), h.nF, fun j hj => ?_, h.ne, h.lt, h.ge, Nat.le_trans h.bw hk.size, h.kp_low hk (fun i e => by omega)⟩
  by_cases e2 : j = k
  · subst e2
    have e3 : (Y.put j v e).v j = v ∧ (Y.put j v e).e j = e := by rcases (by omega : j = 0 ∨ j = 1) with rfl | rfl <;> exact ⟨rfl, rfl⟩
    rw [e3.1, e3.2]
    simp only [upd, if_true]
    exact hs.kp (Kp.refl (fun _ => False) _) (fun _ _ h => h) (fun i _ hi => ⟨by omega, fun j2 hj2 e => by have := (h.own hj2 e).2; omega⟩)
  · have e3 : (Y.put k v e).v j = Y.v j ∧ (Y.put k v e).e j = Y.e j := by rcases (by omega : k = 0 ∧ j = 1 ∨ k = 1 ∧ j = 0) with ⟨rfl, rfl⟩ | ⟨rfl, rfl⟩ <;> exact ⟨rfl, rfl⟩
    rw [e3.1, e3.2]
    simp only [upd, if_neg e2]
    exact (h.rf j hj).kp hk (fun i hi e => by have := hi.1; omega) (fun _ _ h => h)
theorem PA.setP (h : PA w0 B0 b m Fk q w dp dd vk sk tk Y) {dp' : PeerD} (hp : IsPeer (some ⟨Fk 0, 0, none⟩, some ⟨Fk 1, 0, none⟩, q) w1 b dp') (hk : Kp (fun i => i = b) w w1) : PA w0 B0 b m Fk q w1 dp' dd vk sk tk Y := by
  have hlt := h.lt
  have hge := h.ge
  exact ⟨hp, h.doc.kp hk h.ne.2.1, fun j hj => (h.fl j hj).kp hk (fun e => (h.ne.2.2 j hj).1 e.symm) (fun i hi e => by have := (h.own hj hi).1; omega), h.nF, fun j hj => (h.rf j hj).kp hk (fun i hi e => by have := hi.1; omega) (fun _ _ h => h), h.ne, h.lt, h.ge, Nat.le_trans h.bw hk.size, h.kp_low hk (fun i e => by omega)⟩
theorem PA.setD (h : PA w0 B0 b m Fk q w dp dd vk sk tk Y) {dd' : PeerD} (hd : IsR Y w1 m dd') (hk : Kp (fun i => i = m) w w1) : PA w0 B0 b m Fk q w1 dp dd' vk sk tk Y := by
  have hlt := h.lt
  have hge := h.ge
  exact ⟨h.peer.kp hk (fun e => h.ne.2.1 e.symm), hd, fun j hj => (h.fl j hj).kp hk (fun e => (h.ne.2.2 j hj).2 e.symm) (fun i hi e => by have := (h.own hj hi).1; omega), h.nF, fun j hj => (h.rf j hj).kp hk (fun i hi e => by have := hi.1; omega) (fun _ _ h => h), h.ne, h.lt, h.ge, Nat.le_trans h.bw hk.size, h.kp_low hk (fun i e => by omega)⟩
/-! ### one Read of each -/
def its (lane : Int) (s0 : Nat → List UInt8 × Bool) (bs : List UInt8) : List Flo.Item := if lane = 0 then (Flo.feed (s0 0) bs).1 else if lane = 1 then (Flo.feed (s0 1) bs).1 else []
def nxt (lane : Int) (s0 : Nat → List UInt8 × Bool) (bs : List UInt8) : Nat → List UInt8 × Bool := fun j => if (j : Int) = lane ∧ j < 2 then (Flo.feed (s0 j) bs).2 else s0 j
theorem nxt_no {lane : Int} (h : lane < 0 ∨ 2 ≤ lane) (s0 : Nat → List UInt8 × Bool) (bs : List UInt8) : nxt lane s0 bs = s0 := by
  funext j
  unfold nxt
  rw [if_neg (by omega)]
theorem nxt_upd {k : Nat} (hk : k < 2) (s0 : Nat → List UInt8 × Bool) (bs : List UInt8) : nxt (k : Int) s0 bs = upd s0 k (Flo.feed (s0 k) bs).2 := by
  funext j
  unfold nxt upd
  by_cases e : j = k
  · rw [if_pos (by omega), if_pos e, e]
  · rw [if_neg (by omega), if_neg e]
theorem its_k {k : Nat} (hk : k < 2) (s0 : Nat → List UInt8 × Bool) (bs : List UInt8) : its (k : Int) s0 bs = (Flo.feed (s0 k) bs).1 := by
  rcases (by omega : k = 0 ∨ k = 1) with rfl | rfl <;> rfl
theorem its_no {lane : Int} (h : lane < 0 ∨ 2 ≤ lane) (s0 : Nat → List UInt8 × Bool) (bs : List UInt8) : its lane s0 bs = [] := by
  unfold its
  rw [if_neg (by omega), if_neg (by omega)]
theorem lane_cases (lane : Int) : (lane < 0 ∨ 2 ≤ lane) ∨ ∃ k : Nat, k < 2 ∧ lane = (k : Int) := by
  rcases (by omega : (lane < 0 ∨ 2 ≤ lane) ∨ lane = 0 ∨ lane = 1) with h | rfl | rfl
  · exact .inl h
  · exact .inr ⟨0, by omega, rfl⟩
  · exact .inr ⟨1, by omega, rfl⟩
/-- rows of what came, in new memory -/
def CameAt (T : TypeId) (B1 : Nat) (w : World) (rv : Value) (l : List In) : Prop := ∃ ps, RowIn T w B1 rv ps ∧ (∀ p ∈ ps, InPers (fun i => i < B1) w p) ∧ ps.map (·.1) = l
theorem CameAt.kp {T : TypeId} {B1 : Nat} {rv : Value} {l : List In} {S : Nat → Prop} (h : CameAt T B1 w rv l) (hk : Kp S w w1) (hS : ∀ i, i < w.heap.size → S i → i < B1) : CameAt T B1 w1 rv l := by
  obtain ⟨ps, h1, h2, h3⟩ := h
  exact ⟨ps, h1.kp hk (fun i hi e => by have := own_lt h1 i hi; have := hS i (own_lt h1 i hi).2 e; omega), fun p hp => (h2 p hp).step hk hS (fun _ _ h => h), h3⟩
/-- a Read of each, done or not: what is known between -/
structure ST (w0 : World) (B0 B1 b m : Nat) (Fk : Nat → Nat) (q : Addr) (d : PeerD) (s0 : Nat → List UInt8 × Bool) (lane : Int) (bs : List UInt8) (XA : Nat) (cs : Array Value) (pr : Option (Value × Bool)) (dr : Option Value) (w : World) : Prop where
  pa : ∃ vk Y, PA w0 B0 b m Fk q w d d vk (if pr.isSome then nxt lane s0 bs else s0) (if dr.isSome then nxt lane s0 bs else s0) Y ∧ ∀ k i, k < 2 → (vk k).ownBlock = some i → i ≠ XA ∧ (pr = none → i < B1)
  pp : ∀ rv pl, pr = some (rv, pl) → CameAt (if pl then 86 else 76) B1 w rv ((its lane s0 bs).map (came lane))
  dp : ∀ rv, dr = some rv → CameAt 86 B1 w rv ((its lane s0 bs).map (came lane))
  act : Bk w XA 53 cs
  xlt : B0 ≤ XA ∧ XA < B1 ∧ B1 ≤ w.heap.size
  cnt : (its lane s0 bs).length ≤ 1000010000
  sst : ∀ k, k < 2 → Flo.St (s0 k) ∧ (s0 k).1.length ≤ 1000000
variable {B1 : Nat} {d : PeerD} {s0 : Nat → List UInt8 × Bool} {lane : Int} {bs : List UInt8} {XA : Nat} {cs : Array Value} {pr : Option (Value × Bool)} {dr : Option Value}
theorem ST.low (h : ST w0 B0 B1 b m Fk q d s0 lane bs XA cs pr dr w) (hb : Below w.heap.size w w1) : ST w0 B0 B1 b m Fk q d s0 lane bs XA cs pr dr w1 := by
  obtain ⟨vk, Y, h1, h2⟩ := h.pa
  have hk : Kp (fun _ => False) w w1 := Kp.of_below hb
  have hz := hk.size
  have hx := h.xlt
  exact ⟨⟨vk, Y, h1.lowered hb, h2⟩, fun rv pl e => (h.pp rv pl e).kp hk (fun _ _ h => h.elim), fun rv e => (h.dp rv e).kp hk (fun _ _ h => h.elim), h.act.kp hk (fun h => h), ⟨hx.1, hx.2.1, by omega⟩, h.cnt, h.sst⟩
theorem ST.drew (h : ST w0 B0 B1 b m Fk q d s0 lane bs XA cs pr dr w) : ST w0 B0 B1 b m Fk q d s0 lane bs XA cs pr dr w.drew := h.low ((Below.refl _ _).drew)
theorem st_read (h : ST w0 B0 B1 b m Fk q d s0 lane bs XA cs none dr w) (A : Option Addr) (n c : Nat) (hbm : bs.length = n) (hat : BytesAt w0 w0.heap.size A bs) (hlay : Laid w0) (hbl : n ≤ 1000000) (hc : n ≤ c) (hm : c ≤ maxLen) :
    Calls Tryd.prog 10 #[.pointer (some ⟨b, 0, none⟩), .int .i64 lane, .slice A n c] w fun e w' => ∃ rv, e = .returned rv ∧ ST w0 B0 B1 b m Fk q d s0 lane bs XA cs (some (rv, false)) dr w' := by
  obtain ⟨vk, Y, h1, h2⟩ := h.pa
  have hx := h.xlt
  rcases lane_cases lane with hl | ⟨k, hk, rfl⟩
  · refine (read_no b lane A n c w hl).mono ?_
    rintro e w' ⟨rfl, rfl⟩
    have hn := nxt_no hl s0 bs
    refine ⟨_, rfl, ⟨vk, Y, ?_, fun k i hk hi => ⟨(h2 k i hk hi).1, fun e => by cases e⟩⟩, fun rv pl e => ?_, h.dp, h.act, hx, h.cnt, h.sst⟩
    · rw [nxt_no hl]
      rw [nxt_no hl] at h1
      simpa using h1
    · cases e
      exact ⟨[], World.ownsRow_nil _ _ _ _, fun p hp => by simp at hp, by rw [its_no hl]; rfl⟩
  · have hlt := h1.lt
    have hptr : w.cell? ⟨b, 4 + k, none⟩ = some (.pointer (some ⟨Fk k, 0, none⟩)) := by
      rcases (by omega : k = 0 ∨ k = 1) with rfl | rfl
      · exact h1.peer.ptrs.1
      · exact h1.peer.ptrs.2
    refine (read_lane b k (Fk k) B0 hk w w0 A n c bs hbm (vk k) (s0 k) hptr (hlt.2.2 k hk) h1.bw (h1.fl k hk) hat (h1.ge.2.2 k hk) h1.low hlay (by omega) hc hm).mono ?_
    rintro e w' ⟨rv, v, ps, rfl, g1, g2, g3, g4, g5, g6, g7⟩
    have hS : ∀ i, i < w.heap.size → (i = Fk k ∨ (vk k).ownBlock = some i) → i < B1 := fun i _ e => e.elim (fun e => by have := hlt.2.2 k hk; omega) (fun e => (h2 k i hk e).2 rfl)
    refine ⟨rv, rfl, ⟨upd vk k v, Y, ?_, fun j i hj hi => ⟨?_, fun e => by cases e⟩⟩, fun rv' pl e => ?_, fun rv' e => (h.dp rv' e).kp g7 hS, h.act.kp g7 (fun e => e.elim (fun e => by have := hlt.2.2 k hk; omega) (fun e => (h2 k _ hk e).1 rfl)), ⟨hx.1, hx.2.1, Nat.le_trans hx.2.2 g7.size⟩, h.cnt, h.sst⟩
    · have this : PA w0 B0 b m Fk q w' d d (upd vk k v) (upd s0 k (Flo.feed (s0 k) bs).2) _ Y := h1.readP hk g1 g2 g7
      rw [← nxt_upd hk] at this
      exact this
    · unfold upd at hi
      by_cases e : j = k
      · rw [if_pos e] at hi
        rcases g2 i hi with h' | h'
        · exact (h2 k i hk h').1
        · omega
      · rw [if_neg e] at hi
        exact (h2 j i hj hi).1
    · injection e with e
      injection e with e1 e2
      subst e1 e2
      refine ⟨ps, own_mono g3 hx.2.2, fun p hp => (g5 p hp).step (S := fun _ => False) (Kp.refl _ _) (fun _ _ h => h.elim) (fun i _ h => .inl (by omega)), ?_⟩
      rw [g4, its_k hk]
theorem st_plain {rv : Value} (h : ST w0 B0 B1 b m Fk q d s0 lane bs XA cs (some (rv, false)) dr w) :
    Calls Tryd.prog 9 #[rv] w fun e w' => ∃ rv', e = .returned rv' ∧ ST w0 B0 B1 b m Fk q d s0 lane bs XA cs (some (rv', true)) dr w' := by
  obtain ⟨ps, h1, h2, h3⟩ := h.pp rv false rfl
  obtain ⟨A, c, hv, _⟩ := own_form (show w.ownsRow _ _ _ _ _ _ from h1)
  subst hv
  have hx := h.xlt
  have hl : ps.length = (its lane s0 bs).length := by have := congrArg List.length h3; simpa using this
  refine (plain_any (fun i => i < B1) ps B1 A ps.length c w h1 h2 (by rw [hl]; exact h.cnt)).mono ?_
  rintro e w' ⟨rv', rfl, g1, g2⟩
  have hlow := h.low g2
  obtain ⟨vk, Y, k1, k2⟩ := hlow.pa
  refine ⟨rv', rfl, ⟨vk, Y, k1, fun k i hk hi => ⟨(k2 k i hk hi).1, fun e => by cases e⟩⟩, fun rv2 pl e => ?_, hlow.dp, hlow.act, hlow.xlt, h.cnt, h.sst⟩
  injection e with e
  injection e with e1 e2
  subst e1 e2
  exact ⟨ps, own_mono g1 hx.2.2, fun p hp => (h2 p hp).step (Kp.of_below (S := fun _ => False) g2) (fun _ _ h => h.elim) (fun _ _ h => h), h3⟩
theorem st_rread (h : ST w0 B0 B1 b m Fk q d s0 lane bs XA cs pr none w) (A : Option Addr) (n c : Nat) (hbm : bs.length = n) (hat : BytesAt w0 w0.heap.size A bs) (hbl : n ≤ 1000000) (hc : n ≤ c) (hm : c ≤ maxLen) :
    Calls Tryd.prog 18 #[.pointer (some ⟨m, 0, none⟩), .int .i64 lane, .slice A n c] w fun e w' => ∃ rv, e = .returned rv ∧ ST w0 B0 B1 b m Fk q d s0 lane bs XA cs pr (some rv) w' := by
  obtain ⟨vk, Y, h1, h2⟩ := h.pa
  have hx := h.xlt
  have hlt := h1.lt
  rcases lane_cases lane with hl | ⟨k, hk, rfl⟩
  · refine (rread_no m lane A n c w hl).mono ?_
    rintro e w' ⟨rfl, rfl⟩
    refine ⟨_, rfl, ⟨vk, Y, ?_, h2⟩, h.pp, fun rv e => ?_, h.act, hx, h.cnt, h.sst⟩
    · rw [nxt_no hl]
      rw [nxt_no hl] at h1
      simpa using h1
    · cases e
      exact ⟨[], World.ownsRow_nil _ _ _ _, fun p hp => by simp at hp, by rw [its_no hl]; rfl⟩
  · subst hbm
    have hrf := rest_ref hk h1.doc (h1.rf k hk)
    refine (rread_any ⟨65, rpC d Y⟩ m k (3 + k * 2) w0.heap.size c hk rfl A bs _ (s0 k) w (by simpa using hrf) (h.sst k hk).1 (hat.below h1.low) h1.low.size (h.sst k hk).2 hbl hc hm).mono ?_
    rintro e w' ⟨rv, ps, rfl, g1, g3, g4, g5, g7⟩
    have hS : ∀ i, i < w.heap.size → i = m → i < B1 := fun i _ e => by omega
    obtain ⟨Y', hY⟩ := h1.readD hk g1 g7
    refine ⟨rv, rfl, ⟨vk, Y', ?_, h2⟩, fun rv' pl e => (h.pp rv' pl e).kp g7 hS, fun rv' e => ?_, h.act.kp g7 (fun e => by omega), ⟨hx.1, hx.2.1, Nat.le_trans hx.2.2 g7.size⟩, h.cnt, h.sst⟩
    · have this : PA w0 B0 b m Fk q w' d d vk _ (upd s0 k (Flo.feed (s0 k) bs).2) Y' := hY
      rw [← nxt_upd hk] at this
      exact this
    · injection e with e
      subst e
      refine ⟨ps, own_mono g3 hx.2.2, fun p hp => (g5 p hp).step (S := fun _ => False) (Kp.refl _ _) (fun _ _ h => h.elim) (fun i _ h => .inl (by omega)), ?_⟩
      rw [g4, its_k hk]
theorem st_same {rv rv2 : Value} (h : ST w0 B0 B1 b m Fk q d s0 lane bs XA cs (some (rv, true)) (some rv2) w) :
    Calls Tryd.prog 11 #[rv, rv2] w fun e w' => e = .returned (.bool true) ∧ ST w0 B0 B1 b m Fk q d s0 lane bs XA cs (some (rv, true)) (some rv2) w' := by
  obtain ⟨ps, h1, h2, h3⟩ := h.pp rv true rfl
  obtain ⟨qs, k1, k2, k3⟩ := h.dp rv2 rfl
  obtain ⟨A, c, hv, _⟩ := own_form (show w.ownsRow _ _ _ _ _ _ from h1)
  obtain ⟨A2, c2, hv2, _⟩ := own_form (show w.ownsRow _ _ _ _ _ _ from k1)
  subst hv hv2
  have hl : ps.length = (its lane s0 bs).length := by have := congrArg List.length h3; simpa using this
  have hl2 : qs.length = ps.length := by have := congrArg List.length (h3.trans k3.symm); simpa using this.symm
  rw [hl2]
  refine (same_yes (fun i => i < B1) (fun i => i < B1) ps qs B1 B1 A A2 ps.length c c2 w h1 (by have := k1; rwa [hl2] at this) h2 k2 (h3.trans k3.symm) (by rw [hl]; exact h.cnt)).mono ?_
  rintro e w' ⟨rfl, hb⟩
  exact ⟨rfl, by have := h.low hb; rwa [hl2] at this⟩
end Go.Proofs.YtpacgblddeoheaaDoor.P22
