/- pappuslaw06.row: frames, one behind the other, and what they say. -/
import Derived.Test.YteebehmmfkapgaaDoorFlowRowP
namespace Go.Proofs.YteebehmmfkapgaaDoor
open Go.RowKit Go.Deep
set_option linter.unusedVariables false
set_option linter.unusedSimpArgs false
set_option maxRecDepth 100000
attribute [local go_sem ↓] Go.wp_at_zero Go.wp_at_succ

theorem MsgsAt.mono {w : World} {B B' : Nat} {A : Option Addr} {l : List Flo.Msg} (h : MsgsAt w B A l) (hb : B ≤ B') : MsgsAt w B' A l := by
  intro i hi
  obtain ⟨b, off, vs, hA, hlt, ⟨h0, A', cap, rfl, h1, h2, h3⟩, hc⟩ := h i hi
  exact ⟨b, off, _, hA, by omega, ⟨h0, A', cap, rfl, h1, h2, At.mono h3 hb⟩, hc⟩
/-- frame.Put, whatever comes -/
theorem fput_any (m : Flo.Msg) (A : Option Addr) (c B : Nat) (w : World) (hlay : Laid w) (hs : m.cmd.length ≤ maxLen) (hb : BytesAt w B A m.body) (hB : B ≤ w.heap.size) (hc : m.body.length ≤ c) (hm : c ≤ maxLen) :
    Calls Tryd.prog 19 #[.string ⟨m.cmd.toArray⟩, .slice A m.body.length c] w fun e w' => ∃ v x, e = .returned (.tuple #[v, .int .i64 x]) ∧ Below w.heap.size w w' ∧ (Flo.ok m = true → x = 0 ∧ OwnB w' w.heap.size v (Flo.put m)) ∧ (Flo.ok m = false → x ≠ 0) := by
  have e1 : (⟨m.cmd.toArray⟩ : ByteArray).data.toList = m.cmd := by simp
  have e2 : (⟨m.cmd.toArray⟩ : ByteArray).size = m.cmd.length := by rw [← str_len]
  have hs' : (⟨m.cmd.toArray⟩ : ByteArray).size ≤ 9223372036854775807 := by rw [e2]; unfold maxLen at hs; omega
  by_cases hn : Frm.named m.cmd = true
  · by_cases hl : m.body.length ≤ 2048
    · refine (put_yes ⟨m.cmd.toArray⟩ A c B m.body w hlay hs' (by rw [e1]; exact hn) hl hb hB hc hm).mono ?_
      rintro e w' ⟨v, rfl, ho, hbw⟩
      rw [e1] at ho
      exact ⟨v, 0, rfl, hbw, fun _ => ⟨rfl, ho⟩, fun h => absurd h (by simp [Flo.ok, hn, hl])⟩
    · refine (put_long ⟨m.cmd.toArray⟩ A m.body.length c w hs' (by rw [e1]; exact hn) (by omega)).mono ?_
      rintro e w' ⟨rfl, hbw⟩
      exact ⟨_, 5, rfl, hbw, fun h => absurd h (by simp [Flo.ok, hl]), fun _ => by decide⟩
  · refine (put_unnamed ⟨m.cmd.toArray⟩ A m.body.length c w hs' (by rw [e1]; simpa using hn)).mono ?_
    rintro e w' ⟨rfl, hbw⟩
    exact ⟨_, 8, rfl, hbw, fun h => absurd h (by simp [Flo.ok, hn]), fun _ => by decide⟩
/-- frames so far, and what they say -/
structure RowRel (w : World) (k n : Nat) (i vb vw : Value) (wr : World) (l : List Flo.Msg) : Prop where
  kn : k ≤ n
  ie : i = .int .i64 (k : Int)
  low : Below w.heap.size w wr
  b : OwnB wr w.heap.size vb (Flo.bytes (l.take k))
  t : RowW w.heap.size w.heap.size wr vw (Flo.want (l.take k))
  apart : ∀ i, vb.ownBlock = some i → vw.ownBlock ≠ some i
theorem RowRel.yes {w wr w2 w3 w4 w5 : World} {k n N : Nat} {i vb vw v3 v5 u : Value} {l : List Flo.Msg} {us : List Value} (h : RowRel w k n i vb vw wr l) (hk : k < l.length) (hok : Flo.ok l[k] = true) (hkn : k + 1 ≤ n) (h12 : Below wr.heap.size wr w2)
    (hN : N = (Flo.put l[k]).length) (hrow3 : w3.ownsRow w.heap.size 5 1 v3 ((Flo.bytes (l.take k)).length + N) ((Flo.bytes (l.take k)).map byteV ++ (Flo.put l[k]).map byteV)) (hg3 : w2.grownBy w3 vb.ownBlock) (hat3 : v3.ownBlock = vb.ownBlock ∨ v3.ownBlock = some w2.heap.size)
    (h34 : Below w3.heap.size w3 w4) (e1 : us.length = (Flo.want (l.take k)).length) (e3 : ∀ i (h : i < (Flo.want (l.take k)).length), ∃ u, us[i]? = some u ∧ ItemU w4 w.heap.size u (Flo.want (l.take k))[i].body) (hu : ItemU w4 w.heap.size u l[k].body)
    (hrow5 : w5.ownsRow w.heap.size 52 3 v5 ((Flo.want (l.take k)).length + 1) (((Flo.want (l.take k)).zip us).flatMap itemPair ++ itemCells (Flo.said l[k]) u)) (hg5 : w4.grownBy w5 vw.ownBlock) (hat5 : v5.ownBlock = vw.ownBlock ∨ v5.ownBlock = some w4.heap.size) :
    RowRel w (k + 1) n (.int .i64 ((k : Int) + 1)) v3 v5 w5 l := by
  obtain ⟨hy1, hy2⟩ := Flo.take_yes hk hok
  have z0 := h.low.size
  have z1 := h12.size
  have k23 : Kp (fun i => vb.ownBlock = some i) w2 w3 := (Kp.refl _ _).grown hg3 (fun k hk _ => hk)
  have z2 := k23.size
  have z3 := h34.size
  have k45 : Kp (fun i => vw.ownBlock = some i) w4 w5 := (Kp.refl _ _).grown hg5 (fun k hk _ => hk)
  have hlb := own_lt h.b
  have hlw := h.t.lt
  have hl3 := own_lt hrow3
  have hne : ∀ i, v3.ownBlock = some i → vw.ownBlock ≠ some i := fun i hi e => by
    rcases hat3 with h' | h' <;> rw [h'] at hi
    · exact h.apart i hi e
    · have := Option.some.inj hi; have := (hlw i e).2; omega
  refine ⟨hkn, by go_num, ?_, ?_, ?_, fun i hi e => ?_⟩
  · have b2 : Below w.heap.size w w2 := h.low.trans (h12.mono z0)
    have b3 := b2.trans (k23.low_from (B := w.heap.size) (fun i hi e => by have := (hlb i e).1; omega) (by omega))
    have b4 := b3.trans (h34.mono (by omega))
    exact b4.trans (k45.low_from (B := w.heap.size) (fun i hi e => by have := (hlw i e).1; omega) (by omega))
  · rw [hy1]
    have := own_kp2 (own_kp2 hrow3 (Kp.of_below (S := fun _ => False) h34) (fun _ _ h => h)) k45 (fun i hi e => hne i hi e)
    unfold OwnB
    rw [List.map_append, List.length_append, ← hN]
    exact this
  · rw [hy2]
    exact RowW.push e1 e3 hu hrow5 hg5 (fun i hi => (hlw i hi).1) (by omega)
  · rcases hat5 with h' | h' <;> rw [h'] at e
    · exact hne i hi e
    · have := Option.some.inj e; have := (hl3 i hi).2; omega
set_option maxHeartbeats 2000000 in
theorem row_any (A : Option Addr) (n c : Nat) (l : List Flo.Msg) (w : World) (hl : l.length = n) (hn : n ≤ 20) (hat : MsgsAt w w.heap.size A l) (hlay : Laid w) :
    Calls Tryd.prog 18 #[.slice A n c] w fun e w' => ∃ vb vw, e = .returned (.tuple #[vb, vw]) ∧ OwnB w' w.heap.size vb (Flo.bytes l) ∧ RowW w.heap.size w.heap.size w' vw (Flo.want l) ∧ (∀ i, vb.ownBlock = some i → vw.ownBlock ≠ some i) ∧ Below w.heap.size w w' := by
  have HAT := Lib.hid hat
  have HLAY := Lib.hid hlay
  have HLN := Lib.hid hl
  clear hat hlay hl
  go_enter Tryd.func18, Tryd.ntmps18
  go_wp2_with fail
  go_loopw [4, 5, 12] (fun vb vw i wr => ∃ k, RowRel w k n i vb vw wr l) (fun _ _ i _ => n - (intOf i).toNat)
  case atStart => exact ⟨0, Nat.zero_le _, rfl, Below.refl _ _, own_nil _ _, RowW.nil _ _ _, fun i h => by cases h⟩
  case round =>
    obtain ⟨k, hrel⟩ := hrel
    have HREL := Lib.hid hrel
    obtain ⟨hkn, rfl, hlow, hb, ht, hap⟩ := hrel
    have HLOW := Lib.hid hlow
    have HBY := Lib.hid hb
    have HT := Lib.hid ht
    have hwr := hlow.size
    clear hlow hb ht hap
    by_cases hk : k < n
    · obtain ⟨b, off, A1, c1, rfl, hbl, h0, hc1, hm1, hat1, d0, d1⟩ := (HAT.out.below HLOW.out).cells (i := k) (by rw [HLN.out]; exact hk)
      obtain ⟨m, hm⟩ : ∃ m, m = l[k]'(by rw [HLN.out]; exact hk) := ⟨_, rfl⟩
      rw [← hm] at h0 hc1 hat1 d0 d1
      have HM := Lib.hid hm
      have i1 : (0 : Int) ≤ (k : Int) := by omega
      have i2 : (k : Int) < (n : Int) := by omega
      have HA1 := Lib.hid hat1
      obtain ⟨s, hs⟩ : ∃ s : ByteArray, s = ⟨m.cmd.toArray⟩ := ⟨_, rfl⟩
      rw [← hs] at d0
      have hput := fun W (hw : Below w.heap.size w W) (hb : BytesAt W w.heap.size A1 m.body) => fput_any m A1 c1 w.heap.size W (HLAY.out.below hw) h0 hb hw.size hc1 hm1
      rw [← hs] at hput
      have HPUT := Lib.hid hput
      have HS := Lib.hid hs
      clear hm hat1 hput hs
      go_upto_region 6 with (fail)
      have HLW := Lib.hid ((HLOW.out.alloc hwr (.cells #[.string s, .slice A1 m.body.length c1] 43)))
      have HPX := Lib.hid (HPUT.out _ HLW.out (HA1.out.below ((Below.refl w.heap.size wr).alloc hwr (.cells #[.string s, .slice A1 m.body.length c1] 43))))
      have hz1 : wr.heap.size < (wr.alloc (.cells #[.string s, .slice A1 m.body.length c1] 43)).heap.size := by simp
      obtain ⟨W1, hW1⟩ : ∃ W1, W1 = wr.alloc (.cells #[.string s, .slice A1 m.body.length c1] 43) := ⟨_, rfl⟩
      have HK1 : Hid (Bk W1 wr.heap.size 43 #[.string s, .slice A1 m.body.length c1]) := Lib.hid (by rw [hW1]; exact Bk.new _ _ _)
      have HB1 : Hid (Below wr.heap.size wr W1) := Lib.hid (by rw [hW1]; exact (Below.refl _ _).alloc (Nat.le_refl _) _)
      go_wp2_with fail
      rw [← hW1] at HLW HPX hz1 ⊢
      clear hW1
      by_cases hok : Flo.ok m = true
      · refine HPX.out.mono ?_
        rintro e w2 ⟨v, x, rfl, hb2, hyes, _⟩
        obtain ⟨rfl, hov⟩ := hyes hok
        obtain ⟨A2, c2, rfl, hn2, hm2, hsrc2⟩ := own_src hov
        have HS2 := Lib.hid hsrc2
        have HK2 := Lib.hid (HK1.out.below hb2 hz1)
        have hz2 := hb2.size
        have HB2 := Lib.hid (HB1.out.trans (hb2.mono (Nat.le_of_lt hz1)))
        have HBY2 := Lib.hid (own_kp2 HBY.out (Kp.of_below (S := fun _ => False) HB2.out) (fun _ _ h => h))
        have HVL := Lib.hid HBY.out.lt
        obtain ⟨i0, hi, hz0, hz1', hz2'⟩ := info_parts byte_info
        have Hi := Lib.hid hi
        have Hz := Lib.hid hz0
        have Hz1 := Lib.hid hz1'
        have Hz2 := Lib.hid hz2'
        have hpl := Flo.put_len hok
        have hbl := (Flo.bytes_len (l.take k)).1
        have htl : (l.take k).length ≤ k := List.length_take_le _ _
        have HYES := Lib.hid (Flo.take_yes (l := l) (k := k) (by rw [HLN.out]; exact hk) (by rw [← HM.out]; exact hok))
        have HLP : Hid (((Flo.put m).map byteV).length = (Flo.put m).length * 1) := Lib.hid (by rw [List.length_map, Nat.mul_one])
        obtain ⟨N, hN⟩ : ∃ N, N = (Flo.put m).length := ⟨_, rfl⟩
        rw [← hN] at hn2 hpl HLP ⊢
        have HN := Lib.hid hN
        have hN2 : N ≤ 2072 := by omega
        clear hi hz0 hz1' hz2' hyes hov hsrc2 hb2 hN hpl
        go_upto_region 9 with (at_builtin; refine wpList_app _ rfl (.tmp 26) (.tmp 27) _ rfl w.heap.size 5 i0 _ 1 1 Tryd.underlying28 Hi.out Hz.out Hz1.out Hz2.out rfl (by decide) u4 (Flo.bytes (List.take k l)).length _ rfl HBY2.out A2 N c2 ((Flo.put m).map byteV) rfl HLP.out HS2.out (oneCell_bytes _) (by unfold maxLen; omega) (by omega) (by omega) ?_; intro v3 w3 hrow3 hg3 hat3)
        have k23 : Kp (fun i => u4.ownBlock = some i) w2 w3 := (Kp.refl _ _).grown hg3 (fun k hk _ => hk)
        have hz3 := k23.size
        have row3 := (HT.out.kp (Kp.of_below (S := fun _ => False) HB2.out) (fun _ _ h => h) hwr (fun _ _ h => h)).kp k23 (fun i hi e => HREL.out.apart i e hi) (by omega) (fun i hi e => by have := (HVL.out i e).1; omega)
        obtain ⟨us, e1, e2, e3⟩ := row3
        have HK3 := HK2.out.kp k23 (fun e => by have := (HVL.out _ e).2; omega)
        have f0 : w3.cell? ⟨wr.heap.size, 0, none⟩ = some (.string s) := (HK3.cell 0).trans rfl
        have f1 : w3.cell? ⟨wr.heap.size, 1, none⟩ = some (.slice A1 m.body.length c1) := (HK3.cell 1).trans rfl
        have HE1 := Lib.hid e1
        have HE2 := Lib.hid e2
        have HE3 := Lib.hid e3
        have HR3 := Lib.hid hrow3
        have HG3 := Lib.hid hg3
        have HAT3 := Lib.hid hat3
        have hwl := (Flo.bytes_len (l.take k)).2
        obtain ⟨i1, hi, hz0, hz1', hz2'⟩ := info_parts item_info
        have Ji := Lib.hid hi
        have Jz := Lib.hid hz0
        have Jz1 := Lib.hid hz1'
        have Jz2 := Lib.hid hz2'
        have HSRC := Lib.hid (Src.at_ w3 [.string s, .slice A1 m.body.length c1, .int .i64 0] 52 #[.string s, .slice A1 m.body.length c1, .int .i64 0] w3.heap.size rfl rfl)
        have HON4 := Lib.hid (own_below e2 (Joins.below_alloc1 w3 (.cells #[.string s, .slice A1 m.body.length c1, .int .i64 0] 52)))
        have HB34 := Lib.hid (Joins.below_alloc1 w3 (.cells #[.string s, .slice A1 m.body.length c1, .int .i64 0] 52))
        have HU3 : Hid (ItemU w3 w.heap.size (.slice A1 m.body.length c1) m.body) := Lib.hid ⟨A1, c1, rfl, hc1, hm1, (At.kp (HA1.out.below (HB2.out.mono hwr)) k23 (by omega) (fun i hi e => by have := (HVL.out i e).1; omega))⟩
        clear hi hz0 hz1' hz2' k23 HK3 e1 e2 e3 hrow3 hg3 hat3
        go_upto_region 10 with (at_builtin; refine wpList_app _ rfl (.tmp 29) (.tmp 35) _ rfl w.heap.size 52 i1 _ 3 48 Tryd.underlying32 Ji.out Jz.out Jz1.out Jz2.out rfl (by decide) u5 (Flo.want (List.take k l)).length (((Flo.want (List.take k l)).zip us).flatMap itemPair) rfl HON4.out (some ⟨w3.heap.size, 0, none⟩) 1 1 [.string s, .slice A1 m.body.length c1, .int .i64 0] rfl rfl HSRC.out (itemCells_one ⟨s.data.toList, [], 0⟩ A1 m.body.length c1) (by unfold maxLen; omega) (by omega) (by simp; omega) ?_; intro v5 w5 hrow5 hg5 hat5)
        have REL : Hid (RowRel w (k + 1) n (.int .i64 ((k : Int) + 1)) v3 v5 w5 l) := Lib.hid (by
          have hkl : k < l.length := by rw [HLN.out]; exact hk
          refine RowRel.yes (N := N) HREL.out hkl (by rw [← HM.out]; exact hok) hk HB2.out (by rw [← HM.out]; exact HN.out) (by rw [← HM.out]; exact HR3.out) HG3.out HAT3.out HB34.out HE1.out (fun i hi => ?_) (u := .slice A1 m.body.length c1) ?_ ?_ hg5 hat5
          · obtain ⟨u, hu, hp⟩ := HE3.out i hi
            exact ⟨u, hu, hp.kp (Kp.of_below (S := fun _ => False) HB34.out) (by omega) (fun _ _ h => h)⟩
          · rw [← HM.out]
            exact HU3.out.kp (Kp.of_below (S := fun _ => False) HB34.out) (by omega) (fun _ _ h => h)
          · rw [← HM.out]
            unfold Flo.said itemCells
            simp only
            rw [← HS.out]
            exact hrow5)
        clear hrow5 hg5 hat5 HR3 HG3 HAT3 HE1 HE2 HE3 HU3 HSRC HON4 HB34
        go_wp2_with fail
        go_roundw
        case rel => exact ⟨k + 1, REL.out⟩
        case measure => simp [intOf]; omega
      · refine HPX.out.mono ?_
        rintro e w2 ⟨v, x, rfl, hb2, _, hno⟩
        have hx : (x == 0) = false := by simpa using hno (by simpa using hok)
        have HB2 := Lib.hid (HB1.out.trans (hb2.mono (Nat.le_of_lt hz1)))
        have REL : Hid (RowRel w (k + 1) n (.int .i64 ((k : Int) + 1)) u4 u5 w2 l) := Lib.hid (by
          have hkl : k < l.length := by rw [HLN.out]; exact hk
          have ht := Flo.take_no hkl (by rw [← HM.out]; simpa using hok)
          refine ⟨hk, by go_num, HREL.out.low.trans (HB2.out.mono hwr), ?_, ?_, HREL.out.apart⟩
          · rw [ht.1]; exact own_kp2 HREL.out.b (Kp.of_below (S := fun _ => False) HB2.out) (fun _ _ h => h)
          · rw [ht.2]; exact HREL.out.t.kp (Kp.of_below (S := fun _ => False) HB2.out) (fun _ _ h => h) hwr (fun _ _ h => h))
        clear hb2 hno
        go_wp2_with fail
        go_roundw
        case rel => exact ⟨k + 1, REL.out⟩
        case measure => simp [intOf]; omega
    · have hkn' : ¬ (k : Int) < (n : Int) := by omega
      have hkk : k = n := by omega
      have hall : l.take k = l := List.take_of_length_le (by rw [HLN.out]; omega)
      have HALL := Lib.hid hall
      clear hall hkk
      go_wp2_with fail
      go_ret2
      have h1 := HREL.out.b
      have h2 := HREL.out.t
      rw [HALL.out] at h1 h2
      exact ⟨_, _, rfl, h1, h2, HREL.out.apart, HREL.out.low⟩
end Go.Proofs.YteebehmmfkapgaaDoor
