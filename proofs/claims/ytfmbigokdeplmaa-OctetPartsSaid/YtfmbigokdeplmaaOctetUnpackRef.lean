/- Unpack: the document's walk. -/
import Derived.Test.YtfmbigokdeplmaaOctetUnpack
import Derived.Deep.DeepCutAuto
namespace Go.Proofs.Ytfmbigokdeplmaa
open Go.RowKit Go.Deep
set_option linter.unusedVariables false
set_option maxRecDepth 100000
attribute [local go_sem ↓] Go.wp_at_zero Go.wp_at_succ

/-- taken apart so far -/
structure UnpR (w0 : World) (res : List (List UInt8) × Int) (k0 i : Nat) (u9 v : Value) (w : World) : Prop where
  le : i ≤ k0
  below : Below w0.heap.size w0 w
  rest : ∃ Ar rc s acc, u9 = .slice Ar s.length rc ∧ s.length ≤ rc ∧ rc ≤ maxLen ∧ BytesAt w0 w0.heap.size Ar s ∧ Oct.takeApart (k0 - i) s acc = res ∧ RowP w w0.heap.size v acc ∧ acc.length + s.length ≤ 1000000

set_option maxHeartbeats 2000000 in
theorem runpack_any (A : Option Addr) (n cap : Nat) (b : List UInt8) (most : Int) (w : World) (hl : b.length = n) (hn : n ≤ 1000000) (hc : n ≤ cap) (hm : cap ≤ maxLen) (hmost : most ≤ 9223372036854775807) (h : BytesAt w w.heap.size A b) :
    Calls Try.prog 24 #[.slice A n cap, .int .i64 most] w fun r w' => UnpOut w w' (Oct.unpack b most) r := by
  subst hl
  obtain ⟨i0, hi, hz0, hz1, hz2⟩ := info_parts parts_info
  have Hi := Lib.hid hi
  have Hz := Lib.hid hz0
  have Hz1 := Lib.hid hz1
  have Hz2 := Lib.hid hz2
  clear hi hz0 hz1 hz2
  obtain ⟨j0, hi, hz0, hz1, hz2⟩ := info_parts byte_info
  have Ji := Lib.hid hi
  have Jz := Lib.hid hz0
  have Jz1 := Lib.hid hz1
  have Jz2 := Lib.hid hz2
  clear hi hz0 hz1 hz2
  rcases Oct.read_back b with ⟨h1, h2, h3, h4⟩ | ⟨h1, h2, h3, h4, h5⟩
  · have hu : Oct.unpack b most = ([], (Oct.read b).2.2) := by unfold Oct.unpack; rw [if_pos h1]
    rw [hu]
    have hr : readV b = .tuple #[.int .u64 0, .int .i64 0, .int .i64 (Oct.read b).2.2] := by unfold readV; rw [h2, h3]; rfl
    have hne : ((Oct.read b).2.2 != 0) = true := by rw [bne_iff_ne]; exact h1
    have HR := Lib.hid hr
    clear hr h2 h3 hu h1 h4
    generalize (Oct.read b).2.2 = e at *
    go_enter Try.func24, Try.ntmps24
    go_wp2_with fail
    refine (rread_any A _ cap _ b _ rfl hc hm (Nat.le_refl _) h).mono ?_
    rw [HR.out]
    rintro r w1 ⟨rfl, hb1⟩
    go_wp2
    go_ret2
    exact UnpOut.none hb1
  · have hr := readV_of (show Oct.read b = ((Oct.read b).1, (Oct.read b).2.1, (0 : Int)) by rw [← h1])
    have HR := Lib.hid hr
    clear hr h5
    by_cases hmo : most < 0 ∨ most < (Oct.read b).1
    · have hu : Oct.unpack b most = ([], 5) := by unfold Oct.unpack; rw [if_neg (by rw [h1]; exact fun h => h rfl), if_pos hmo]
      rw [hu]
      clear hu h1
      generalize (Oct.read b).1 = k at *
      generalize (Oct.read b).2.1 = at_ at *
      clear h2 h3 h4
      rcases Int.lt_or_le most 0 with hneg | hpos
      · clear hmo
        go_enter Try.func24, Try.ntmps24
        go_wp2_with fail
        refine (rread_any A _ cap _ b _ rfl hc hm (Nat.le_refl _) h).mono ?_
        rw [HR.out]
        rintro r w1 ⟨rfl, hb1⟩
        go_wp2
        go_ret2
        exact UnpOut.none hb1
      · obtain ⟨m, rfl⟩ := Int.eq_ofNat_of_zero_le hpos
        have hlt : ((m : Int) < (k : Int)) := by omega
        clear hmo
        go_enter Try.func24, Try.ntmps24
        go_wp2_with fail
        refine (rread_any A _ cap _ b _ rfl hc hm (Nat.le_refl _) h).mono ?_
        rw [HR.out]
        rintro r w1 ⟨rfl, hb1⟩
        go_wp2
        go_ret2
        exact UnpOut.none hb1
    · have hu : Oct.unpack b most = Oct.takeApart (Oct.read b).1 (b.drop (Oct.read b).2.1) [] := by unfold Oct.unpack; rw [if_neg (by rw [h1]; exact fun h => h rfl), if_neg hmo]
      have Hu := Lib.hid hu
      have hsp := (Oct.size_pos (Oct.read b).1).1
      rw [← h3] at hsp
      clear hu h1 h3
      generalize (Oct.read b).1 = k0 at *
      generalize (Oct.read b).2.1 = at0 at *
      obtain ⟨m, rfl⟩ := Int.eq_ofNat_of_zero_le (show 0 ≤ most by omega)
      have hlt : ¬ ((m : Int) < (k0 : Int)) := by omega
      obtain ⟨q, off, rfl, _, _⟩ := h.cell (i := 0) (by omega)
      have hpos : (0 : Int) ≤ (m : Int) := by omega
      have hdl : (b.drop at0).length = b.length - at0 := List.length_drop
      have HDL := Lib.hid hdl
      have hdrop := BytesAt.drop h at0
      have hk63 : k0 ≤ 9223372036854775807 := by omega
      have hat0 : (0 : Int) ≤ (at0 : Int) := by omega
      have hat1 : (at0 : Int) ≤ (b.length : Int) := by omega
      clear hmo hdl h2
      go_enter Try.func24, Try.ntmps24
      go_wp2_with fail
      refine (rread_any _ _ cap _ b _ rfl hc hm (Nat.le_refl _) h).mono ?_
      rw [HR.out]
      rintro r w1 ⟨rfl, hb1⟩
      go_upto_region 6 with (fail)
      go_cut [0, 9] (fun _ u9 wx => ∃ Ar rc, u9 = .slice Ar (b.drop at0).length rc ∧ (b.drop at0).length ≤ rc ∧ rc ≤ maxLen ∧ BytesAt w w.heap.size Ar (b.drop at0) ∧ wx = w1)
      case first =>
        by_cases hcap : cap = at0
        · go_wp2_with fail
          go_meet
          exact ⟨_, _, by rw [HDL.out], by rw [HDL.out]; omega, by simp [maxLen], by rw [List.drop_of_length_le (by omega)]; exact bytes_nil _ _ _, rfl⟩
        · go_wp2_with fail
          go_meet
          exact ⟨_, _, by rw [HDL.out], by rw [HDL.out]; omega, by omega, hdrop, rfl⟩
      case rest =>
        obtain ⟨Ar, rc, rfl, h1, h2, h3, rfl⟩ := hcut
        clear HR
        go_wp2_with fail
        go_loopw [9, 10, 11] (fun u9 u10 u11 wr => ∃ i : Nat, u11 = .int .u64 i ∧ UnpR w (Oct.takeApart k0 (b.drop at0) []) k0 i u9 u10 wr) (fun _ _ u11 _ => k0 - (intOf u11).toNat)
        case atStart => exact ⟨0, rfl, Nat.zero_le _, hb1, Ar, rc, b.drop at0, [], by rw [HDL.out], h1, h2, h3, rfl, RowP.nil _ _, by rw [HDL.out]; simp; omega⟩
        case round =>
          obtain ⟨i, rfl, gi, hbl, Ar, rc, s, acc, rfl, hs1, hs2, hs3, hacc, hrow, hal⟩ := hrel
          have G := Lib.hid hacc
          have hsz := hbl.size
          by_cases hi : i < k0
          · have hii : ((i : Int) < (k0 : Int)) := by omega
            obtain ⟨k, hk⟩ : ∃ k, k0 - i = k + 1 := ⟨k0 - i - 1, by omega⟩
            have hk' : k = k0 - (i + 1) := by omega
            rw [hk] at hacc
            have HK := Lib.hid hk'
            clear hk hk'
            rcases Oct.read_back s with ⟨h1, h2, h3, h4⟩ | ⟨h1, h2, h3, h4, h5⟩
            · have hd : Oct.takeApart (k + 1) s acc = ([], (Oct.read s).2.2) := by
                unfold Oct.takeApart; rw [if_pos h1]
              rw [hd] at hacc
              have HD := Lib.hid hacc
              have hv : readV s = .tuple #[.int .u64 0, .int .i64 0, .int .i64 (Oct.read s).2.2] := by unfold readV; rw [h2, h3]; rfl
              have hne : ((Oct.read s).2.2 != 0) = true := by rw [bne_iff_ne]; exact h1
              have HV := Lib.hid hv
              clear hd hv hrow h1 h2 h3 h4 hacc
              generalize (Oct.read s).2.2 = e at *
              go_wp2_with fail
              refine (rread_any _ _ _ w.heap.size s _ rfl hs1 hs2 hsz (At.below hs3 hbl)).mono ?_
              rw [HV.out]
              rintro r w2 ⟨rfl, hb2⟩
              go_wp2
              go_ret2
              rw [Hu.out, ← HD.out]
              exact UnpOut.none (hbl.trans (hb2.mono hsz))
            · have hv := readV_of (show Oct.read s = ((Oct.read s).1, (Oct.read s).2.1, (0 : Int)) by rw [← h1])
              have HV := Lib.hid hv
              have hdl : (s.drop (Oct.read s).2.1).length = s.length - (Oct.read s).2.1 := List.length_drop
              have hm1 := (Oct.size_pos (Oct.read s).1).1
              rw [← h3] at hm1
              have hTA : Oct.takeApart (k + 1) s acc = if (s.drop (Oct.read s).2.1).length < (Oct.read s).1 then ([], 4) else Oct.takeApart k ((s.drop (Oct.read s).2.1).drop (Oct.read s).1) (acc ++ [(s.drop (Oct.read s).2.1).take (Oct.read s).1]) := by
                conv => lhs; unfold Oct.takeApart
                rw [if_neg (by rw [h1]; exact fun h => h rfl)]
              rw [hTA] at hacc
              have HD := Lib.hid hacc
              have HDL2 := Lib.hid hdl
              clear hTA hacc hv h1 h3 h5 hdl
              obtain ⟨q2, off2, rfl, -, -⟩ := hs3.cell (i := 0) (by omega)
              have hsd := BytesAt.drop hs3 (Oct.read s).2.1
              generalize (Oct.read s).1 = z at *
              generalize (Oct.read s).2.1 = m1 at *
              have m1a : (0 : Int) ≤ (m1 : Int) := by omega
              have m1b : (m1 : Int) ≤ (s.length : Int) := by omega
              go_wp2_with fail
              refine (rread_any _ _ _ w.heap.size s _ rfl hs1 hs2 hsz (At.below hs3 hbl)).mono ?_
              rw [HV.out]
              rintro r w2 ⟨rfl, hb2⟩
              have b2 := hbl.trans (hb2.mono hsz)
              have hrow2 := hrow.below hb2
              clear hrow HV
              go_upto_region 14 with (fail)
              go_cut [9] from 35 to 67 (fun u9 wx => ∃ Ar rc, u9 = .slice Ar (s.drop m1).length rc ∧ (s.drop m1).length ≤ rc ∧ rc ≤ maxLen ∧ BytesAt w w.heap.size Ar (s.drop m1) ∧ wx = w2)
              case first =>
                by_cases hcap : rc = m1
                · go_wp2_with fail
                  go_meet
                  exact ⟨_, _, by rw [HDL2.out], by rw [HDL2.out]; omega, by simp [maxLen], by rw [List.drop_of_length_le (by omega)]; exact bytes_nil _ _ _, rfl⟩
                · go_wp2_with fail
                  go_meet
                  exact ⟨_, _, by rw [HDL2.out], by rw [HDL2.out]; omega, by omega, hsd, rfl⟩
              case rest =>
                obtain ⟨Ar3, rc3, rfl, g1, g2, g3, hwc⟩ := hcut
                rw [hwc]
                clear hwc
                have hsl : (s.drop m1).length + 1 ≤ s.length := by rw [HDL2.out]; omega
                clear HDL2 hsd hs3 m1a m1b
                generalize s.drop m1 = t at *
                by_cases hz : t.length < z
                · have hzi : ((t.length : Int) < (z : Int)) := by omega
                  have hd := HD.out
                  rw [if_pos hz] at hd
                  have HD2 := Lib.hid hd
                  clear hd hz hrow2
                  go_wp2_with fail
                  go_ret2
                  rw [Hu.out, ← HD2.out]
                  exact UnpOut.none b2
                · have hzi : ¬ ((t.length : Int) < (z : Int)) := by omega
                  have hd := HD.out
                  rw [if_neg hz] at hd
                  have HD2 := Lib.hid hd
                  have zi0 : (0 : Int) ≤ (z : Int) := by omega
                  have zi1 : (z : Int) ≤ (rc3 : Int) := by omega
                  have htl : (t.take z).length = z := by rw [List.length_take]; omega
                  have htd : (t.drop z).length = t.length - z := List.length_drop
                  have HTD := Lib.hid htd
                  have HTL := Lib.hid htl
                  have hp3 : BytesAt w2 w.heap.size Ar3 (t.take z) := BytesAt.take (At.below g3 b2) z
                  have hpd := BytesAt.drop (w := w) (B := w.heap.size) (b := 0) (off := 0) (bs := []) (fun i hi => by simp at hi) 0
                  have hown : OwnB (w2.alloc (.cells #[] 5)) w2.heap.size (.slice (some ⟨w2.heap.size, 0, none⟩) 0 0) [] := Bk.own (bs := []) (Bk.new _ _ _) (Nat.le_refl _) (by simp [maxLen])
                  have hsrc := BytesAt.src (At.below hp3 ((Joins.below_alloc1 w2 (.cells #[] 5)).mono b2.size))
                  have b2s := b2.size
                  obtain ⟨vs, hv1, hv2, hv3⟩ := hrow2
                  have HV2 := Lib.hid hv2
                  have hdrp : ∀ q off, Ar3 = some ⟨q, off, none⟩ → BytesAt w w.heap.size (some ⟨q, off + z, none⟩) (t.drop z) := fun q off e => by subst e; exact BytesAt.drop g3 z
                  have hAr : Ar3 = none → t = [] := fun e => by
                    subst e
                    cases t with
                    | nil => rfl
                    | cons c r => obtain ⟨q, off, h0, _⟩ := g3.cell (i := 0) (by simp); cases h0
                  clear hd htl htd hv2 hpd hs1 hs2
                  generalize t.take z = p at *
                  go_upto_region 18 with (first
                    | (at_builtin; refine wpList_app _ rfl (.tmp 58) (.tmp 61) _ rfl w2.heap.size 5 j0 _ 1 1 Try.underlying23 Ji.out Jz.out Jz1.out Jz2.out rfl (by decide) (.slice (some ⟨w2.heap.size, 0, none⟩) 0 0) 0 [] rfl hown Ar3 z rc3 (p.map byteV) rfl (by rw [List.length_map, Nat.mul_one]; exact HTL.out) hsrc (oneCell_bytes _) (by unfold maxLen; omega) (by omega) (by simp) ?_; intro v3 w3 hrow3 hg3 hat3; have b13 : Below w2.heap.size w2 w3 := (Joins.below_alloc1 _ _).trans (hg3.below_of_own hown (Nat.le_refl _) (by simp)); have ho3 : OwnB w3 w2.heap.size v3 p := (by unfold OwnB; rw [HTL.out]; simpa using hrow3); obtain ⟨A3, c3, rfl, hc3, hm3, ha3, hbk3⟩ := ho3.at_; have hv1' := own_below hv1 b13; have s13 := b13.size)
                    | (at_builtin; refine wpList_app _ rfl (.tmp 57) (.tmp 63) _ rfl w.heap.size 23 i0 _ 1 24 Try.underlying40 Hi.out Hz.out Hz1.out Hz2.out rfl (by decide) u10 acc.length vs rfl (hv1'.alloc _) (some ⟨w3.heap.size, 0, none⟩) 1 1 [.slice A3 p.length c3] rfl rfl (Src.at_ _ _ _ _ _ (by simp) rfl) (by simp [Value.oneCell']) (by unfold maxLen; omega) (by omega) (by simp; omega) ?_; intro v4 w4 hrow4 hg4 hat4))
                  have hpart : PartN w3 u10 (.slice A3 p.length c3) p := ⟨A3, c3, rfl, hc3, hm3, ha3, fun a e => ⟨fun e' => by have k1 := (hv1.lt _ e').2; have k2 := (hbk3 a e).1; omega, (hbk3 a e).2⟩⟩
                  have hR := RowP.push HV2.out (fun i hi => by obtain ⟨u, hu, hp⟩ := hv3 i hi; exact ⟨u, hu, (hp.below b13).below (Joins.below_alloc1 _ _)⟩) (hpart.below (Joins.below_alloc1 _ _)) hrow4 hg4 hat4
                  have b3 := b2.trans (b13.mono b2s)
                  have b4 : Below w.heap.size w w4 := (b3.alloc b3.size _).trans (hg4.below_of_own (hv1'.alloc _) (Nat.le_refl _) (by simp; omega))
                  clear hpart hrow4 hg4 hat4 hv1' hv1 hv3 hrow3 hg3 hat3 ho3 hown hsrc hp3 ha3 hbk3 b13
                  by_cases hcap : rc3 = z
                  · have ht0 : t.drop z = [] := List.drop_of_length_le (by omega)
                    have i1 : (i : Int) < 9223372036854775807 := by omega
                    go_wp2_with fail
                    go_roundw
                    case rel => exact ⟨i + 1, (by first | rfl | go_num), hi, b4, _, _, t.drop z, acc ++ [p], by rw [HTD.out], by rw [HTD.out]; omega, by simp [maxLen], by rw [ht0]; exact bytes_nil _ _ _, by rw [← HK.out]; exact HD2.out, hR, by rw [List.length_append, List.length_singleton, HTD.out]; omega⟩
                    case measure => simp [intOf]; omega
                  · have hA : (∃ q off, Ar3 = some ⟨q, off, none⟩) ∨ t = [] := by
                      cases t with
                      | nil => exact .inr rfl
                      | cons c r => obtain ⟨q, off, h0, _⟩ := g3.cell (i := 0) (by simp); exact .inl ⟨q, off, h0⟩
                    rcases hA with ⟨q3, off3, rfl⟩ | ht0
                    · have hdr := hdrp _ _ rfl
                      clear hdrp hAr
                      have i1 : (i : Int) < 9223372036854775807 := by omega
                      go_wp2_with fail
                      go_roundw
                      case rel => exact ⟨i + 1, (by first | rfl | go_num), hi, b4, _, _, t.drop z, acc ++ [p], by rw [HTD.out], by rw [HTD.out]; omega, by omega, hdr, by rw [← HK.out]; exact HD2.out, hR, by rw [List.length_append, List.length_singleton, HTD.out]; omega⟩
                      case measure => simp [intOf]; omega
                    · have ht0' : t.drop z = [] := by rw [ht0]; simp
                      have htl0 : t.length = 0 := by rw [ht0]; rfl
                      have hz0 : z = 0 := by omega
                      clear ht0
                      subst hz0
                      have i1 : (i : Int) < 9223372036854775807 := by omega
                      go_wp2_with fail
                      go_roundw
                      case rel => exact ⟨i + 1, (by first | rfl | go_num), hi, b4, Ar3, rc3, t.drop 0, acc ++ [p], (by rw [HTD.out, htl0]), by rw [HTD.out]; omega, by omega, by rw [ht0']; exact bytes_nil _ _ _, by rw [← HK.out]; exact HD2.out, hR, by rw [List.length_append, List.length_singleton, HTD.out]; omega⟩
                      case measure => simp [intOf]; omega
          · obtain rfl : i = k0 := by omega
            rw [Nat.sub_self] at hacc
            have hii : ¬ ((i : Int) < (i : Int)) := by omega
            by_cases hend : 0 < s.length
            · have hd : Oct.takeApart 0 s acc = ([], 5) := by unfold Oct.takeApart; rw [if_pos hend]
              rw [hd] at hacc
              have HD := Lib.hid hacc
              have hei : (0 : Int) < (s.length : Int) := by omega
              clear hd hend hrow hacc
              go_wp2
              go_ret2
              rw [Hu.out, ← HD.out]
              exact UnpOut.none hbl
            · have hd : Oct.takeApart 0 s acc = (acc, 0) := by unfold Oct.takeApart; rw [if_neg hend]
              rw [hd] at hacc
              have HD := Lib.hid hacc
              have hei : ¬ ((0 : Int) < (s.length : Int)) := by omega
              obtain ⟨A9, c9, rfl, k1, k2, k3⟩ := hrow.parts
              clear hd hend hacc
              go_wp2
              go_ret2
              rw [Hu.out, ← HD.out]
              exact ⟨A9, c9, rfl, k1, k2, k3, hbl⟩
end Go.Proofs.Ytfmbigokdeplmaa
