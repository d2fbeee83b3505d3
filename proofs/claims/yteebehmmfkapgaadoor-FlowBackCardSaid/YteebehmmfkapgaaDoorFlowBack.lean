/- FlowBack: the walk. -/
import Derived.Test.YteebehmmfkapgaaDoorFlowRow
import Derived.Test.YteebehmmfkapgaaDoorFlowPieces
namespace Go.Proofs.YteebehmmfkapgaaDoor
open Go.RowKit Go.Deep
set_option linter.unusedVariables false
set_option linter.unusedSimpArgs false
set_option maxRecDepth 100000
attribute [local go_sem ↓] Go.wp_at_zero Go.wp_at_succ

set_option maxHeartbeats 4000000 in
theorem flowBack_walk (w : World) (hl : Laid w) (A0 : Option Addr) (n0 c0 : Nat) (ls : List Flo.Msg) (hln : ls.length = n0) (hc : n0 ≤ c0) (hm : c0 ≤ maxLen) (hat : MsgsAt w w.heap.size A0 ls)
    (A1 : Option Addr) (n1 c1 : Nat) (cs : List Nat) (hln1 : cs.length = n1) (hc1 : n1 ≤ c1) (hm1 : c1 ≤ maxLen) (hat1 : At 1 IsCut w w.heap.size A1 cs) :
    Calls Tryd.prog 5 #[.slice A0 n0 c0, .slice A1 n1 c1] w fun r w' => r = .returned (.bool true) ∧ Below w.heap.size w w' := by
  have HL := Lib.hid hl
  have l1 := hl.lc
  have l2 := hl.lf
  have HAL := Lib.hid (flow_alive w hl)
  have HLN0 := Lib.hid hln
  have HLN1 := Lib.hid hln1
  have HAT0 := Lib.hid hat
  have HAT1 := Lib.hid hat1
  clear hl hat hln hln1 hat1 hc hm
  go_enter Tryd.func5, Tryd.ntmps5
  go_wp2_with fail
  refine HAL.out.mono ?_
  rintro e w1 ⟨rfl, hb1⟩
  have HB1 := Lib.hid hb1
  have hw1 := hb1.size
  clear hb1 HAL
  by_cases h1 : 20 < n0
  · have h1' : (20 : Int) < (n0 : Int) := by omega
    go_wp2_with fail
    go_ret
    exact ⟨rfl, HB1.out⟩
  have h1' : ¬ (20 : Int) < (n0 : Int) := by omega
  by_cases h2 : 300 < n1
  · have h2' : (300 : Int) < (n1 : Int) := by omega
    go_wp2_with fail
    go_ret
    exact ⟨rfl, HB1.out⟩
  have h2' : ¬ (300 : Int) < (n1 : Int) := by omega
  have HROW := Lib.hid (row_any A0 n0 c0 ls w1 HLN0.out (by omega) (MsgsAt.mono (HAT0.out.below HB1.out) hw1) (HL.out.below HB1.out))
  go_wp2_with fail
  all_goals try (exfalso; omega)
  refine HROW.out.mono ?_
  rintro e w3 ⟨vb, vw, rfl, hob, how, hap, hb3⟩
  obtain ⟨A, c, rfl, hc, hm, hat, hane⟩ := hob.at_
  obtain ⟨B, hB⟩ : ∃ B, B = Flo.bytes ls := ⟨_, rfl⟩
  obtain ⟨want, hwant⟩ : ∃ x, x = Flo.want ls := ⟨_, rfl⟩
  have hbl := (Flo.bytes_len ls).1
  have hrun := Flo.run_rows ls
  rw [← hB] at hat hc hbl hrun ⊢
  rw [← hwant] at how hrun
  have HRUN := Lib.hid hrun
  have HW := Lib.hid how
  have HATB := Lib.hid hat
  have HAN := Lib.hid hane
  have HB3 := Lib.hid (HB1.out.trans (hb3.mono hw1))
  have hw3 := HB3.out.size
  have hw13 := hb3.size
  have hll := HLN0.out
  have hbn : B.length ≤ 50000 := by omega
  clear hll hbl hrun how hat hane hb3 HB1 hap hob hB hwant HROW HAT0
  go_wp2_with fail
  refine (flowNew_any _).mono ?_
  rintro e w5 ⟨rfl, hk5, hz5, hb5⟩
  obtain ⟨G, hG⟩ : ∃ G, G = w3.heap.size := ⟨_, rfl⟩
  rw [← hG] at hk5 ⊢
  have HB5 := Lib.hid (HB3.out.trans (hb5.mono hw3))
  have HG5 := Lib.hid hk5
  have LG5 := hk5.lt
  have GW : w.heap.size ≤ G := by omega
  have hw5 := HB5.out.size
  have HW5 := Lib.hid (HW.out.kp (Kp.of_below (S := fun _ => False) hb5) (fun _ _ h => h) hw13 (fun _ _ h => h))
  have HWL := Lib.hid (show ∀ i, vw.ownBlock = some i → i < G from fun i hi => by have := (HW.out.lt i hi).2; omega)
  have HAT := Lib.hid ((HATB.out.below hb5).mono hb5.size)
  have hne : ∀ a, A = some a → 0 < B.length → a.block ≠ G := fun a ha h0 => by have := (HAN.out a ha).2; omega
  have G1 : w1.heap.size ≤ G := by omega
  have HNE := Lib.hid hne
  clear hG hz5 hb5 hk5 HB3 HW HATB HAN hne
  go_wp2_with fail
  have rel0 : CutRel w5 G 0 n1 (.int .i64 0) B (.slice none 0 0) (.slice A B.length c) w5 [] ([], false) (.slice none 0 0) B A c :=
    ⟨Nat.zero_le _, rfl, rfl, hc, hm, HAT.out, HNE.out, rfl, Nat.le_refl _, FlowS.new w _ w5 G HG5.out, ⟨RowT.nil _ _ _, fun i h => (by cases h), fun i h => (by cases h), Kp.refl _ _⟩⟩
  have REL0 := Lib.hid rel0
  clear rel0
  go_loopw [8, 5, 30] (fun vg p i wr => ∃ j l s v r A c, CutRel w5 G j n1 i B vg p wr l s v r A c) (fun _ _ i _ => n1 - (intOf i).toNat)
  case atStart => exact ⟨_, _, _, _, _, _, _, REL0.out⟩
  case round =>
    clear REL0 hc hm HNE
    obtain ⟨j, l, s, v, r, A, c, hrel⟩ := hrel
    have HREL := Lib.hid hrel
    obtain ⟨hjn, rfl, rfl, hrc, hcm, hat, hne, htot, hlen, hfs, hside⟩ := hrel
    have HFS := Lib.hid hfs
    have HSD := Lib.hid hside
    have HATR := Lib.hid hat
    have HNER := Lib.hid hne
    have hkr := hside.kp
    clear hat hne htot hfs hside
    by_cases hj : j < n1
    · have hbw := (HB5.out.trans (hkr.low_from (B := w.heap.size) (fun i hi e => by rcases e with e | e; omega; cases e) hw5) : Below w.heap.size w wr)
      have HBW := Lib.hid hbw
      obtain ⟨b1, o1, rfl, hb1, d0, hz⟩ := cut_cell (HAT1.out.below hbw) (i := j) (by rw [HLN1.out]; exact hj)
      obtain ⟨z, hzz⟩ : ∃ z, z = cs[j]'(by rw [HLN1.out]; exact hj) := ⟨_, rfl⟩
      rw [← hzz] at d0 hz
      have i1 : (0 : Int) ≤ (j : Int) := by omega
      have i2 : (j : Int) < (n1 : Int) := by omega
      have i3 : (0 : Int) ≤ (z : Int) := by omega
      have i4 : (z : Int) ≤ 65535 := by omega
      obtain ⟨k, hk⟩ : ∃ k, k = min z r.length := ⟨_, rfl⟩
      clear hbw hzz hb1
      have hki : (if r.length < z then (r.length : Int) else (z : Int)) = (k : Int) := by split <;> omega
      have hkl : k ≤ r.length := by omega
      have hk0 : (0 : Int) ≤ (k : Int) := by omega
      have hk1 : (k : Int) ≤ (r.length : Int) := by omega
      have hk2 : (k : Int) ≤ (c : Int) := by omega
      clear hk
      go_upto_region 12 with (fail)
      clear hki
      have htl : (r.take k).length = k := by rw [List.length_take]; omega
      have hatr := BytesAt.kp_of HATR.out (Nat.le_refl _) hkr (fun a ha _ h0 e => e.elim (HNER.out a ha h0) (fun e => by cases e))
      have hfd := feed_any G w5.heap.size c A (r.take k) v s wr LG5 hkr.size HFS.out (BytesAt.take hatr k) (fun a ha h0 => HNER.out a ha (by omega)) (HL.out.below HBW.out) (by omega) (by omega) (by omega) (by omega) (by omega) (by omega) hcm
      have hnx := Flo.feed_next HFS.out.st HREL.out.tot k
      obtain ⟨out, ho⟩ : ∃ o, o = Flo.feed s (r.take k) := ⟨_, rfl⟩
      rw [← ho] at hfd hnx
      rw [htl] at hfd
      have HNX := Lib.hid hnx.1
      have hfew := hnx.2
      have HFD := Lib.hid hfd
      have hsz5 := hkr.size
      clear hfd hnx ho hatr
      go_wp2_with fail
      refine HFD.out.mono ?_
      rintro e w6 ⟨vl, rfl, v3, hfs6, hside6⟩
      have hlt3 := hfs6.lt.2
      have hsz6 := hside6.kp.size
      obtain ⟨us, e1, e2, e3⟩ := HSD.out.after hside6 LG5
      obtain ⟨us2, k1, k2, k3⟩ := hside6.row
      have hone := items_one k1 k3
      obtain ⟨A3, c3, rfl, hn3, hm3, hsrc⟩ := own_src k2
      have HE2 := Lib.hid e2
      have HE3 := Lib.hid e3
      have HK3 := Lib.hid k3
      have HONE := Lib.hid hone
      have HSRC := Lib.hid hsrc
      have HS6 := Lib.hid hside6
      have HF6 := Lib.hid hfs6
      have HL3 := Lib.hid hlt3
      have HFL := Lib.hid (flat_size k1)
      have HZ : w5.heap.size ≤ w6.heap.size := by omega
      obtain ⟨i1', hi, hz0, hz1', hz2⟩ := info_parts item_info
      have Ji := Lib.hid hi
      have Jz := Lib.hid hz0
      have Jz1 := Lib.hid hz1'
      have Jz2 := Lib.hid hz2
      clear hi hz0 hz1' hz2 e2 e3 k2 k3 hone hsrc hside6 hfs6 hlt3 HFD HFS
      go_upto_region 14 with (at_builtin; refine wpList_app _ rfl (.tmp 39) (.tmp 44) _ rfl w5.heap.size 52 i1' _ 3 48 Tryd.underlying32 Ji.out Jz.out Jz1.out Jz2.out rfl (by decide) u8 l.length ((l.zip us).flatMap itemPair) rfl HE2.out A3 out.1.length c3 ((out.1.zip us2).flatMap itemPair) rfl HFL.out HSRC.out HONE.out (by unfold maxLen; omega) (by omega) HZ ?_; intro v9 w9 hrow9 hg9 hat9)
      generalize hA7 : (if c = k then A else Option.map (fun x => x.add k) A) = A7
      have hj9 := HSD.out.join HS6.out (fun i hi => (HL3.out i hi).2) e1 HE3.out k1 HK3.out hrow9 hg9 hat9
      have hk9 : Kp (fun i => u8.ownBlock = some i) w6 w9 := (Kp.refl _ _).grown hg9 (fun k hk _ => hk)
      have hf9 := HF6.out.kp hk9 (fun e => by have := (HSD.out.row.lt _ e).1; omega) (fun i hi e => by
        rcases HS6.out.own i hi with h1 | h1
        · exact HSD.out.apart i h1 e
        · have := (HSD.out.row.lt i e).2; omega)
      have REL9 : Hid (CutRel w5 G (j + 1) n1 (.int .i64 ((j : Int) + 1)) B v9 (.slice A7 (r.length - k) (c - k)) w9 (l ++ out.1) out.2 v3 (r.drop k) A7 (c - k)) :=
        Lib.hid ⟨by omega, by go_num, by rw [List.length_drop], by rw [List.length_drop]; omega, by omega, by subst hA7; exact bytes_next HATR.out hkl hrc, by subst hA7; exact ne_next HNER.out, HNX.out, by rw [List.length_drop]; omega, hf9, hj9⟩
      clear hj9 hk9 hf9 hrow9 hg9 hat9 hA7
      go_wp2_with fail
      go_roundw
      case rel => exact ⟨j + 1, _, _, _, _, _, _, REL9.out⟩
      case measure => simp [intOf]; omega
    · have hbw := (HB5.out.trans (hkr.low_from (B := w.heap.size) (fun i hi e => by rcases e with e | e; omega; cases e) hw5) : Below w.heap.size w wr)
      have HBW := Lib.hid hbw
      have hjn' : ¬ (j : Int) < (n1 : Int) := by omega
      clear hbw
      have hatr := BytesAt.kp_of HATR.out (Nat.le_refl _) hkr (fun a ha _ h0 e => e.elim (HNER.out a ha h0) (fun e => by cases e))
      have hfd := feed_any G w5.heap.size c A r v s wr LG5 hkr.size HFS.out hatr HNER.out (HL.out.below HBW.out) (by omega) (by omega) (by omega) (by omega) (by omega) (by omega) hcm
      have htot := HREL.out.tot
      have hnx := Flo.run_few _ B (Nat.le_refl _)
      rw [← Flo.feed_new] at hnx
      obtain ⟨out, ho⟩ : ∃ o, o = Flo.feed s r := ⟨_, rfl⟩
      rw [← ho] at hfd htot
      rw [htot] at hnx
      simp only [List.length_append] at hnx
      have HTOT := Lib.hid htot
      have HFD := Lib.hid hfd
      have hsz5 := hkr.size
      clear hfd htot ho hatr
      go_wp2_with fail
      refine HFD.out.mono ?_
      rintro e w6 ⟨vl, rfl, v3, hfs6, hside6⟩
      have hlt3 := hfs6.lt.2
      have hsz6 := hside6.kp.size
      obtain ⟨us, e1, e2, e3⟩ := HSD.out.after hside6 LG5
      obtain ⟨us2, k1, k2, k3⟩ := hside6.row
      have hone := items_one k1 k3
      obtain ⟨A3, c3, rfl, hn3, hm3, hsrc⟩ := own_src k2
      have HE2 := Lib.hid e2
      have HE3 := Lib.hid e3
      have HK3 := Lib.hid k3
      have HONE := Lib.hid hone
      have HSRC := Lib.hid hsrc
      have HS6 := Lib.hid hside6
      have HF6 := Lib.hid hfs6
      have HL3 := Lib.hid hlt3
      have HFL := Lib.hid (flat_size k1)
      have HZ : w5.heap.size ≤ w6.heap.size := by omega
      obtain ⟨i1', hi, hz0, hz1', hz2⟩ := info_parts item_info
      have Ji := Lib.hid hi
      have Jz := Lib.hid hz0
      have Jz1 := Lib.hid hz1'
      have Jz2 := Lib.hid hz2
      clear hi hz0 hz1' hz2 e2 e3 k2 k3 hone hsrc hside6 hfs6 hlt3 HFD HFS
      go_upto_region 16 with (at_builtin; refine wpList_app _ rfl (.tmp 50) (.tmp 53) _ rfl w5.heap.size 52 i1' _ 3 48 Tryd.underlying32 Ji.out Jz.out Jz1.out Jz2.out rfl (by decide) u8 l.length ((l.zip us).flatMap itemPair) rfl HE2.out A3 out.1.length c3 ((out.1.zip us2).flatMap itemPair) rfl HFL.out HSRC.out HONE.out (by unfold maxLen; omega) (by omega) HZ ?_; intro v9 w9 hrow9 hg9 hat9)
      have hj9 := HSD.out.join HS6.out (fun i hi => (HL3.out i hi).2) e1 HE3.out k1 HK3.out hrow9 hg9 hat9
      have hk9 : Kp (fun i => u8.ownBlock = some i) w6 w9 := (Kp.refl _ _).grown hg9 (fun k hk _ => hk)
      have hf9 := HF6.out.kp hk9 (fun e => by have := (HSD.out.row.lt _ e).1; omega) (fun i hi e => by
        rcases HS6.out.own i hi with h1 | h1
        · exact HSD.out.apart i h1 e
        · have := (HSD.out.row.lt i e).2; omega)
      have e0 : l ++ out.1 = want := by have h := HTOT.out; rw [Flo.feed_new, HRUN.out] at h; exact (congrArg Prod.fst h).symm
      have e2 : out.2 = ([], false) := by have h := HTOT.out; rw [Flo.feed_new, HRUN.out] at h; exact (congrArg Prod.snd h).symm
      rw [e0] at hj9
      rw [e2] at hf9
      have kp9 : Kp (fun i => i = G) w5 w9 := hj9.kp.mono (fun i _ h => h.elim (fun h => h) (fun h => by cases h))
      obtain ⟨A9, c9, rfl, _, hm9, hit9⟩ := hj9.row.at_
      have rw9 := HW5.out.kp kp9 (fun i hi e => by have := HWL.out i hi; omega) (by have := HB5.out.size; omega) (fun i hi e => by omega)
      obtain ⟨Aw, cw, rfl, _, _, hitw⟩ := rw9.at_ (by have := kp9.size; omega)
      have HFG := Lib.hid hf9
      have HSM := Lib.hid (isame_any A9 Aw c9 cw want w9 (by unfold maxLen at hm9; omega) hit9 hitw)
      have HB9 : Hid (Below w.heap.size w w9) := Lib.hid (HB5.out.trans (kp9.low_from (B := w.heap.size) (fun i hi e => by omega) hw5))
      have hw9 := HB9.out.size
      clear hj9 hk9 hf9 e0 e2 kp9 hit9 rw9 hitw hrow9 hg9 hat9 HE2 HE3 HK3 HONE HSRC HS6 HF6 HL3 HFL Ji Jz Jz1 Jz2 HB5 HW5 HG5 HSD HATR HNER HBW HREL HTOT
      go_wp2_with fail
      refine HSM.out.mono ?_
      rintro e w10 ⟨rfl, hb10⟩
      have G10 := Lib.hid (HFG.out.low hb10)
      have B10 := Lib.hid (HB9.out.trans (hb10.mono hw9))
      have hw10 := B10.out.size
      clear hb10 HFG HB9 HSM
      go_wp2_with fail
      refine (waits_s G10.out).mono ?_
      rintro e w12 ⟨rfl, hb12⟩
      have G12 := Lib.hid (G10.out.low hb12)
      have B12 := Lib.hid (B10.out.trans (hb12.mono hw10))
      clear hb12 G10 B10
      go_wp2_with fail
      refine (dead_s G12.out).mono ?_
      rintro e w14 ⟨rfl, rfl⟩
      go_wp2_with fail
      go_ret
      exact ⟨by simp, B12.out⟩
end Go.Proofs.YteebehmmfkapgaaDoor
