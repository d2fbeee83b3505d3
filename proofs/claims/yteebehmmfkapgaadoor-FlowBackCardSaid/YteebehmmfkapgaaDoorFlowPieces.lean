/- FlowPieces: the walk. -/
import Derived.Test.YteebehmmfkapgaaDoorFlowJoin
namespace Go.Proofs.YteebehmmfkapgaaDoor
open Go.RowKit Go.Deep
set_option linter.unusedVariables false
set_option linter.unusedSimpArgs false
set_option maxRecDepth 100000
attribute [local go_sem ↓] Go.wp_at_zero Go.wp_at_succ

/-- what was told so far, what is left -/
structure CutRel (w2 : World) (G j n : Nat) (i : Value) (B : List UInt8) (vg p : Value) (wr : World) (l : List Flo.Item) (s : List UInt8 × Bool) (v : Value) (r : List UInt8) (A : Option Addr) (c : Nat) : Prop where
  jn : j ≤ n
  ie : i = .int .i64 (j : Int)
  pe : p = .slice A r.length c
  rc : r.length ≤ c
  cm : c ≤ maxLen
  at_ : BytesAt w2 w2.heap.size A r
  ne : ∀ a, A = some a → 0 < r.length → a.block ≠ G
  tot : Flo.feed ([], false) B = (l ++ (Flo.feed s r).1, (Flo.feed s r).2)
  len : r.length ≤ B.length
  fs : FlowS wr G w2.heap.size v s
  side : FeedSide w2 G (.slice none 0 0) wr vg l v
set_option maxHeartbeats 4000000 in
theorem flowPieces_walk (w : World) (hl : Laid w) (A : Option Addr) (n c : Nat) (B : List UInt8) (hln : B.length = n) (hc : n ≤ c) (hm : c ≤ maxLen) (hat : BytesAt w w.heap.size A B)
    (A1 : Option Addr) (n1 c1 : Nat) (cs : List Nat) (hln1 : cs.length = n1) (hc1 : n1 ≤ c1) (hm1 : c1 ≤ maxLen) (hat1 : At 1 IsCut w w.heap.size A1 cs) :
    Calls Tryd.prog 4 #[.slice A n c, .slice A1 n1 c1] w fun r w' => r = .returned (.bool true) ∧ Below w.heap.size w w' := by
  have HL := Lib.hid hl
  have l1 := hl.lc
  have l2 := hl.lf
  have HAL := Lib.hid (flow_alive w hl)
  subst hln
  have HLN1 := Lib.hid hln1
  have HAT := Lib.hid hat
  have HAT1 := Lib.hid hat1
  clear hl hat hln1 hat1
  go_enter Tryd.func4, Tryd.ntmps4
  go_wp2_with fail
  refine HAL.out.mono ?_
  rintro e w1 ⟨rfl, hb1⟩
  have HB1 := Lib.hid hb1
  have hw1 := hb1.size
  clear hb1 HAL
  by_cases h1 : 20000 < B.length
  · have h1' : (20000 : Int) < (B.length : Int) := by omega
    go_wp2_with fail
    go_ret
    exact ⟨rfl, HB1.out⟩
  have h1' : ¬ (20000 : Int) < (B.length : Int) := by omega
  by_cases h2 : 300 < n1
  · have h2' : (300 : Int) < (n1 : Int) := by omega
    go_wp2_with fail
    go_ret
    exact ⟨rfl, HB1.out⟩
  have h2' : ¬ (300 : Int) < (n1 : Int) := by omega
  go_wp2_with fail
  all_goals try (exfalso; omega)
  refine (flowNew_any _).mono ?_
  rintro e w3 ⟨rfl, hk3, hz3, hb3⟩
  obtain ⟨F, hF⟩ : ∃ F, F = w1.heap.size := ⟨_, rfl⟩
  rw [← hF] at hk3 ⊢
  have HB3 := Lib.hid (HB1.out.trans (hb3.mono hw1))
  have HF3 := Lib.hid hk3
  have LF3 := hk3.lt
  have FW : w.heap.size ≤ F := by omega
  clear hF hz3 hb3 hk3 HB1
  go_wp2_with fail
  refine (flowNew_any _).mono ?_
  rintro e w4 ⟨rfl, hk4, hz4, hb4⟩
  obtain ⟨G, hG⟩ : ∃ G, G = w3.heap.size := ⟨_, rfl⟩
  rw [← hG] at hk4 ⊢
  have hw3 := HB3.out.size
  have HB4 := Lib.hid (HB3.out.trans (hb4.mono hw3))
  have HF4 := Lib.hid (HF3.out.below hb4 LF3)
  have HG4 := Lib.hid hk4
  have LF4 := HF4.out.lt
  have LG4 := hk4.lt
  have GW : w.heap.size ≤ G := by omega
  have FG : F ≠ G := by omega
  have hw4 := HB4.out.size
  clear hG hz4 hb4 hk4 HB3 HF3 LF3
  obtain ⟨out0, ho0⟩ : ∃ o, o = Flo.feed ([], false) B := ⟨_, rfl⟩
  have hne : ∀ a, A = some a → 0 < B.length → a.block < w.heap.size := fun a ha h0 => by
    obtain ⟨q, of', hA', hq, _⟩ := BytesAt.cell HAT.out (i := 0) h0
    rw [hA'] at ha; cases ha; exact hq
  have hfd := feed_any F w4.heap.size c A B _ _ w4 LF4 (Nat.le_refl _) (FlowS.new w _ w4 F HF4.out) ((HAT.out.below HB4.out).mono hw4) (fun a ha h0 => by have := hne a ha h0; omega) (HL.out.below HB4.out) (by omega) (by omega) (by omega) (by omega) (by omega) hc hm
  rw [← ho0] at hfd
  have HFD := Lib.hid hfd
  have HO := Lib.hid ho0
  have HNE := Lib.hid hne
  clear hfd ho0 hne
  go_wp2_with fail
  refine HFD.out.mono ?_
  rintro e w5 ⟨vw, rfl, vf, hfs5, hside5⟩
  have HF5 := Lib.hid hfs5
  have HW5 := Lib.hid hside5
  have kp5 : Kp (fun i => i = F) w4 w5 := hside5.kp.mono (fun i _ h => h.elim (fun h => h) (fun h => by cases h))
  have HB5 := Lib.hid (HB4.out.trans (kp5.low_from (B := w.heap.size) (fun i hi e => by omega) hw4))
  have HG5 := Lib.hid (HG4.out.kp kp5 (fun e => FG e.symm))
  have LG5 := HG5.out.lt
  have hw5 := HB5.out.size
  obtain ⟨Aw, cw, rfl, _, _, hitw⟩ := hside5.row.at_
  have HIW := Lib.hid hitw
  clear hfs5 hside5 kp5 HFD HF4 HG4 HB4 hitw
  go_wp2_with fail
  have rel0 : CutRel w5 G 0 n1 (.int .i64 0) B (.slice none 0 0) (.slice A B.length c) w5 [] ([], false) (.slice none 0 0) B A c :=
    ⟨Nat.zero_le _, rfl, rfl, hc, hm, (HAT.out.below HB5.out).mono hw5, fun a ha h0 => by have := HNE.out a ha h0; omega, by rw [← HO.out]; rfl, Nat.le_refl _, FlowS.new w _ w5 G HG5.out, ⟨RowT.nil _ _ _, fun i h => (by cases h), fun i h => (by cases h), Kp.refl _ _⟩⟩
  have REL0 := Lib.hid rel0
  clear rel0
  go_loopw [8, 9, 31] (fun vg p i wr => ∃ j l s v r A c, CutRel w5 G j n1 i B vg p wr l s v r A c) (fun _ _ i _ => n1 - (intOf i).toNat)
  case atStart => exact ⟨_, _, _, _, _, _, _, REL0.out⟩
  case round =>
    clear REL0 hc hm HNE
    obtain ⟨j, l, s, v, r, A, c, hrel⟩ := hrel
    have HREL := Lib.hid hrel
    obtain ⟨hjn, rfl, rfl, hrc, hcm, hat, hne, htot, hlen, hfs, hside⟩ := hrel
    have HFS := Lib.hid hfs
    have HSD := Lib.hid hside
    have HATR := Lib.hid hat
    have HNER := Lib.hid hne
    have hkr := hside.kp
    clear hat hne htot hfs hside
    by_cases hj : j < n1
    · have hbw := (HB5.out.trans (hkr.low_from (B := w.heap.size) (fun i hi e => by rcases e with e | e; omega; cases e) hw5) : Below w.heap.size w wr)
      have HBW := Lib.hid hbw
      obtain ⟨b1, o1, rfl, hb1, d0, hz⟩ := cut_cell (HAT1.out.below hbw) (i := j) (by rw [HLN1.out]; exact hj)
      obtain ⟨z, hzz⟩ : ∃ z, z = cs[j]'(by rw [HLN1.out]; exact hj) := ⟨_, rfl⟩
      rw [← hzz] at d0 hz
      have i1 : (0 : Int) ≤ (j : Int) := by omega
      have i2 : (j : Int) < (n1 : Int) := by omega
      have i3 : (0 : Int) ≤ (z : Int) := by omega
      have i4 : (z : Int) ≤ 65535 := by omega
      obtain ⟨k, hk⟩ : ∃ k, k = min z r.length := ⟨_, rfl⟩
      clear hbw hzz hb1
      have hki : (if r.length < z then (r.length : Int) else (z : Int)) = (k : Int) := by split <;> omega
      have hkl : k ≤ r.length := by omega
      have hk0 : (0 : Int) ≤ (k : Int) := by omega
      have hk1 : (k : Int) ≤ (r.length : Int) := by omega
      have hk2 : (k : Int) ≤ (c : Int) := by omega
      clear hk
      go_upto_region 13 with (fail)
      clear hki
      have htl : (r.take k).length = k := by rw [List.length_take]; omega
      have hatr := BytesAt.kp_of HATR.out (Nat.le_refl _) hkr (fun a ha _ h0 e => e.elim (HNER.out a ha h0) (fun e => by cases e))
      have hfd := feed_any G w5.heap.size c A (r.take k) v s wr LG5 hkr.size HFS.out (BytesAt.take hatr k) (fun a ha h0 => HNER.out a ha (by omega)) (HL.out.below HBW.out) (by omega) (by omega) (by omega) (by omega) (by omega) (by omega) hcm
      have hnx := Flo.feed_next HFS.out.st HREL.out.tot k
      obtain ⟨out, ho⟩ : ∃ o, o = Flo.feed s (r.take k) := ⟨_, rfl⟩
      rw [← ho] at hfd hnx
      rw [htl] at hfd
      have HNX := Lib.hid hnx.1
      have hfew := hnx.2
      have HFD := Lib.hid hfd
      have hsz5 := hkr.size
      clear hfd hnx ho hatr
      go_wp2_with fail
      refine HFD.out.mono ?_
      rintro e w6 ⟨vl, rfl, v3, hfs6, hside6⟩
      have hlt3 := hfs6.lt.2
      have hsz6 := hside6.kp.size
      obtain ⟨us, e1, e2, e3⟩ := HSD.out.after hside6 LG5
      obtain ⟨us2, k1, k2, k3⟩ := hside6.row
      have hone := items_one k1 k3
      obtain ⟨A3, c3, rfl, hn3, hm3, hsrc⟩ := own_src k2
      have HE2 := Lib.hid e2
      have HE3 := Lib.hid e3
      have HK3 := Lib.hid k3
      have HONE := Lib.hid hone
      have HSRC := Lib.hid hsrc
      have HS6 := Lib.hid hside6
      have HF6 := Lib.hid hfs6
      have HL3 := Lib.hid hlt3
      have HFL := Lib.hid (flat_size k1)
      have HZ : w5.heap.size ≤ w6.heap.size := by omega
      obtain ⟨i1', hi, hz0, hz1', hz2⟩ := info_parts item_info
      have Ji := Lib.hid hi
      have Jz := Lib.hid hz0
      have Jz1 := Lib.hid hz1'
      have Jz2 := Lib.hid hz2
      clear hi hz0 hz1' hz2 e2 e3 k2 k3 hone hsrc hside6 hfs6 hlt3 HFD HFS
      go_upto_region 15 with (at_builtin; refine wpList_app _ rfl (.tmp 40) (.tmp 45) _ rfl w5.heap.size 52 i1' _ 3 48 Tryd.underlying32 Ji.out Jz.out Jz1.out Jz2.out rfl (by decide) u8 l.length ((l.zip us).flatMap itemPair) rfl HE2.out A3 out.1.length c3 ((out.1.zip us2).flatMap itemPair) rfl HFL.out HSRC.out HONE.out (by unfold maxLen; omega) (by omega) HZ ?_; intro v9 w9 hrow9 hg9 hat9)
      generalize hA7 : (if c = k then A else Option.map (fun x => x.add k) A) = A7
      have hj9 := HSD.out.join HS6.out (fun i hi => (HL3.out i hi).2) e1 HE3.out k1 HK3.out hrow9 hg9 hat9
      have hk9 : Kp (fun i => u8.ownBlock = some i) w6 w9 := (Kp.refl _ _).grown hg9 (fun k hk _ => hk)
      have hf9 := HF6.out.kp hk9 (fun e => by have := (HSD.out.row.lt _ e).1; omega) (fun i hi e => by
        rcases HS6.out.own i hi with h1 | h1
        · exact HSD.out.apart i h1 e
        · have := (HSD.out.row.lt i e).2; omega)
      have REL9 : Hid (CutRel w5 G (j + 1) n1 (.int .i64 ((j : Int) + 1)) B v9 (.slice A7 (r.length - k) (c - k)) w9 (l ++ out.1) out.2 v3 (r.drop k) A7 (c - k)) :=
        Lib.hid ⟨by omega, by go_num, by rw [List.length_drop], by rw [List.length_drop]; omega, by omega, by subst hA7; exact bytes_next HATR.out hkl hrc, by subst hA7; exact ne_next HNER.out, HNX.out, by rw [List.length_drop]; omega, hf9, hj9⟩
      clear hj9 hk9 hf9 hrow9 hg9 hat9 hA7
      go_wp2_with fail
      go_roundw
      case rel => exact ⟨j + 1, _, _, _, _, _, _, REL9.out⟩
      case measure => simp [intOf]; omega
    · have hbw := (HB5.out.trans (hkr.low_from (B := w.heap.size) (fun i hi e => by rcases e with e | e; omega; cases e) hw5) : Below w.heap.size w wr)
      have HBW := Lib.hid hbw
      have hjn' : ¬ (j : Int) < (n1 : Int) := by omega
      clear hbw
      have hatr := BytesAt.kp_of HATR.out (Nat.le_refl _) hkr (fun a ha _ h0 e => e.elim (HNER.out a ha h0) (fun e => by cases e))
      have hfd := feed_any G w5.heap.size c A r v s wr LG5 hkr.size HFS.out hatr HNER.out (HL.out.below HBW.out) (by omega) (by omega) (by omega) (by omega) (by omega) (by omega) hcm
      have htot := HREL.out.tot
      have hnx := Flo.run_few _ B (Nat.le_refl _)
      rw [← Flo.feed_new] at hnx
      obtain ⟨out, ho⟩ : ∃ o, o = Flo.feed s r := ⟨_, rfl⟩
      rw [← ho] at hfd htot
      rw [htot] at hnx
      simp only [List.length_append] at hnx
      have HTOT := Lib.hid htot
      have HFD := Lib.hid hfd
      have hsz5 := hkr.size
      clear hfd htot ho hatr
      go_wp2_with fail
      refine HFD.out.mono ?_
      rintro e w6 ⟨vl, rfl, v3, hfs6, hside6⟩
      have hlt3 := hfs6.lt.2
      have hsz6 := hside6.kp.size
      obtain ⟨us, e1, e2, e3⟩ := HSD.out.after hside6 LG5
      obtain ⟨us2, k1, k2, k3⟩ := hside6.row
      have hone := items_one k1 k3
      obtain ⟨A3, c3, rfl, hn3, hm3, hsrc⟩ := own_src k2
      have HE2 := Lib.hid e2
      have HE3 := Lib.hid e3
      have HK3 := Lib.hid k3
      have HONE := Lib.hid hone
      have HSRC := Lib.hid hsrc
      have HS6 := Lib.hid hside6
      have HF6 := Lib.hid hfs6
      have HL3 := Lib.hid hlt3
      have HFL := Lib.hid (flat_size k1)
      have HZ : w5.heap.size ≤ w6.heap.size := by omega
      obtain ⟨i1', hi, hz0, hz1', hz2⟩ := info_parts item_info
      have Ji := Lib.hid hi
      have Jz := Lib.hid hz0
      have Jz1 := Lib.hid hz1'
      have Jz2 := Lib.hid hz2
      clear hi hz0 hz1' hz2 e2 e3 k2 k3 hone hsrc hside6 hfs6 hlt3 HFD HFS
      go_upto_region 17 with (at_builtin; refine wpList_app _ rfl (.tmp 51) (.tmp 54) _ rfl w5.heap.size 52 i1' _ 3 48 Tryd.underlying32 Ji.out Jz.out Jz1.out Jz2.out rfl (by decide) u8 l.length ((l.zip us).flatMap itemPair) rfl HE2.out A3 out.1.length c3 ((out.1.zip us2).flatMap itemPair) rfl HFL.out HSRC.out HONE.out (by unfold maxLen; omega) (by omega) HZ ?_; intro v9 w9 hrow9 hg9 hat9)
      have hj9 := HSD.out.join HS6.out (fun i hi => (HL3.out i hi).2) e1 HE3.out k1 HK3.out hrow9 hg9 hat9
      have hk9 : Kp (fun i => u8.ownBlock = some i) w6 w9 := (Kp.refl _ _).grown hg9 (fun k hk _ => hk)
      have hf9 := HF6.out.kp hk9 (fun e => by have := (HSD.out.row.lt _ e).1; omega) (fun i hi e => by
        rcases HS6.out.own i hi with h1 | h1
        · exact HSD.out.apart i h1 e
        · have := (HSD.out.row.lt i e).2; omega)
      have e0 : l ++ out.1 = out0.1 := by rw [HO.out, HTOT.out]
      have e2 : out.2 = out0.2 := by rw [HO.out, HTOT.out]
      rw [e0] at hj9
      rw [e2] at hf9
      have kp9 : Kp (fun i => i = G) w5 w9 := hj9.kp.mono (fun i _ h => h.elim (fun h => h) (fun h => by cases h))
      obtain ⟨A9, c9, rfl, _, hm9, hit9⟩ := hj9.row.at_
      have rw9 := HW5.out.row.kp (Q := fun _ => True) kp9 (fun i hi e => by have := (HW5.out.row.lt i hi).1; omega) (fun i hp _ => ⟨fun e => hp.1.elim (fun h => by cases h) (fun h => by omega), trivial⟩)
      obtain ⟨Aw', cw', hw', _, _, hitw⟩ := rw9.at_
      injection hw' with hA' _ hc'
      subst hA'
      subst hc'
      have HFF := Lib.hid (HF5.out.kp kp9 (fun e => FG e) (fun i hi e => by have := (HF5.out.lt.2 i hi).1; omega))
      have HFG := Lib.hid hf9
      have HSM := Lib.hid (isame_any A9 Aw c9 cw out0.1 w9 (by unfold maxLen at hm9; omega) hit9 hitw)
      have HB9 : Hid (Below w.heap.size w w9) := Lib.hid (HB5.out.trans (kp9.low_from (B := w.heap.size) (fun i hi e => by omega) hw5))
      have hw9 := HB9.out.size
      clear hj9 hk9 hf9 e0 e2 kp9 hit9 rw9 hitw hrow9 hg9 hat9 HE2 HE3 HK3 HONE HSRC HS6 HF6 HL3 HFL Ji Jz Jz1 Jz2 HB5 HF5 HW5 HG5 HSD HATR HNER HBW HREL HTOT HO HIW
      go_wp2_with fail
      refine HSM.out.mono ?_
      rintro e w10 ⟨rfl, hb10⟩
      have F10 := Lib.hid (HFF.out.low hb10)
      have G10 := Lib.hid (HFG.out.low hb10)
      have B10 := Lib.hid (HB9.out.trans (hb10.mono hw9))
      have hw10 := B10.out.size
      clear hb10 HFF HFG HB9 HSM
      go_wp2_with fail
      refine (waits_s F10.out).mono ?_
      rintro e w11 ⟨rfl, hb11⟩
      have F11 := Lib.hid (F10.out.low hb11)
      have G11 := Lib.hid (G10.out.low hb11)
      have B11 := Lib.hid (B10.out.trans (hb11.mono hw10))
      have hw11 := B11.out.size
      clear hb11 F10 G10 B10
      go_wp2_with fail
      refine (waits_s G11.out).mono ?_
      rintro e w12 ⟨rfl, hb12⟩
      have F12 := Lib.hid (F11.out.low hb12)
      have G12 := Lib.hid (G11.out.low hb12)
      have B12 := Lib.hid (B11.out.trans (hb12.mono hw11))
      clear hb12 F11 G11 B11
      go_wp2_with fail
      refine (dead_s F12.out).mono ?_
      rintro e w13 ⟨rfl, rfl⟩
      go_wp2_with fail
      refine (dead_s G12.out).mono ?_
      rintro e w14 ⟨rfl, rfl⟩
      go_wp2_with fail
      go_ret
      exact ⟨by simp, B12.out⟩
end Go.Proofs.YteebehmmfkapgaaDoor
