/- FlowHolds: the walk. -/
import Derived.Test.YteebehmmfkapgaaDoorFlowGreat
namespace Go.Proofs.YteebehmmfkapgaaDoor
open Go.RowKit Go.Deep
set_option linter.unusedVariables false
set_option linter.unusedSimpArgs false
set_option maxRecDepth 100000
attribute [local go_sem ↓] Go.wp_at_zero Go.wp_at_succ

theorem Flo.feed_none {s : List UInt8 × Bool} {b : List UInt8} (h : (Flo.feed s b).1 = []) (hd : s.2 = false) : (Flo.feed s b).2.1.length = s.1.length + b.length := by
  unfold Flo.feed at h ⊢
  rw [hd] at h ⊢
  simp only [Bool.false_eq_true, if_false] at h ⊢
  cases he : (Flo.run (s.1 ++ b)).2.2 with
  | false => rw [Flo.run_waits _ h he, List.length_append]
  | true =>
    exfalso
    obtain ⟨h1, _⟩ := Flo.run_rest _ (s.1 ++ b) (Nat.le_refl _)
    by_cases hx : (s.1 ++ b).length < 24
    · rw [Flo.run_short hx] at he; cases he
    · have h' : 24 ≤ (s.1 ++ b).length := by omega
      by_cases hh : (Frm.head ((s.1 ++ b).take 24)).2 = 0
      · by_cases hp : (s.1 ++ b).length - 24 < (Frm.head ((s.1 ++ b).take 24)).1.len
        · rw [Flo.run_part h' hh hp] at he; cases he
        · rw [Flo.run_whole h' hh (by omega)] at h; cases h
      · rw [Flo.run_bad h' hh] at h; cases h
theorem FlowS.low {w w' : World} {F base : Nat} {v : Value} {s : List UInt8 × Bool} (h : FlowS w F base v s) (hb : Below w.heap.size w w') : FlowS w' F base v s := h.kp (Kp.of_below (S := fun _ => False) hb) (fun h => h) (fun _ _ h => h)
theorem FlowS.small {w : World} {F base : Nat} {v : Value} {s : List UInt8 × Bool} (h : FlowS w F base v s) : s.1.length < 2072 := by
  rcases h with ⟨a, b, _⟩ | ⟨a, b, hd, n, c, d, e⟩ | ⟨a, hd, hv, body, b, c, d, e⟩
  · rw [b]; decide
  · rw [d, List.length_take]; omega
  · have := Flo.head_len (b := hd)
    rw [c] at this
    have := this rfl
    have := e.1
    rw [b, List.length_append]; simp only at *; omega
theorem Flo.feed_dead {s : List UInt8 × Bool} {b : List UInt8} (hd : s.2 = true) : Flo.feed s b = ([], [], true) := by unfold Flo.feed; rw [if_pos hd]
/-- a flow of the call's own -/
structure HoldRel (w w2 : World) (F k n : Nat) (i : Value) (wr : World) (s : List UInt8 × Bool) (v : Value) : Prop where
  kn : k ≤ n
  ie : i = .int .i64 (k : Int)
  fs : FlowS wr F w2.heap.size v s
  kp : Kp (fun i => i = F) w2 wr
set_option maxHeartbeats 4000000 in
theorem flowHolds_walk (w : World) (hl : Laid w) (A : Option Addr) (n c : Nat) (ls : List (List UInt8)) (hln : ls.length = n) (hc : n ≤ c) (hm : c ≤ maxLen) (hat : PartsAt w w.heap.size A ls) :
    Calls Tryd.prog 8 #[.slice A n c] w fun r w' => r = .returned (.bool true) ∧ Below w.heap.size w w' := by
  have HL := Lib.hid hl
  have l1 := hl.lc
  have l2 := hl.lf
  have HAL := Lib.hid (flow_alive w hl)
  have HLN := Lib.hid hln
  have HAT := Lib.hid hat
  clear hl hln hat
  go_enter Tryd.func8, Tryd.ntmps8
  go_wp2_with fail
  refine HAL.out.mono ?_
  rintro e w1 ⟨rfl, hb1⟩
  have HB1 := Lib.hid hb1
  have hw1 := hb1.size
  clear hb1 HAL
  go_wp2_with fail
  refine (great_any A n c w.heap.size ls w1 HLN.out (HAT.out.below HB1.out)).mono ?_
  rintro e w1' ⟨g, rfl, rfl, hg⟩
  cases g with
  | true =>
    go_wp2_with fail
    go_ret
    exact ⟨rfl, HB1.out⟩
  | false =>
    obtain ⟨hn300, hsm⟩ := hg rfl
    have HSM := Lib.hid hsm
    clear hg hsm
    go_wp2_with fail
    refine (flowNew_any _).mono ?_
    rintro e w2 ⟨rfl, hk2, hz2, hb2⟩
    obtain ⟨F, hF⟩ : ∃ F, F = w1'.heap.size := ⟨_, rfl⟩
    rw [← hF] at hk2 ⊢
    have HB2 := Lib.hid (HB1.out.trans (hb2.mono hw1))
    have HF2 := Lib.hid hk2
    have LF2 := hk2.lt
    have FW : w.heap.size ≤ F := by omega
    clear hF hz2 hb2 hk2 HB1
    go_wp2_with fail
    go_loopw [16] (fun i wr => ∃ k s v, HoldRel w w2 F k n i wr s v) (fun i _ => n - (intOf i).toNat)
    case atStart => exact ⟨0, ([], false), .slice none 0 0, Nat.zero_le _, rfl, FlowS.new w _ w2 F HF2.out, Kp.refl _ _⟩
    case round =>
      obtain ⟨k, s, v, hkn, rfl, hfs, hkp⟩ := hrel
      have KP := Lib.hid (Below.trans HB2.out (hkp.below_from (B := w.heap.size) FW HB2.out.size))
      by_cases hlt : k < n
      · obtain ⟨b, off, A', c', rfl, _, d0, hpc, hpm, hpat⟩ := (HAT.out.below KP.out).cell (i := k) (by rw [HLN.out]; exact hlt)
        obtain ⟨p, hp⟩ : ∃ p, p = ls[k]'(by rw [HLN.out]; exact hlt) := ⟨_, rfl⟩
        rw [← hp] at d0 hpc hpat
        have hpl : p.length ≤ 20000 := by rw [hp]; exact HSM.out _ (List.getElem_mem _)
        have HPAT := Lib.hid hpat
        have HFS := Lib.hid hfs
        have HKP := Lib.hid hkp
        have i1 : (0 : Int) ≤ (k : Int) := by omega
        have i2 : (k : Int) < (n : Int) := by omega
        have hw2 := HB2.out.size
        have hwr := hkp.size
        clear hp hpat hfs hkp
        unfold maxLen at hpm
        go_wp2_with fail
        refine (waits_s HFS.out).mono ?_
        rintro e w3 ⟨rfl, hb3⟩
        have KP3 := Lib.hid (HKP.out.trans_of (Kp.of_below (S := fun _ => False) hb3) (fun i _ h => h.elim))
        have HF3 := Lib.hid (HFS.out.low hb3)
        have BW3 := Lib.hid (KP.out.trans (hb3.mono KP.out.size))
        have hw3 := hb3.size
        have HPAT3 := Lib.hid (HPAT.out.below (hb3.mono KP.out.size))
        clear hb3 KP HKP HFS HPAT
        go_wp2_with fail
        refine (dead_s HF3.out).mono ?_
        rintro e w3' ⟨rfl, rfl⟩
        have hsmall := HF3.out.small
        have hfd := feed_any F w2.heap.size c' A' p v s _ LF2 (by omega) HF3.out (HPAT3.out.mono hw2) (fun a ha h0 => ?hne) (HL.out.below BW3.out) (by omega) (by omega) (by omega) (by omega) (by omega) hpc (by unfold maxLen; omega)
        case hne =>
          obtain ⟨q, of', hA', hq, _⟩ := BytesAt.cell HPAT3.out (i := 0) h0
          rw [hA'] at ha; cases ha; show q ≠ F; omega
        obtain ⟨out, ho⟩ : ∃ o, o = Flo.feed s p := ⟨_, rfl⟩
        rw [← ho] at hfd
        have hlt := Flo.feed_lt s p
        rw [← ho] at hlt
        have HO := Lib.hid ho
        have HFD := Lib.hid hfd
        clear hfd ho
        go_wp2_with fail
        refine HFD.out.mono ?_
        rintro e w4 ⟨vl, rfl, v4, hfs4, hside4⟩
        have hkp4 : Kp (fun i => i = F) w2 w4 := KP3.out.trans_of hside4.kp (fun i hi h => h.elim (fun h => h) (fun h => by have := (HF3.out.lt.2 i h).1; omega))
        have BW4 := Lib.hid (Below.trans HB2.out (hkp4.below_from (B := w.heap.size) FW HB2.out.size))
        have HKP4 := Lib.hid hkp4
        have HF4 := Lib.hid hfs4
        obtain ⟨A4, c4, rfl, _, _, _⟩ := hside4.row.at_
        have hw4 := hside4.kp.size
        clear hfs4 hside4 hkp4 HFD KP3 HF3 BW3
        have hlt' : ((out.2.1.length : Nat) : Int) < 2072 := by omega
        have hge' : (0 : Int) ≤ ((out.2.1.length : Nat) : Int) := by omega
        by_cases hd : s.2 = true
        · have he := Flo.feed_dead (b := p) hd
          rw [← HO.out] at he
          subst he
          simp only [List.length_nil] at *
          go_wp2_with fail
          refine (waits_s HF4.out).mono ?_
          rintro e w5 ⟨rfl, hb5⟩
          have HF5 := Lib.hid (HF4.out.low hb5)
          have BW5 := Lib.hid (BW4.out.trans (hb5.mono BW4.out.size))
          have HKP5 := Lib.hid (HKP4.out.trans_of (Kp.of_below (S := fun _ => False) hb5) (fun i _ h => h.elim))
          clear hb5 HF4 BW4 HKP4
          go_wp2_with fail
          refine (waits_s HF5.out).mono ?_
          rintro e w6 ⟨rfl, hb6⟩
          have HF6 := Lib.hid (HF5.out.low hb6)
          have BW6 := Lib.hid (BW5.out.trans (hb6.mono BW5.out.size))
          have HKP6 := Lib.hid (HKP5.out.trans_of (Kp.of_below (S := fun _ => False) hb6) (fun i _ h => h.elim))
          clear hb6 HF5 BW5 HKP5
          go_wp2_with fail
          refine (dead_s HF6.out).mono ?_
          rintro e w7 ⟨rfl, rfl⟩
          go_wp2_with fail
          go_roundw
          case rel => exact ⟨k + 1, _, _, by omega, by go_num, HF6.out, HKP6.out⟩
          case measure => simp [intOf]; omega
        · have hdf : s.2 = false := by simpa using hd
          rw [hdf]
          by_cases h0 : out.1 = []
          · have hw := Flo.feed_none (b := p) (by rw [← HO.out]; exact h0) hdf
            rw [← HO.out] at hw
            have hl0 : out.1.length = 0 := by rw [h0]; rfl
            have hwi : ((out.2.1.length : Nat) : Int) = (s.1.length : Int) + (p.length : Int) := by omega
            rw [hl0]
            have HWI := Lib.hid hwi
            have hneq : (((out.2.1.length : Nat) : Int) != (s.1.length : Int) + (p.length : Int)) = false := by rw [bne_eq_false_iff_eq]; exact hwi
            clear hw hwi h0 hl0 hd hdf
            go_wp2_with fail
            refine (waits_s HF4.out).mono ?_
            rintro e w5 ⟨rfl, hb5⟩
            have HF5 := Lib.hid (HF4.out.low hb5)
            have BW5 := Lib.hid (BW4.out.trans (hb5.mono BW4.out.size))
            have HKP5 := Lib.hid (HKP4.out.trans_of (Kp.of_below (S := fun _ => False) hb5) (fun i _ h => h.elim))
            clear hb5 HF4 BW4 HKP4
            go_wp2_with fail
            refine (waits_s HF5.out).mono ?_
            rintro e w6 ⟨rfl, hb6⟩
            have HF6 := Lib.hid (HF5.out.low hb6)
            have BW6 := Lib.hid (BW5.out.trans (hb6.mono BW5.out.size))
            have HKP6 := Lib.hid (HKP5.out.trans_of (Kp.of_below (S := fun _ => False) hb6) (fun i _ h => h.elim))
            clear hb6 HF5 BW5 HKP5
            go_wp2_with fail
            refine (waits_s HF6.out).mono ?_
            rintro e w7 ⟨rfl, hb7⟩
            have HF7 := Lib.hid (HF6.out.low hb7)
            have BW7 := Lib.hid (BW6.out.trans (hb7.mono BW6.out.size))
            have HKP7 := Lib.hid (HKP6.out.trans_of (Kp.of_below (S := fun _ => False) hb7) (fun i _ h => h.elim))
            clear hb7 HF6 BW6 HKP6
            go_wp2_with fail
            exact ⟨⟨k + 1, _, _, by omega, by go_num, HF7.out, HKP7.out⟩, by simp [intOf]; omega⟩
          · have hl0 : ¬ ((out.1.length : Nat) : Int) = 0 := by
              intro h
              exact h0 (List.length_eq_zero_iff.1 (by omega))
            clear hd hdf
            go_wp2_with fail
            refine (waits_s HF4.out).mono ?_
            rintro e w5 ⟨rfl, hb5⟩
            have HF5 := Lib.hid (HF4.out.low hb5)
            have BW5 := Lib.hid (BW4.out.trans (hb5.mono BW4.out.size))
            have HKP5 := Lib.hid (HKP4.out.trans_of (Kp.of_below (S := fun _ => False) hb5) (fun i _ h => h.elim))
            clear hb5 HF4 BW4 HKP4
            go_wp2_with fail
            refine (waits_s HF5.out).mono ?_
            rintro e w6 ⟨rfl, hb6⟩
            have HF6 := Lib.hid (HF5.out.low hb6)
            have BW6 := Lib.hid (BW5.out.trans (hb6.mono BW5.out.size))
            have HKP6 := Lib.hid (HKP5.out.trans_of (Kp.of_below (S := fun _ => False) hb6) (fun i _ h => h.elim))
            clear hb6 HF5 BW5 HKP5
            go_wp2_with fail
            exact ⟨⟨k + 1, _, _, by omega, by go_num, HF6.out, HKP6.out⟩, by simp [intOf]; omega⟩
      · have hkn' : ¬ (k : Int) < (n : Int) := by omega
        go_wp2_with fail
        go_ret
        exact ⟨rfl, KP.out⟩
end Go.Proofs.YteebehmmfkapgaaDoor
