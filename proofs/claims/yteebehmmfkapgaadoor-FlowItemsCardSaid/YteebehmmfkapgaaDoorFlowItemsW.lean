/- FlowItems: the walk. -/
import Derived.Test.YteebehmmfkapgaaDoorFlowHolds
namespace Go.Proofs.YteebehmmfkapgaaDoor
open Go.RowKit Go.Deep
set_option linter.unusedVariables false
set_option linter.unusedSimpArgs false
set_option maxRecDepth 100000
attribute [local go_sem ↓] Go.wp_at_zero Go.wp_at_succ

theorem RefS.kp {S P : Nat → Prop} {w w' : World} {M : Nat} {s : List UInt8 × Bool} (h : RefS P w M s) (hk : Kp S w w') (h1 : ¬ S M) (h2 : ∀ i, P i → i < w.heap.size → ¬ S i) : RefS P w' M s := by
  obtain ⟨A, c, hk1, hc, hm, hat, hne⟩ := h
  exact ⟨A, c, hk1.kp hk h1, hc, hm, (BytesAt.kp_of hat (Nat.le_refl _) hk (fun a ha hlt h0 => h2 _ (hne a ha h0) hlt)).mono hk.size, hne⟩
theorem RefS.mono {P Q : Nat → Prop} {w : World} {M : Nat} {s : List UInt8 × Bool} (h : RefS P w M s) (hPQ : ∀ i, P i → i < w.heap.size → Q i) : RefS Q w M s := by
  obtain ⟨A, c, hk1, hc, hm, hat, hne⟩ := h
  refine ⟨A, c, hk1, hc, hm, hat, fun a ha h0 => hPQ _ (hne a ha h0) ?_⟩
  obtain ⟨q, off, hA, hq, _⟩ := hat.cell (i := 0) h0
  rw [ha] at hA
  have := Option.some.inj hA
  rw [this]; exact hq
theorem RefS.lt {P : Nat → Prop} {w : World} {M : Nat} {s : List UInt8 × Bool} (h : RefS P w M s) : M < w.heap.size := by obtain ⟨A, c, hk1, _⟩ := h; exact hk1.lt
/-- both flows -/
structure ItemsRel (w2 : World) (F M k n : Nat) (i : Value) (wr : World) (s : List UInt8 × Bool) (v : Value) : Prop where
  kn : k ≤ n
  ie : i = .int .i64 (k : Int)
  fs : FlowS wr F w2.heap.size v s
  rs : RefS (fun i => w2.heap.size ≤ i ∧ v.ownBlock ≠ some i) wr M s
  kp : Kp (fun i => i = F ∨ i = M) w2 wr
set_option maxHeartbeats 4000000 in
theorem flowItems_walk (w : World) (hl : Laid w) (A : Option Addr) (n c : Nat) (ls : List (List UInt8)) (hln : ls.length = n) (hc : n ≤ c) (hm : c ≤ maxLen) (hat : PartsAt w w.heap.size A ls) :
    Calls Tryd.prog 3 #[.slice A n c] w fun r w' => r = .returned (.bool true) ∧ Below w.heap.size w w' := by
  have HL := Lib.hid hl
  have l1 := hl.lc
  have l2 := hl.lf
  have HAL := Lib.hid (flow_alive w hl)
  have HLN := Lib.hid hln
  have HAT := Lib.hid hat
  clear hl hln hat
  go_enter Tryd.func3, Tryd.ntmps3
  go_wp2_with fail
  refine HAL.out.mono ?_
  rintro e w1 ⟨rfl, hb1⟩
  have HB1 := Lib.hid hb1
  have hw1 := hb1.size
  clear hb1 HAL
  go_wp2_with fail
  refine (great_any A n c w.heap.size ls w1 HLN.out (HAT.out.below HB1.out)).mono ?_
  rintro e w1' ⟨g, rfl, rfl, hg⟩
  cases g with
  | true =>
    go_wp2_with fail
    go_ret
    exact ⟨rfl, HB1.out⟩
  | false =>
    obtain ⟨hn300, hsm⟩ := hg rfl
    have HSM := Lib.hid hsm
    clear hg hsm
    go_wp2_with fail
    refine (flowNew_any _).mono ?_
    rintro e w2 ⟨rfl, hk2, hz2, hb2⟩
    obtain ⟨F, hF⟩ : ∃ F, F = w1'.heap.size := ⟨_, rfl⟩
    rw [← hF] at hk2 ⊢
    have HB2 := Lib.hid (HB1.out.trans (hb2.mono hw1))
    have HF2 := Lib.hid hk2
    have LF2 := hk2.lt
    have FW : w.heap.size ≤ F := by omega
    clear hF hz2 hb2 hk2 HB1
    obtain ⟨M, hM⟩ : ∃ M, M = w2.heap.size := ⟨_, rfl⟩
    obtain ⟨W2, hW2⟩ : ∃ W2, W2 = w2.alloc (.cells #[.slice none 0 0, .bool false] 30) := ⟨_, rfl⟩
    have HB3 : Hid (Below w.heap.size w W2) := Lib.hid (by rw [hW2]; exact HB2.out.alloc HB2.out.size _)
    have HF3 : Hid (Bk W2 F 63 _) := Lib.hid (by rw [hW2]; exact HF2.out.alloc _)
    have HM3 : Hid (Bk W2 M 30 #[.slice none 0 0, .bool false]) := Lib.hid (by rw [hW2, hM]; exact Bk.new _ _ _)
    have LF3 : F < W2.heap.size := HF3.out.lt
    have LM3 : M < W2.heap.size := HM3.out.lt
    have FM : F ≠ M := by omega
    have MW : w.heap.size ≤ M := by have := HB2.out.size; omega
    have hw3 := HB3.out.size
    have hr0 : RefS (fun i => W2.heap.size ≤ i ∧ (Value.slice none 0 0).ownBlock ≠ some i) W2 M ([], false) := ⟨none, 0, HM3.out, Nat.le_refl _, by simp [maxLen], fun i hi => (by simp at hi), fun a ha => (by cases ha)⟩
    have HR0 := Lib.hid hr0
    clear hr0
    go_upto_region 7 with (fail)
    rw [← hM, ← hW2]
    clear hM hW2
    go_wp2_with fail
    go_loopw [16] (fun i wr => ∃ k s v, ItemsRel W2 F M k n i wr s v) (fun i _ => n - (intOf i).toNat)
    case atStart => exact ⟨0, ([], false), .slice none 0 0, Nat.zero_le _, rfl, FlowS.new w _ W2 F HF3.out, HR0.out, Kp.refl _ _⟩
    case round =>
      obtain ⟨k, s, v, hkn, rfl, hfs, hrs, hkp⟩ := hrel
      have KP := Lib.hid (HB3.out.trans (hkp.low_from (B := w.heap.size) (fun i hi h => by omega) HB3.out.size))
      by_cases hlt : k < n
      · obtain ⟨b, off, A', c', rfl, _, d0, hpc, hpm, hpat⟩ := (HAT.out.below KP.out).cell (i := k) (by rw [HLN.out]; exact hlt)
        obtain ⟨p, hp⟩ : ∃ p, p = ls[k]'(by rw [HLN.out]; exact hlt) := ⟨_, rfl⟩
        rw [← hp] at d0 hpc hpat
        have hpl : p.length ≤ 20000 := by rw [hp]; exact HSM.out _ (List.getElem_mem _)
        have HPAT := Lib.hid hpat
        have HFS := Lib.hid hfs
        have HKP := Lib.hid hkp
        have i1 : (0 : Int) ≤ (k : Int) := by omega
        have i2 : (k : Int) < (n : Int) := by omega
        have hw2 := HB3.out.size
        have hwr := hkp.size
        have HRS := Lib.hid hrs
        have hsmall := HFS.out.small
        clear hp hpat hfs hkp hrs
        unfold maxLen at hpm
        have hfd := feed_any F W2.heap.size c' A' p v s wr.drew LF3 (by show _ ≤ wr.heap.size; omega) (HFS.out.kp ((Kp.refl (fun _ => False) wr).drew) (fun h => h) (fun _ _ h => h)) (HPAT.out.mono hw2) (fun a ha h0 => ?hne) (HL.out.below (below_drewN KP.out 1)) (by omega) (by omega) (by omega) (by omega) (by omega) hpc (by unfold maxLen; omega)
        case hne =>
          obtain ⟨q, of', hA', hq, _⟩ := BytesAt.cell HPAT.out (i := 0) h0
          rw [hA'] at ha; cases ha; show q ≠ F; omega
        obtain ⟨out, ho⟩ : ∃ o, o = Flo.feed s p := ⟨_, rfl⟩
        have HRF := fun (W : World) (h : RefS (fun _ => True) W M s) (hb : BytesAt W W.heap.size A' p) => rfeed_any M c' A' p s _ W h HFS.out.st hb (by omega) (by omega) hpc (by unfold maxLen; omega)
        rw [← ho] at hfd HRF
        have HO := Lib.hid ho
        have HFD := Lib.hid hfd
        have HRF2 := Lib.hid HRF
        have LW : F < wr.heap.size := by omega
        have LMW : M < wr.heap.size := by omega
        clear hfd ho HRF
        have HFD3 : Hid (Calls Tryd.prog 14 #[.pointer (some ⟨F, 0, none⟩), .slice A' p.length c'] wr.drew fun e w4 => ∃ A4 c4 v4, e = .returned (.slice A4 out.1.length c4) ∧ FlowS w4 F W2.heap.size v4 out.2 ∧ FeedSide wr.drew F v w4 (.slice A4 out.1.length c4) out.1 v4) := Lib.hid (by
          refine HFD.out.mono ?_
          rintro e w4 ⟨vl, rfl, v4, h1, h2⟩
          obtain ⟨A4, c4, rfl, _⟩ := h2.row.at_
          exact ⟨A4, c4, v4, rfl, h1, h2⟩)
        have HRF3 : Hid (∀ (w4 : World) (A4 : Option Addr) (c4 : Nat) (v4 : Value), FlowS w4 F W2.heap.size v4 out.2 → FeedSide wr.drew F v w4 (.slice A4 out.1.length c4) out.1 v4 →
            Calls Tryd.prog 15 #[.pointer (some ⟨M, 0, none⟩), .slice A' p.length c'] w4 fun e w5 => ∃ A5 c5, e = .returned (.slice A5 out.1.length c5) ∧ ItemsAt w5 w5.heap.size A4 out.1 ∧ ItemsAt w5 w5.heap.size A5 out.1 ∧ out.1.length ≤ 9223372036854775807 ∧
              FlowS w5 F W2.heap.size v4 out.2 ∧ RefS (fun i => W2.heap.size ≤ i ∧ v4.ownBlock ≠ some i) w5 M out.2 ∧ Kp (fun i => i = F ∨ i = M) W2 w5) := Lib.hid (by
          intro w4 A4 c4 v4 h1 h2
          have hk4 : Kp (fun i => i = F ∨ v.ownBlock = some i) wr w4 := ((Kp.refl _ wr).drew).trans h2.kp
          have hkw4 : Kp (fun i => i = F ∨ i = M) W2 w4 := HKP.out.trans_of hk4 (fun i hi h => h.elim .inl (fun h => by have := (HFS.out.lt.2 i h).1; omega))
          have hsz := h2.kp.size
          have hr4 := HRS.out.kp hk4 (fun h => h.elim (fun h => FM h.symm) (fun h => by have := (HFS.out.lt.2 M h).1; omega)) (fun i hp _ h => h.elim (fun h => by have := hp.1; omega) hp.2)
          refine (HRF2.out w4 (hr4.mono (fun _ _ _ => trivial)) ((HPAT.out.below (hk4.low_from (B := w.heap.size) (fun i hi h => h.elim (fun h => by omega) (fun h => by have := (HFS.out.lt.2 i h).1; omega)) (by omega))).mono (by have := HB3.out.size; have := hkw4.size; omega))).mono ?_
          rintro e w5 ⟨vr, rfl, h3, h4, h5⟩
          obtain ⟨A5, c5, rfl, hc5, hm5, hat5⟩ := h4.at_
          have row5 := h2.row.kp (Q := fun _ => True) h5 (fun i hi e => by have := (h2.row.lt i hi).1; have : wr.drew.heap.size = wr.heap.size := rfl; omega) (fun i hp _ => ⟨fun e => by
            rcases hp.1 with h | h
            · have := (HFS.out.lt.2 i h).1; omega
            · have : wr.drew.heap.size = wr.heap.size := rfl; omega, trivial⟩)
          obtain ⟨A6, c6, h6, _, _, hat6⟩ := row5.at_
          injection h6 with hA6 _ _
          subst hA6
          refine ⟨A5, c5, rfl, hat6, hat5, by unfold maxLen at hm5; omega, h1.kp h5 (fun e => FM e) (fun i hi e => by have := (h1.lt.2 i hi).1; omega), h3.mono (fun i hp hl => ⟨by have := hkw4.size; omega, fun e => by have := (h1.lt.2 i e).2; omega⟩), hkw4.trans_of h5 (fun i _ h => .inr h)⟩)
        clear HFD HRF2 HRS HFS HKP HPAT
        go_upto_region 10 with (fail)
        go_region_with (first
          | (go_at_call 14; refine HFD3.out.mono ?_; rintro e w4 ⟨A4, c4, v4, rfl, hfs4, hside4⟩; have RF4 := Lib.hid (HRF3.out w4 A4 c4 v4 hfs4 hside4); clear hfs4 hside4)
          | (go_at_call 15; refine RF4.out.mono ?_; rintro e w5 ⟨A5, c5, rfl, ht4, ht5, hl5, hf5, hr5, hk5⟩; have HSM := Lib.hid (isame_any A4 A5 c4 c5 out.1 w5 hl5 ht4 ht5); have HF5 := Lib.hid hf5; have HR5 := Lib.hid hr5; have HK5 := Lib.hid hk5; clear hf5 hr5 hk5 ht4 ht5)
          | (go_at_call 13; refine HSM.out.mono ?_; rintro e w6 ⟨rfl, hb6⟩; have HF6 := Lib.hid (HF5.out.low hb6); have HR6 := Lib.hid (HR5.out.kp (Kp.of_below (S := fun _ => False) hb6) (fun h => h) (fun _ _ _ h => h)); have HK6 := Lib.hid (HK5.out.trans_of (Kp.of_below (S := fun _ => False) hb6) (fun i _ h => h.elim)); clear hb6; obtain ⟨A7, c7, hk7, hc7, hm7, ht7⟩ := HR6.out; have LM6 := hk7.lt; have m0 : w6.cell? ⟨M, 0, none⟩ = some (.slice A7 out.2.1.length c7) := (hk7.cell 0).trans rfl; have m1 : w6.cell? ⟨M, 1, none⟩ = some (.bool out.2.2) := (hk7.cell 1).trans rfl; clear hk7 ht7)
          | (go_at_call 16; refine (waits_s HF6.out).mono ?_; rintro e w7 ⟨rfl, hb7⟩; have q0 := (hb7.cell (p := ⟨M, 0, none⟩) LM6).trans m0; have q1 := (hb7.cell (p := ⟨M, 1, none⟩) LM6).trans m1; have HB7 := Lib.hid hb7; have HD7 := Lib.hid (dead_s (HF6.out.low hb7)); clear hb7)
          | (go_at_call 17; refine HD7.out.mono ?_; rintro e w8 ⟨rfl, rfl⟩))
        all_goals
          go_wp2_with fail
          go_roundw
          case rel => exact ⟨k + 1, out.2, v4, by omega, by go_num, HF6.out.low HB7.out, HR6.out.kp (Kp.of_below (S := fun _ => False) HB7.out) (fun h => h) (fun _ _ _ h => h), HK6.out.trans_of (Kp.of_below (S := fun _ => False) HB7.out) (fun i _ h => h.elim)⟩
          case measure => simp [intOf]; omega
      · have hkn' : ¬ (k : Int) < (n : Int) := by omega
        go_wp2_with fail
        go_ret
        exact ⟨rfl, KP.out⟩
end Go.Proofs.YteebehmmfkapgaaDoor
