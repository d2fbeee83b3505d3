/- A peer that is ready; what it hands on. -/
import Derived.Test.YtpacgblddeoheaaPeerEarly
namespace Go.Proofs.Ytpacgblddeoheaa
open Go.RowKit Go.Deep Go.Joins Go.ChangeShapes Go.WideShapes
set_option linter.unusedVariables false
set_option maxRecDepth 100000
attribute [local go_sem ↓] Go.wp_at_zero Go.wp_at_succ

theorem met_any (w : World) (o : Bool) (n t : Nat) (hn : n ≤ 18446744073709551615) :
    Calls Try.prog 12 #[sideV o n t] w fun e w' => ∃ b, e = .returned (.pointer (some ⟨b, 0, none⟩)) ∧ w.heap.size ≤ b ∧ IsPeer w' b ⟨o, n, 2, true, t, 0, false⟩ ∧ Below w.heap.size w w' := by
  have HX := Lib.hid (xor1 n hn)
  clear hn
  unfold sideV
  go_enter Try.func12, Try.ntmps12
  go_wp2_with fail
  refine (new_any _ _ _ _).mono ?_
  rintro e w2 ⟨b, rfl, hb2, hb2', hp2, hB2⟩
  have hbb : w.heap.size < b := by have := hb2; simp at this; omega
  have kB := (Bk.new w 24 #[.bool o, .int .u64 (n : Int), .int .u64 (t : Int)]).below hB2 (by simp)
  have c1 : w2.cell? ⟨w.heap.size, 1, none⟩ = some (.int .u64 (n : Int)) := (kB.cell 1).trans rfl
  have B2 : Below w.heap.size w w2 := (Joins.below_alloc1 _ _).trans (hB2.mono (by simp))
  clear kB hB2 hb2
  go_wp2_with fail
  obtain ⟨x, hx, hxn⟩ := HX.out
  rw [hx]
  obtain ⟨l, hl⟩ := heard_version ⟨o, n, 0, false, t, 0, false⟩ (x : Int) 1 rfl (by show (x : Int) ≠ (n : Int); omega)
  refine (hear_sayn b _ 1 x 1 R0 _ hp2 (by omega) (by simp) hl).mono ?_
  clear hx hl HX c1 hxn
  rintro e w3 ⟨A3, cap3, rfl, hp3, hk3⟩
  go_wp2_with fail
  refine (hear_sayn b _ 11 0 1 R0 _ hp3 (by omega) (by simp) (show heard ⟨o, n, 1, false, t, 0, false⟩ 11 0 1 = ([], 0, true, ⟨o, n, 1, true, t, 0, false⟩) from rfl)).mono ?_
  rintro e w4 ⟨A4, cap4, rfl, hp4, hk4⟩
  go_wp2_with fail
  refine (hear_sayn b _ 2 0 0 R0 _ hp4 (by omega) (by simp) (show heard ⟨o, n, 1, true, t, 0, false⟩ 2 0 0 = ([], 0, true, ⟨o, n, 2, true, t, 0, false⟩) from rfl)).mono ?_
  rintro e w5 ⟨A5, cap5, rfl, hp5, hk5⟩
  have hk := (hk3.trans hk4).trans hk5
  have B5 := B2.trans (hk.low (B := w.heap.size) (by omega) B2.size)
  clear hk3 hk4 hk5 hk B2
  go_wp2_with fail
  go_ret
  exact ⟨b, rfl, by omega, hp5, B5⟩
theorem quiet_ready {w : World} {b : Nat} {d : PeerD} (h : IsPeer w b d) (hs : d.step = 2) (i : Nat) : Calls Try.prog 10 #[.pointer (some ⟨b, 0, none⟩)] (w.drewN i) fun r w' => r = .returned (.bool true) ∧ w' = w.drewN i :=
  (ready_any b d (w.drewN i) h).mono fun e w' ⟨h1, h2⟩ => ⟨by rw [h1, hs]; rfl, h2.symm⟩
theorem quiet_stem {w : World} {b : Nat} {d : PeerD} (h : IsPeer w b d) (hs : d.step = 2) (ht : d.takes = true) (i : Nat) : Calls Try.prog 11 #[.pointer (some ⟨b, 0, none⟩)] (w.drewN i) fun r w' => r = .returned (.bool true) ∧ w' = w.drewN i :=
  (stem_any b d (w.drewN i) h).mono fun e w' ⟨h1, h2⟩ => ⟨by rw [h1, hs, ht]; rfl, h2.symm⟩
theorem quiet_out {w : World} {b : Nat} {d : PeerD} (h : IsPeer w b d) (i : Nat) : Calls Try.prog 13 #[.pointer (some ⟨b, 0, none⟩)] (w.drewN i) fun r w' => r = .returned (.bool d.out) ∧ w' = w.drewN i :=
  (out_any b d (w.drewN i) h).mono fun e w' ⟨h1, h2⟩ => ⟨h1, h2.symm⟩
theorem heard_ready (d : PeerD) (k n c : Int) (hs : d.step = 2) :
    (k = 3 ∧ heard d k n c = ([(4, n.toNat, 0)], 0, true, d)) ∨ (k = 4 ∧ heard d k n c = ([], 0, true, { d with waits := d.waits && n != (d.pings : Int) })) ∨
    ((k = 1 ∨ k = 2 ∨ k = 11) ∧ heard d k n c = ([], 20, true, d)) ∨ (k ≠ 3 ∧ k ≠ 4 ∧ k ≠ 1 ∧ k ≠ 2 ∧ k ≠ 11 ∧ heard d k n c = ([], 0, false, d)) := by
  unfold heard
  by_cases h1 : k = 1
  · subst h1; simp [hs]
  by_cases h11 : k = 11
  · subst h11; simp [hs]
  by_cases h2 : k = 2
  · subst h2; simp [hs]
  by_cases h3 : k = 3
  · subst h3; simp [hs]
  by_cases h4 : k = 4
  · subst h4; simp [hs]
  simp [hs, h1, h11, h2, h3, h4]
set_option maxHeartbeats 1000000 in
theorem peerHands_walk (w : World) (o : Bool) (n t : Nat) (hn : n ≤ 18446744073709551615) (ht : t ≤ 18446744073709551615) (k : Int) (m : Nat) (c : Int) (r : MsgR) :
    Calls Try.prog 4 #[sideV o n t, msgV k m c r] w fun e w' => e = .returned (.bool true) ∧ Below w.heap.size w w' := by
  have HM := Lib.hid (fun W => met_any W o n t hn)
  have hh := heard_ready ⟨o, n, 2, true, t, 0, false⟩ k m c rfl
  clear hn ht
  unfold sideV at *
  rcases hh with ⟨rfl, hh⟩ | ⟨rfl, hh⟩ | ⟨hk, hh⟩ | ⟨h3, h4, h1, h2, h11, hh⟩
  · have HH := Lib.hid hh
    clear hh
    unfold msgV
    cases o
    all_goals
      go_enter Try.func4, Try.ntmps4
      go_wp2_with fail
      refine (alive_any _).mono ?_
      rintro e w1 ⟨rfl, hb1⟩
      have g1 := Boxes.mk' hb1
      obtain ⟨s0, s1, s2⟩ := g1.side
      clear hb1
      go_wp2_with fail
      refine (HM.out _).mono ?_
      rintro e w2 ⟨b, rfl, hb2, hp2, hB2⟩
      have g2 := g1.go hB2 g1.lt
      obtain ⟨m0, m1, m2, m3, m4, m5, m6⟩ := g2.msg
      have hb2'' : w.heap.size + 1 < b := by have := g1.lt; omega
      obtain ⟨s0', s1', s2'⟩ := g2.side
      have HR := Lib.hid (quiet_ready hp2 rfl)
      have HT := Lib.hid (quiet_stem hp2 rfl rfl)
      have HO := Lib.hid (quiet_out hp2)
      have hbl : b < w2.heap.size := hp2.lt
      clear hB2 s0 s1 s2 g1
      go_wp2_with fail
      go_quiet (first | exact Calls.quiet_of_same (HR.out _) | exact Calls.quiet_of_same (HT.out _) | exact Calls.quiet_of_same (HO.out _))
      clear HR HT HO
      have g2' : Boxes w (w2.drewN nq) _ _ := ⟨g2.lt, g2.c, g2.d, below_drewN g2.b _⟩
      have hp2' : IsPeer (w2.drewN nq) b _ := hp2
      have hbl' : b < (w2.drewN nq).heap.size := hbl
      clear hp2 hbl g2
      go_wp2_with fail
      refine (hear_say1 b _ 3 m c r _ hp2' (by omega) (by simp) HH.out).mono ?_
      rintro e w3 ⟨g, cap, rfl, hg, hg', q0, q1, hp3, hk3⟩
      have g3 := g2'.go (hk3.low (Nat.le_refl b) (Nat.le_of_lt hbl')) hb2''
      obtain ⟨n0, n1, n2, n3, n4, n5, n6⟩ := g3.msg
      clear hk3 hp2' hbl' m0 m1 m2 m3 m4 m5 m6 s0' s1' s2' g2'
      simp only [Int.toNat_natCast] at q1
      clear hp3
      go_wp2_with fail
      go_quiet (fail)
      go_wp2_with fail
      go_ret
      exact ⟨rfl, below_drewN g3.b _⟩
  · have HH := Lib.hid hh
    clear hh
    unfold msgV
    cases o
    all_goals
      go_enter Try.func4, Try.ntmps4
      go_wp2_with fail
      refine (alive_any _).mono ?_
      rintro e w1 ⟨rfl, hb1⟩
      have g1 := Boxes.mk' hb1
      obtain ⟨s0, s1, s2⟩ := g1.side
      clear hb1
      go_wp2_with fail
      refine (HM.out _).mono ?_
      rintro e w2 ⟨b, rfl, hb2, hp2, hB2⟩
      have g2 := g1.go hB2 g1.lt
      obtain ⟨m0, m1, m2, m3, m4, m5, m6⟩ := g2.msg
      have hb2'' : w.heap.size + 1 < b := by have := g1.lt; omega
      obtain ⟨s0', s1', s2'⟩ := g2.side
      have HR := Lib.hid (quiet_ready hp2 rfl)
      have HT := Lib.hid (quiet_stem hp2 rfl rfl)
      have HO := Lib.hid (quiet_out hp2)
      have hbl : b < w2.heap.size := hp2.lt
      clear hB2 s0 s1 s2 g1
      go_wp2_with fail
      go_quiet (first | exact Calls.quiet_of_same (HR.out _) | exact Calls.quiet_of_same (HT.out _) | exact Calls.quiet_of_same (HO.out _))
      clear HR HT HO
      have g2' : Boxes w (w2.drewN nq) _ _ := ⟨g2.lt, g2.c, g2.d, below_drewN g2.b _⟩
      have hp2' : IsPeer (w2.drewN nq) b _ := hp2
      have hbl' : b < (w2.drewN nq).heap.size := hbl
      clear hp2 hbl g2
      go_wp2_with fail
      refine (hear_say0 b _ 4 m c r _ hp2' (by omega) (by simp) HH.out).mono ?_
      rintro e w3 ⟨A, cap, rfl, hp3, hk3⟩
      have g3 := g2'.go (hk3.low (Nat.le_refl b) (Nat.le_of_lt hbl')) hb2''
      obtain ⟨n0, n1, n2, n3, n4, n5, n6⟩ := g3.msg
      clear hk3 hp2' hbl' m0 m1 m2 m3 m4 m5 m6 s0' s1' s2' g2'
      clear hp3
      go_wp2_with fail
      go_ret
      exact ⟨rfl, g3.b⟩
  · have HH := Lib.hid hh
    clear hh
    unfold msgV
    rcases hk with rfl | rfl | rfl
    all_goals
      cases o
      all_goals
        go_enter Try.func4, Try.ntmps4
        go_wp2_with fail
        refine (alive_any _).mono ?_
        rintro e w1 ⟨rfl, hb1⟩
        have g1 := Boxes.mk' hb1
        obtain ⟨s0, s1, s2⟩ := g1.side
        clear hb1
        go_wp2_with fail
        refine (HM.out _).mono ?_
        rintro e w2 ⟨b, rfl, hb2, hp2, hB2⟩
        have g2 := g1.go hB2 g1.lt
        obtain ⟨m0, m1, m2, m3, m4, m5, m6⟩ := g2.msg
        have hb2'' : w.heap.size + 1 < b := by have := g1.lt; omega
        obtain ⟨s0', s1', s2'⟩ := g2.side
        have HR := Lib.hid (quiet_ready hp2 rfl)
        have HT := Lib.hid (quiet_stem hp2 rfl rfl)
        have HO := Lib.hid (quiet_out hp2)
        have hbl : b < w2.heap.size := hp2.lt
        clear hB2 s0 s1 s2 g1
        go_wp2_with fail
        go_quiet (first | exact Calls.quiet_of_same (HR.out _) | exact Calls.quiet_of_same (HT.out _) | exact Calls.quiet_of_same (HO.out _))
        clear HR HT HO
        have g2' : Boxes w (w2.drewN nq) _ _ := ⟨g2.lt, g2.c, g2.d, below_drewN g2.b _⟩
        have hp2' : IsPeer (w2.drewN nq) b _ := hp2
        have hbl' : b < (w2.drewN nq).heap.size := hbl
        clear hp2 hbl g2
        go_wp2_with fail
        refine (hear_say0 b _ _ m c r _ hp2' (by omega) (by simp) HH.out).mono ?_
        rintro e w3 ⟨A, cap, rfl, hp3, hk3⟩
        have g3 := g2'.go (hk3.low (Nat.le_refl b) (Nat.le_of_lt hbl')) hb2''
        obtain ⟨n0, n1, n2, n3, n4, n5, n6⟩ := g3.msg
        clear hk3 hp2' hbl' m0 m1 m2 m3 m4 m5 m6 s0' s1' s2' g2'
        have HR := Lib.hid (quiet_ready hp3 rfl 0)
        have HT := Lib.hid (quiet_stem hp3 rfl rfl 0)
        clear hp3
        go_wp2_with fail
        refine HR.out.mono ?_
        rintro e w4 ⟨rfl, rfl⟩
        go_wp2_with fail
        refine HT.out.mono ?_
        rintro e w4 ⟨rfl, rfl⟩
        go_wp2_with fail
        go_ret
        exact ⟨rfl, g3.b⟩
  · have HH := Lib.hid hh
    clear hh
    have e3 : (k == 3) = false := by rw [beq_eq_false_iff_ne]; exact h3
    have e4 : (k == 4) = false := by rw [beq_eq_false_iff_ne]; exact h4
    have e1 : (k == 1) = false := by rw [beq_eq_false_iff_ne]; exact h1
    have e2 : (k == 2) = false := by rw [beq_eq_false_iff_ne]; exact h2
    have e11 : (k == 11) = false := by rw [beq_eq_false_iff_ne]; exact h11
    clear h3 h4 h1 h2 h11
    unfold msgV
    cases o
    all_goals
      go_enter Try.func4, Try.ntmps4
      go_wp2_with fail
      refine (alive_any _).mono ?_
      rintro e w1 ⟨rfl, hb1⟩
      have g1 := Boxes.mk' hb1
      obtain ⟨s0, s1, s2⟩ := g1.side
      clear hb1
      go_wp2_with fail
      refine (HM.out _).mono ?_
      rintro e w2 ⟨b, rfl, hb2, hp2, hB2⟩
      have g2 := g1.go hB2 g1.lt
      obtain ⟨m0, m1, m2, m3, m4, m5, m6⟩ := g2.msg
      have hb2'' : w.heap.size + 1 < b := by have := g1.lt; omega
      obtain ⟨s0', s1', s2'⟩ := g2.side
      have HR := Lib.hid (quiet_ready hp2 rfl)
      have HT := Lib.hid (quiet_stem hp2 rfl rfl)
      have HO := Lib.hid (quiet_out hp2)
      have hbl : b < w2.heap.size := hp2.lt
      clear hB2 s0 s1 s2 g1
      go_wp2_with fail
      go_quiet (first | exact Calls.quiet_of_same (HR.out _) | exact Calls.quiet_of_same (HT.out _) | exact Calls.quiet_of_same (HO.out _))
      clear HR HT HO
      have g2' : Boxes w (w2.drewN nq) _ _ := ⟨g2.lt, g2.c, g2.d, below_drewN g2.b _⟩
      have hp2' : IsPeer (w2.drewN nq) b _ := hp2
      have hbl' : b < (w2.drewN nq).heap.size := hbl
      clear hp2 hbl g2
      go_wp2_with fail
      refine (hear_say0 b _ k m c r _ hp2' (by omega) (by simp) HH.out).mono ?_
      rintro e w3 ⟨A, cap, rfl, hp3, hk3⟩
      have g3 := g2'.go (hk3.low (Nat.le_refl b) (Nat.le_of_lt hbl')) hb2''
      obtain ⟨n0, n1, n2, n3, n4, n5, n6⟩ := g3.msg
      clear hk3 hp2' hbl' m0 m1 m2 m3 m4 m5 m6 s0' s1' s2' g2'
      clear hp3
      go_wp2_with fail
      go_ret
      exact ⟨rfl, g3.b⟩
end Go.Proofs.Ytpacgblddeoheaa
