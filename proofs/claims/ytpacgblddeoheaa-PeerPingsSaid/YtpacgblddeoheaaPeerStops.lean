/- Who isn't ready in time is stopped. -/
import Derived.Test.YtpacgblddeoheaaPeerHands
namespace Go.Proofs.Ytpacgblddeoheaa
open Go.RowKit Go.Deep Go.Joins Go.ChangeShapes Go.WideShapes
set_option linter.unusedVariables false
set_option maxRecDepth 100000
attribute [local go_sem ↓] Go.wp_at_zero Go.wp_at_succ

theorem tick_say0 (b : Nat) (d : PeerD) (now : Nat) (w : World) {x : Bool} {d' : PeerD} (h : IsPeer w b d) (hS : d.since ≤ 18446744073709551615) (hN : now ≤ 18446744073709551615) (hp : d.pings + 1 < 18446744073709551616) (hh : ticked d now = ([], x, d')) :
    Calls Try.prog 14 #[.pointer (some ⟨b, 0, none⟩), .int .u64 (now : Int)] w fun e w' => ∃ A cap, e = .returned (.tuple #[.slice A 0 cap, .bool x]) ∧ IsPeer w' b d' ∧ Kp (fun i => i = b) w w' :=
  (tick_any b d now w h hS hN hp).mono fun e w' ⟨v, he, ho, hp, hk⟩ => by
    rw [hh] at he ho hp
    obtain ⟨A, cap, rfl, _⟩ := ho.form
    exact ⟨A, cap, he, hp, hk⟩
theorem tick_say1 (b : Nat) (d : PeerD) (now : Nat) (w : World) {x : Bool} {d' : PeerD} {k1 n1 c1 : Nat} (h : IsPeer w b d) (hS : d.since ≤ 18446744073709551615) (hN : now ≤ 18446744073709551615) (hp : d.pings + 1 < 18446744073709551616) (hh : ticked d now = ([(k1, n1, c1)], x, d')) :
    Calls Try.prog 14 #[.pointer (some ⟨b, 0, none⟩), .int .u64 (now : Int)] w fun e w' => ∃ g cap, e = .returned (.tuple #[.slice (some ⟨g, 0, none⟩) 1 cap, .bool x]) ∧ w.heap.size ≤ g ∧ g < w'.heap.size ∧
      w'.cell? ⟨g, 0, none⟩ = some (.int .i64 k1) ∧ w'.cell? ⟨g, 1, none⟩ = some (.int .u64 n1) ∧ IsPeer w' b d' ∧ Kp (fun i => i = b) w w' :=
  (tick_any b d now w h hS hN hp).mono fun e w' ⟨v, he, ho, hp, hk⟩ => by
    rw [hh] at he ho hp
    obtain ⟨A, cap, rfl, _, _, hc⟩ := ho.form
    obtain ⟨g, rfl, hg, hlt, h0, h1, _⟩ := hc 0 (by simp)
    exact ⟨g, cap, he, hg, hlt, by simpa using h0, by simpa using h1, hp, hk⟩
theorem ticked_fresh (d : PeerD) (now : Nat) (hs : d.step = 0) : ticked d now = ([], decide (later d.since 60 ≤ now), d) := by
  unfold ticked; rw [if_pos (by omega)]
theorem peerStops_walk (w : World) (o : Bool) (n t : Nat) (hn : n ≤ 18446744073709551615) (ht : t ≤ 18446744073709551615) (z : Int) (hz : (Lit.int .u64 z).wf = true) :
    Calls Try.prog 6 #[sideV o n t, .int .u64 z] w fun e w' => e = .returned (.bool true) ∧ Below w.heap.size w w' := by
  have hz := wf_u64 hz
  obtain ⟨now, rfl⟩ := Int.eq_ofNat_of_zero_le hz.1
  have hN : now ≤ 18446744073709551615 := by omega
  clear hz
  have hh := ticked_fresh ⟨o, n, 0, false, t, 0, false⟩ now rfl
  have HT0 : ∀ b W, IsPeer W b ⟨o, n, 0, false, t, 0, false⟩ → _ := fun b W hp => tick_say0 b _ now W hp ht hN (by simp) hh
  have HT := Lib.hid HT0
  clear HT0
  have hw1 : t ≤ now → IntKind.u64.wrap ((now : Int) - (t : Int)) = (now : Int) - (t : Int) := fun h => IntWalk.u64_in _ (by omega)
  unfold later at HT
  simp only at HT
  clear hh
  unfold sideV
  have hcase : (now < t ∧ ¬ (min ((t : Int) + 60) 18446744073709551615 ≤ (now : Int))) ∨ (t ≤ now ∧ 60 ≤ now - t ∧ (min ((t : Int) + 60) 18446744073709551615 ≤ (now : Int))) ∨
      (t ≤ now ∧ now - t < 60 ∧ now = 18446744073709551615 ∧ (min ((t : Int) + 60) 18446744073709551615 ≤ (now : Int))) ∨ (t ≤ now ∧ now - t < 60 ∧ now ≠ 18446744073709551615 ∧ ¬ (min ((t : Int) + 60) 18446744073709551615 ≤ (now : Int))) := by omega
  rcases hcase with ⟨h1, h2⟩ | ⟨h1, h2, h3⟩ | ⟨h1, h2, rfl, h3⟩ | ⟨h1, h2, h3, h4⟩
  · rw [decide_eq_false h2] at HT
    have e1 : decide (t ≤ now) = false := by rw [decide_eq_false]; omega
    clear hw1 h1 h2 ht hN hn
    go_enter Try.func6, Try.ntmps6
    go_wp2_with fail
    refine (alive_any _).mono ?_
    rintro e w1 ⟨rfl, hb1⟩
    have k1 := ((Bk.new w 24 #[.bool o, .int .u64 (n : Int), .int .u64 (t : Int)])).below hb1 (by simp)
    have B1 : Below w.heap.size w w1 := (Joins.below_alloc1 _ _).trans (hb1.mono (by simp))
    have z1 : w.heap.size < w1.heap.size := by have := hb1.size; simp at this; omega
    have s0 : w1.cell? ⟨w.heap.size, 0, none⟩ = some (.bool o) := (k1.cell 0).trans rfl
    have s1 : w1.cell? ⟨w.heap.size, 1, none⟩ = some (.int .u64 (n : Int)) := (k1.cell 1).trans rfl
    have s2 : w1.cell? ⟨w.heap.size, 2, none⟩ = some (.int .u64 (t : Int)) := (k1.cell 2).trans rfl
    clear hb1
    go_wp2_with fail
    refine (new_any _ _ _ _).mono ?_
    rintro e w2 ⟨b, rfl, hb2, hb2', hp2, hB2⟩
    have k2 := k1.below hB2 z1
    have B2 := B1.trans (hB2.mono B1.size)
    clear k1 B1 hB2 s0 s1 s2
    go_wp2_with fail
    refine (HT.out b _ hp2).mono ?_
    rintro e w3 ⟨A, cap, rfl, hp3, hk3⟩
    have k3 := k2.kp hk3 (by omega)
    have B3 := B2.trans (hk3.low (B := w.heap.size) (by omega) B2.size)
    have s2 : w3.cell? ⟨w.heap.size, 2, none⟩ = some (.int .u64 (t : Int)) := (k3.cell 2).trans rfl
    have HR := Lib.hid (ready_any b _ w3 hp3)
    clear k2 k3 hk3 hp3 hp2 HT B2
    go_wp2_with fail
    refine HR.out.mono ?_
    rintro e w4 ⟨rfl, rfl⟩
    go_wp2_with fail
    go_ret
    exact ⟨rfl, B3⟩
  · rw [decide_eq_true h3] at HT
    have e1 : decide (t ≤ now) = true := by rw [decide_eq_true]; omega
    have e2 : decide ((60 : Int) ≤ (now : Int) - (t : Int)) = true := by rw [decide_eq_true]; omega
    have hw2 := hw1 h1
    clear hw1 h1 h2 h3 ht hN hn
    go_enter Try.func6, Try.ntmps6
    go_wp2_with fail
    refine (alive_any _).mono ?_
    rintro e w1 ⟨rfl, hb1⟩
    have k1 := ((Bk.new w 24 #[.bool o, .int .u64 (n : Int), .int .u64 (t : Int)])).below hb1 (by simp)
    have B1 : Below w.heap.size w w1 := (Joins.below_alloc1 _ _).trans (hb1.mono (by simp))
    have z1 : w.heap.size < w1.heap.size := by have := hb1.size; simp at this; omega
    have s0 : w1.cell? ⟨w.heap.size, 0, none⟩ = some (.bool o) := (k1.cell 0).trans rfl
    have s1 : w1.cell? ⟨w.heap.size, 1, none⟩ = some (.int .u64 (n : Int)) := (k1.cell 1).trans rfl
    have s2 : w1.cell? ⟨w.heap.size, 2, none⟩ = some (.int .u64 (t : Int)) := (k1.cell 2).trans rfl
    clear hb1
    go_wp2_with fail
    refine (new_any _ _ _ _).mono ?_
    rintro e w2 ⟨b, rfl, hb2, hb2', hp2, hB2⟩
    have k2 := k1.below hB2 z1
    have B2 := B1.trans (hB2.mono B1.size)
    clear k1 B1 hB2 s0 s1 s2
    go_wp2_with fail
    refine (HT.out b _ hp2).mono ?_
    rintro e w3 ⟨A, cap, rfl, hp3, hk3⟩
    have k3 := k2.kp hk3 (by omega)
    have B3 := B2.trans (hk3.low (B := w.heap.size) (by omega) B2.size)
    have s2 : w3.cell? ⟨w.heap.size, 2, none⟩ = some (.int .u64 (t : Int)) := (k3.cell 2).trans rfl
    have HR := Lib.hid (ready_any b _ w3 hp3)
    clear k2 k3 hk3 hp3 hp2 HT B2
    go_wp2_with fail
    refine HR.out.mono ?_
    rintro e w4 ⟨rfl, rfl⟩
    go_wp2_with fail
    go_ret
    exact ⟨rfl, B3⟩
  · rw [decide_eq_true h3] at HT
    have e1 : decide ((t : Int) ≤ ((18446744073709551615 : Nat) : Int)) = true := by rw [decide_eq_true]; omega
    have e2 : decide ((60 : Int) ≤ ((18446744073709551615 : Nat) : Int) - (t : Int)) = false := by rw [decide_eq_false]; omega
    have hw2 := hw1 h1
    have e3 : (((18446744073709551615 : Nat) : Int) == 18446744073709551615) = true := by decide
    generalize ((18446744073709551615 : Nat) : Int) = mx at *
    clear hw1 h1 h2 h3 ht hN hn
    go_enter Try.func6, Try.ntmps6
    go_wp2_with fail
    refine (alive_any _).mono ?_
    rintro e w1 ⟨rfl, hb1⟩
    have k1 := ((Bk.new w 24 #[.bool o, .int .u64 (n : Int), .int .u64 (t : Int)])).below hb1 (by simp)
    have B1 : Below w.heap.size w w1 := (Joins.below_alloc1 _ _).trans (hb1.mono (by simp))
    have z1 : w.heap.size < w1.heap.size := by have := hb1.size; simp at this; omega
    have s0 : w1.cell? ⟨w.heap.size, 0, none⟩ = some (.bool o) := (k1.cell 0).trans rfl
    have s1 : w1.cell? ⟨w.heap.size, 1, none⟩ = some (.int .u64 (n : Int)) := (k1.cell 1).trans rfl
    have s2 : w1.cell? ⟨w.heap.size, 2, none⟩ = some (.int .u64 (t : Int)) := (k1.cell 2).trans rfl
    clear hb1
    go_wp2_with fail
    refine (new_any _ _ _ _).mono ?_
    rintro e w2 ⟨b, rfl, hb2, hb2', hp2, hB2⟩
    have k2 := k1.below hB2 z1
    have B2 := B1.trans (hB2.mono B1.size)
    clear k1 B1 hB2 s0 s1 s2
    go_wp2_with fail
    refine (HT.out b _ hp2).mono ?_
    rintro e w3 ⟨A, cap, rfl, hp3, hk3⟩
    have k3 := k2.kp hk3 (by omega)
    have B3 := B2.trans (hk3.low (B := w.heap.size) (by omega) B2.size)
    have s2 : w3.cell? ⟨w.heap.size, 2, none⟩ = some (.int .u64 (t : Int)) := (k3.cell 2).trans rfl
    have HR := Lib.hid (ready_any b _ w3 hp3)
    clear k2 k3 hk3 hp3 hp2 HT B2
    go_wp2_with fail
    refine HR.out.mono ?_
    rintro e w4 ⟨rfl, rfl⟩
    go_wp2_with fail
    go_ret
    exact ⟨rfl, B3⟩
  · rw [decide_eq_false h4] at HT
    have e1 : decide (t ≤ now) = true := by rw [decide_eq_true]; omega
    have e2 : decide ((60 : Int) ≤ (now : Int) - (t : Int)) = false := by rw [decide_eq_false]; omega
    have e3 : ((now : Int) == 18446744073709551615) = false := by rw [beq_eq_false_iff_ne]; omega
    have hw2 := hw1 h1
    clear hw1 h1 h2 h3 h4 ht hN hn
    go_enter Try.func6, Try.ntmps6
    go_wp2_with fail
    refine (alive_any _).mono ?_
    rintro e w1 ⟨rfl, hb1⟩
    have k1 := ((Bk.new w 24 #[.bool o, .int .u64 (n : Int), .int .u64 (t : Int)])).below hb1 (by simp)
    have B1 : Below w.heap.size w w1 := (Joins.below_alloc1 _ _).trans (hb1.mono (by simp))
    have z1 : w.heap.size < w1.heap.size := by have := hb1.size; simp at this; omega
    have s0 : w1.cell? ⟨w.heap.size, 0, none⟩ = some (.bool o) := (k1.cell 0).trans rfl
    have s1 : w1.cell? ⟨w.heap.size, 1, none⟩ = some (.int .u64 (n : Int)) := (k1.cell 1).trans rfl
    have s2 : w1.cell? ⟨w.heap.size, 2, none⟩ = some (.int .u64 (t : Int)) := (k1.cell 2).trans rfl
    clear hb1
    go_wp2_with fail
    refine (new_any _ _ _ _).mono ?_
    rintro e w2 ⟨b, rfl, hb2, hb2', hp2, hB2⟩
    have k2 := k1.below hB2 z1
    have B2 := B1.trans (hB2.mono B1.size)
    clear k1 B1 hB2 s0 s1 s2
    go_wp2_with fail
    refine (HT.out b _ hp2).mono ?_
    rintro e w3 ⟨A, cap, rfl, hp3, hk3⟩
    have k3 := k2.kp hk3 (by omega)
    have B3 := B2.trans (hk3.low (B := w.heap.size) (by omega) B2.size)
    have s2 : w3.cell? ⟨w.heap.size, 2, none⟩ = some (.int .u64 (t : Int)) := (k3.cell 2).trans rfl
    have HR := Lib.hid (ready_any b _ w3 hp3)
    clear k2 k3 hk3 hp3 hp2 HT B2
    go_wp2_with fail
    refine HR.out.mono ?_
    rintro e w4 ⟨rfl, rfl⟩
    go_wp2_with fail
    go_ret
    exact ⟨rfl, B3⟩
end Go.Proofs.Ytpacgblddeoheaa
