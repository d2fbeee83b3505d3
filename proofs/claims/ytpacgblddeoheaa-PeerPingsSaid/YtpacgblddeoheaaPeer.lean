/- A peer: what it is made of, its small answers. -/
import Derived.Test.YtpacgblddeoheaaBase
import Derived.Lib.SmallJoins
namespace Go.Proofs.Ytpacgblddeoheaa
open Go.RowKit Go.Deep
set_option linter.unusedVariables false
set_option maxRecDepth 100000
attribute [local go_sem ↓] Go.wp_at_zero Go.wp_at_succ

theorem known_any (w : World) : Calls Try.prog 22 #[.int .i64 64] w fun r w' => ∃ p, r = .returned (.tuple #[.pointer (some p), .int .i64 0]) ∧ Below w.heap.size w w' := by
  have hmm := @run_makeMap Try.prog
  go_enter Try.func22, Try.ntmps22
  go_wp2
  go_ret2
  exact ⟨_, rfl, Joins.below_alloc2 _ _ _⟩
theorem flow_any (w : World) : Calls Try.prog 18 #[] w fun r w' => ∃ p, r = .returned (.pointer p) ∧ Below w.heap.size w w' := by
  go_enter Try.func18, Try.ntmps18
  go_wp2
  go_ret
  exact ⟨_, rfl, Joins.below_alloc1 _ _⟩
theorem trickle_any (w : World) : Calls Try.prog 17 #[] w fun r w' => ∃ p, r = .returned (.pointer (some p)) ∧ Below w.heap.size w w' := by
  go_enter Try.func17, Try.ntmps17
  go_wp2_with fail
  refine (known_any _).mono ?_
  rintro e w1 ⟨p, rfl, hb⟩
  go_wp2
  go_ret
  exact ⟨_, rfl, hb.alloc hb.size _⟩
/-- what a peer is -/
structure PeerD where
  out : Bool
  nonce : Nat
  step : Nat
  takes : Bool
  since : Nat
  pings : Nat
  waits : Bool
def peerCells (d : PeerD) (f g q : Option Addr) : Array Value :=
  #[.bool d.out, .int .u64 d.nonce, .int .i64 d.step, .bool d.takes, .pointer f, .pointer g, .pointer q, .int .u64 d.since, .int .u64 d.pings, .bool d.waits]
def IsPeer (w : World) (b : Nat) (d : PeerD) : Prop := ∃ f g q, Bk w b 54 (peerCells d f g (some q))
theorem new_any (o : Bool) (n t : Nat) (w : World) : Calls Try.prog 8 #[.bool o, .int .u64 (n : Int), .int .u64 (t : Int)] w fun r w' =>
    ∃ b, r = .returned (.pointer (some ⟨b, 0, none⟩)) ∧ w.heap.size ≤ b ∧ b < w'.heap.size ∧ IsPeer w' b ⟨o, n, 0, false, t, 0, false⟩ ∧ Below w.heap.size w w' := by
  go_enter Try.func8, Try.ntmps8
  go_wp2_with fail
  refine (trickle_any _).mono ?_
  rintro e w1 ⟨q, rfl, hb1⟩
  go_wp2_with fail
  refine (flow_any _).mono ?_
  rintro e w2 ⟨f, rfl, hb2⟩
  go_wp2_with fail
  refine (flow_any _).mono ?_
  rintro e w3 ⟨g, rfl, hb3⟩
  have b2 := hb1.trans (hb2.mono hb1.size)
  have b3 := b2.trans (hb3.mono b2.size)
  go_wp2
  go_ret
  exact ⟨_, rfl, b3.size, by simp, ⟨f, g, q, Bk.new _ _ _⟩, b3.alloc b3.size _⟩
theorem IsPeer.cells {w : World} {b : Nat} {d : PeerD} (h : IsPeer w b d) : ∃ f g q, w.cell? ⟨b, 0, none⟩ = some (.bool d.out) ∧ w.cell? ⟨b, 1, none⟩ = some (.int .u64 d.nonce) ∧ w.cell? ⟨b, 2, none⟩ = some (.int .i64 d.step) ∧
    w.cell? ⟨b, 3, none⟩ = some (.bool d.takes) ∧ w.cell? ⟨b, 4, none⟩ = some (.pointer f) ∧ w.cell? ⟨b, 5, none⟩ = some (.pointer g) ∧ w.cell? ⟨b, 6, none⟩ = some (.pointer (some q)) ∧ w.cell? ⟨b, 7, none⟩ = some (.int .u64 d.since) ∧
    w.cell? ⟨b, 8, none⟩ = some (.int .u64 d.pings) ∧ w.cell? ⟨b, 9, none⟩ = some (.bool d.waits) := by
  obtain ⟨f, g, q, hb⟩ := h
  refine ⟨f, g, q, ?_, ?_, ?_, ?_, ?_, ?_, ?_, ?_, ?_, ?_⟩ <;> (rw [hb.cell]; rfl)
theorem ready_any (b : Nat) (d : PeerD) (w : World) (h : IsPeer w b d) : Calls Try.prog 10 #[.pointer (some ⟨b, 0, none⟩)] w fun r w' => r = .returned (.bool ((d.step : Int) == 2)) ∧ w = w' := by
  obtain ⟨f, g, q, c0, c1, c2, c3, c4, c5, c6, c7, c8, c9⟩ := h.cells
  clear h
  go_enter Try.func10, Try.ntmps10
  go_wp2
  go_ret
  exact ⟨rfl, rfl⟩
theorem out_any (b : Nat) (d : PeerD) (w : World) (h : IsPeer w b d) : Calls Try.prog 13 #[.pointer (some ⟨b, 0, none⟩)] w fun r w' => r = .returned (.bool d.out) ∧ w = w' := by
  obtain ⟨f, g, q, c0, c1, c2, c3, c4, c5, c6, c7, c8, c9⟩ := h.cells
  clear h
  go_enter Try.func13, Try.ntmps13
  go_wp2
  go_ret
  exact ⟨rfl, rfl⟩
theorem stem_any (b : Nat) (d : PeerD) (w : World) (h : IsPeer w b d) : Calls Try.prog 11 #[.pointer (some ⟨b, 0, none⟩)] w fun r w' => r = .returned (.bool (((d.step : Int) == 2) && d.takes)) ∧ w = w' := by
  have hr := ready_any b d w h
  obtain ⟨f, g, q, c0, c1, c2, c3, c4, c5, c6, c7, c8, c9⟩ := h.cells
  clear h
  have HR := Lib.hid hr
  clear hr
  cases hs : ((d.step : Int) == 2)
  all_goals
    rw [hs] at HR
    clear hs
    go_enter Try.func11, Try.ntmps11
    go_wp2_with fail
    refine HR.out.mono ?_
    rintro e w1 ⟨rfl, rfl⟩
    go_wp2
    go_ret
    exact ⟨rfl, rfl⟩
theorem queue_any (b : Nat) (d : PeerD) (w : World) (h : IsPeer w b d) : Calls Try.prog 16 #[.pointer (some ⟨b, 0, none⟩)] w fun r w' => ∃ q, r = .returned (.pointer (some q)) ∧ w = w' := by
  obtain ⟨f, g, q, c0, c1, c2, c3, c4, c5, c6, c7, c8, c9⟩ := h.cells
  clear h
  go_enter Try.func16, Try.ntmps16
  go_wp2
  go_ret
  exact ⟨q, rfl, rfl⟩
end Go.Proofs.Ytpacgblddeoheaa
