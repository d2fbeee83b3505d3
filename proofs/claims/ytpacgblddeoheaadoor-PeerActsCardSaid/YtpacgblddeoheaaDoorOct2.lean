/- Numbers as bytes: sizes, widths, the document's numbers as short as may be. -/
import Derived.Test.YtpacgblddeoheaaDoorRefVar
import Derived.Test.YtpacgblddeoheaaDoorOct
import Derived.Test.YtpacgblddeoheaaDoorOctP
namespace Go.Proofs.YtpacgblddeoheaaDoor
open Go.RowKit Go.Deep
set_option linter.unusedVariables false
set_option linter.unusedSimpArgs false
set_option maxRecDepth 100000
attribute [local go_sem ↓] Go.wp_at_zero Go.wp_at_succ

set_option maxHeartbeats 400000 in
theorem osize_any (x : Nat) (w : World) : Calls Tryd.prog 86 #[.int .u64 (x : Int)] w fun r w' => r = .returned (.int .i64 (Oct.size x : Nat)) ∧ w = w' := by
  rcases Nat.lt_or_ge x 253 with h1 | h1
  · go_enter Tryd.func86, Tryd.ntmps86
    go_wp2
    go_ret
    exact ⟨by simp [Oct.size, h1], rfl⟩
  go_enter Tryd.func86, Tryd.ntmps86
  go_wp2
  all_goals
    go_ret
    refine ⟨congrArg (fun x => Ending.returned (.int .i64 x)) ?_, rfl⟩
    try simp only [beq_iff_eq, beq_eq_false_iff_ne] at *
    unfold Oct.size
    (repeat' split) <;> first | rfl | omega
/-! ### what is read -/
theorem read_cases (c : UInt8) (r : List UInt8) :
    (Oct.wide c.toNat = 0 ∧ (((c.toNat : Int) == 253) = false ∧ ((c.toNat : Int) == 254) = false ∧ ((c.toNat : Int) == 255) = false) ∧ Oct.read (c :: r) = (c.toNat, 1, 0)) ∨
    (∃ m : Nat, (m = 2 ∨ m = 4 ∨ m = 8) ∧ Oct.wide c.toNat = m ∧
      ((m = 2 ∧ ((c.toNat : Int) == 253) = true) ∨ (m = 4 ∧ ((c.toNat : Int) == 253) = false ∧ ((c.toNat : Int) == 254) = true) ∨ (m = 8 ∧ ((c.toNat : Int) == 253) = false ∧ ((c.toNat : Int) == 254) = false ∧ ((c.toNat : Int) == 255) = true)) ∧
      ((r.length < m ∧ Oct.read (c :: r) = (0, 0, 4)) ∨
       (m ≤ r.length ∧ Oct.size (Oct.val (r.take m)) = m + 1 ∧ Oct.read (c :: r) = (Oct.val (r.take m), m + 1, 0)) ∨
       (m ≤ r.length ∧ Oct.size (Oct.val (r.take m)) ≠ m + 1 ∧ Oct.read (c :: r) = (0, 0, 6)))) := by
  simp only [beq_iff_eq, beq_eq_false_iff_ne]
  by_cases h0 : Oct.wide c.toNat = 0
  · left
    refine ⟨h0, ?_, by simp [Oct.read, h0]⟩
    unfold Oct.wide at h0
    (repeat' split at h0) <;> omega
  · right
    refine ⟨Oct.wide c.toNat, ?_, rfl, ?_, ?_⟩
    · unfold Oct.wide at h0 ⊢; (repeat' split) <;> simp_all
    · unfold Oct.wide at h0 ⊢
      (repeat' split) <;> (try simp_all) <;> omega
    · have hr : Oct.read (c :: r) = if r.length < Oct.wide c.toNat then (0, 0, 4) else if Oct.size (Oct.val (r.take (Oct.wide c.toNat))) = Oct.wide c.toNat + 1 then (Oct.val (r.take (Oct.wide c.toNat)), Oct.wide c.toNat + 1, 0) else (0, 0, 6) := by
        simp only [Oct.read]; rw [if_neg h0]
      rw [hr]
      generalize Oct.wide c.toNat = m at *
      by_cases h1 : r.length < m
      · exact .inl ⟨h1, by rw [if_pos h1]⟩
      · by_cases h2 : Oct.size (Oct.val (r.take m)) = m + 1
        · exact .inr (.inl ⟨by omega, h2, by rw [if_neg h1, if_pos h2]⟩)
        · exact .inr (.inr ⟨by omega, h2, by rw [if_neg h1, if_neg h2]⟩)
end Go.Proofs.YtpacgblddeoheaaDoor
