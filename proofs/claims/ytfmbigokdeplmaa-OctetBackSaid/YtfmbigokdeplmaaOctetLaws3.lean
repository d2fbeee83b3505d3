/- OctetBack: the law's own walk. -/
import Derived.Test.YtfmbigokdeplmaaOctetLaws
namespace Go.Proofs.Ytfmbigokdeplmaa
open Go.RowKit Go.Deep
set_option linter.unusedVariables false
set_option maxRecDepth 100000
attribute [local go_sem ↓] Go.wp_at_zero Go.wp_at_succ

theorem okw_of {n : Nat} (hn : n = 1 ∨ n = 2 ∨ n = 4 ∨ n = 8) : Oct.okw (n : Int) := by unfold Oct.okw; omega
theorem put_yes (x n : Nat) (hn : n = 1 ∨ n = 2 ∨ n = 4 ∨ n = 8) (h : x < 256 ^ n) : Oct.put x n = (Oct.le x n, 0) := by
  unfold Oct.put; rw [if_pos (okw_of hn), Int.toNat_natCast, if_pos h]
theorem put_great (x n : Nat) (hn : n = 1 ∨ n = 2 ∨ n = 4 ∨ n = 8) (h : ¬ x < 256 ^ n) : Oct.put x n = ([], 3) := by
  unfold Oct.put; rw [if_pos (okw_of hn), Int.toNat_natCast, if_neg h]
theorem get_le (x n : Nat) (hn : n = 1 ∨ n = 2 ∨ n = 4 ∨ n = 8) (h : x < 256 ^ n) : Oct.get (Oct.le x n) = (x, 0) := by
  unfold Oct.get
  rw [if_pos (by rw [Oct.le_length]; exact okw_of hn), Oct.val_le, Nat.mod_eq_of_lt h]
/-- the width that is tried -/
theorem back_width (b : Int) (hb : 0 ≤ b) : ∃ k : Nat, k < 4 ∧ b.tmod 4 = (k : Int) := ⟨(b.tmod 4).toNat, by rw [Int.tmod_eq_emod_of_nonneg hb]; omega, by rw [Int.tmod_eq_emod_of_nonneg hb]; omega⟩
theorem octetBack_walk (w : World) (a : Int) (ha : (Lit.int .u64 a).wf = true) (b : Int) (hb : (Lit.int .u8 b).wf = true) :
    Calls Try.prog 5 #[.int .u64 a, .int .u8 b] w fun r w' => r = .returned (.bool true) ∧ Below w.heap.size w w' := by
  obtain ⟨x, rfl, hx⟩ := u64_nat ha
  have hb0 : 0 ≤ b := by have := hb; simp [Lit.wf, IntKind.min, IntKind.max, IntKind.signed, IntKind.bits] at this; omega
  clear ha hb
  obtain ⟨k, hk, hkm⟩ := back_width b hb0
  have hn0 : ∃ n : Nat, wrap64 (2 ^ k) = (n : Int) ∧ (n = 1 ∨ n = 2 ∨ n = 4 ∨ n = 8) := by
    have : k = 0 ∨ k = 1 ∨ k = 2 ∨ k = 3 := by omega
    rcases this with rfl | rfl | rfl | rfl
    · exact ⟨1, (by simp [wrap64]; try omega), by omega⟩
    · exact ⟨2, (by simp [wrap64]; try omega), by omega⟩
    · exact ⟨4, (by simp [wrap64]; try omega), by omega⟩
    · exact ⟨8, (by simp [wrap64]; try omega), by omega⟩
  obtain ⟨n, hw, hn⟩ := hn0
  have HW := Lib.hid hw
  clear hw
  by_cases hlt : x < 256 ^ n
  · have HP := Lib.hid (put_yes x n hn hlt)
    have HG := Lib.hid (get_le x n hn hlt)
    have hs : ((x : Int) / 2 ^ (8 * n) != 0) = false := by
      have e := Oct.shr_nat x (8 * n)
      rw [e, Nat.pow_mul, bne_eq_false_iff_eq]
      have := Nat.div_eq_of_lt hlt
      show ((x / 256 ^ n : Nat) : Int) = 0
      omega
    have hll := Oct.le_length x n
    have hl8 : (n : Int) ≤ 8 := by omega
    generalize Oct.le x n = l at *
    subst hll
    clear hlt
    have h8 : ((l.length : Int) < 8) ∨ ¬ ((l.length : Int) < 8) := Classical.em _
    rcases h8 with h8 | h8
    all_goals
      go_enter Try.func5, Try.ntmps5
      go_wp2_with fail
      refine (alive_any _).mono ?_
      rintro r w1 ⟨rfl, hb1⟩
      go_wp2_with fail
      rw [HW.out]
      refine (oput_any x _ hx _).mono ?_
      rw [HP.out]
      rintro r w2 ⟨A2, c2, rfl, h2, hm2, hat2, hb2⟩
      have b2 := hb1.trans (hb2.mono hb1.size)
      go_wp2_with fail
      refine (oget_any _ _ _ _ l _ rfl hat2).mono ?_
      rw [HG.out]
      rintro r w4 ⟨rfl, rfl⟩
      go_wp2
      go_ret
      exact ⟨rfl, b2⟩
  · have HP := Lib.hid (put_great x n hn hlt)
    have h3 : n = 1 ∨ n = 2 ∨ n = 4 := by
      rcases hn with h | h | h | rfl
      · exact .inl h
      · exact .inr (.inl h)
      · exact .inr (.inr h)
      · exact absurd hx (by unfold U64; omega)
    have h8 : ((n : Int) < 8) := by omega
    have hs : ((x : Int) / 2 ^ (8 * n) != 0) = true := by
      have e := Oct.shr_nat x (8 * n)
      rw [e, Nat.pow_mul, bne_iff_ne]
      have : 0 < x / (2 ^ 8) ^ n := Nat.div_pos (Nat.le_of_not_lt hlt) (Nat.pow_pos (by decide))
      omega
    clear hlt
    go_enter Try.func5, Try.ntmps5
    go_wp2_with fail
    refine (alive_any _).mono ?_
    rintro r w1 ⟨rfl, hb1⟩
    go_wp2_with fail
    rw [HW.out]
    refine (oput_any x _ hx _).mono ?_
    rw [HP.out]
    rintro r w2 ⟨A2, c2, rfl, h2, hm2, hat2, hb2⟩
    have b2 := hb1.trans (hb2.mono hb1.size)
    go_wp2
    go_ret
    exact ⟨rfl, b2⟩
end Go.Proofs.Ytfmbigokdeplmaa
