/- The document's numbers as bytes: Get of pappusref02. -/
import Derived.Test.YtanjlgkbjcienaaRef02L
namespace Go.Proofs.Ytanjlgkbjcienaa
open Go.RowKit Go.Deep
set_option linter.unusedVariables false
set_option linter.unusedSimpArgs false
set_option maxRecDepth 100000
attribute [local go_sem ↓] Go.wp_at_zero Go.wp_at_succ
set_option maxHeartbeats 400000 in
theorem rget_no (A : Option Addr) (n cap : Nat) (hn : ¬ (n = 1 ∨ n = 2 ∨ n = 4 ∨ n = 8)) (w : World) :
    Calls Try.prog 25 #[.slice A n cap] w fun r w' => r = .returned (.tuple #[.int .u64 0, .int .i64 2]) ∧ w = w' := by
  have e1 : ((n : Int) != 1) = true := by rw [bne_iff_ne]; omega
  have e2 : ((n : Int) != 2) = true := by rw [bne_iff_ne]; omega
  have e4 : ((n : Int) != 4) = true := by rw [bne_iff_ne]; omega
  have e8 : ((n : Int) != 8) = true := by rw [bne_iff_ne]; omega
  clear hn
  go_enter Try.func25, Try.ntmps25
  go_wp2
  go_ret2
  exact ⟨rfl, rfl⟩
set_option maxHeartbeats 1000000 in
theorem rget_yes (A : Option Addr) (cap B : Nat) (bs : List UInt8) (hn : bs.length = 1 ∨ bs.length = 2 ∨ bs.length = 4 ∨ bs.length = 8) (w : World) (h : BytesAt w B A bs) :
    Calls Try.prog 25 #[.slice A bs.length cap] w fun r w' => r = .returned (.tuple #[.int .u64 (Oct.val bs : Nat), .int .i64 0]) ∧ w = w' := by
  have hn8 : bs.length ≤ 8 := by omega
  have H : (((bs.length : Int) != 1) = false) ∨ (((bs.length : Int) != 1) = true ∧ ((bs.length : Int) != 2) = false) ∨ (((bs.length : Int) != 1) = true ∧ ((bs.length : Int) != 2) = true ∧ ((bs.length : Int) != 4) = false) ∨
      (((bs.length : Int) != 1) = true ∧ ((bs.length : Int) != 2) = true ∧ ((bs.length : Int) != 4) = true ∧ ((bs.length : Int) != 8) = false) := by
    simp only [bne_iff_ne, bne_eq_false_iff_eq]; omega
  have h0 : 1 ≤ bs.length := by omega
  clear hn
  rcases H with e1 | ⟨e1, e2⟩ | ⟨e1, e2, e3⟩ | ⟨e1, e2, e3, e4⟩
  all_goals
    go_enter Try.func25, Try.ntmps25
    go_wp2
    go_loop [4, 5] (fun x i => ∃ k : Nat, k ≤ bs.length ∧ i = .int .i64 ((k : Int) - 1) ∧ x = .int .u64 (Oct.val (bs.drop k) : Nat)) (fun _ i => (intOf i + 1).toNat)
    case atStart => exact ⟨bs.length, Nat.le_refl _, rfl, by simp [Oct.val]⟩
    case round =>
      obtain ⟨k, hk', rfl, rfl⟩ := hrel
      rcases Nat.eq_zero_or_pos k with h0' | hpos
      · subst h0'
        rw [List.drop_zero]
        go_wp2
        go_ret2
        exact ⟨rfl, rfl⟩
      · obtain ⟨j, rfl⟩ : ∃ j, k = j + 1 := ⟨k - 1, by omega⟩
        rw [show ((j + 1 : Nat) : Int) - 1 = (j : Int) by omega]
        have hj : j < bs.length := by omega
        obtain ⟨q, off, rfl, _, c1⟩ := h.cell hj
        have hx1 := bs[j].toNat_lt
        have ev := val_drop bs j hj
        have hu := val_u64 (bs.drop j) (by simp; omega)
        rw [ev] at hu
        have Ev := Lib.hid ev
        clear ev h
        generalize bs[j] = c at *
        generalize Oct.val (bs.drop (j + 1)) = y at *
        go_wp2
        go_round
        case rel => exact ⟨j, by omega, rfl, by rw [Ev.out, get_step hu]⟩
        case measure => simp [intOf]

end Go.Proofs.Ytanjlgkbjcienaa
