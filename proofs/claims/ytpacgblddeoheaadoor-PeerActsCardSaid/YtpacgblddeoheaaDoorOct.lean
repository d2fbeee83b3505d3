/- The walks of octet.Get and of the documents's Same: numbers out of bytes, bytes against bytes. -/
import Derived.Test.YtpacgblddeoheaaDoorOctU
import Derived.Test.YtpacgblddeoheaaDoorOctP
namespace Go.Proofs.YtpacgblddeoheaaDoor
open Go.RowKit Go.Deep
set_option linter.unusedVariables false
set_option linter.unusedSimpArgs false
set_option maxRecDepth 100000
attribute [local go_sem ↓] Go.wp_at_zero Go.wp_at_succ
def okWidth (n : Int) : Bool := decide (n = 1 ∨ n = 2 ∨ n = 4 ∨ n = 8)
set_option maxHeartbeats 400000 in
theorem width_any (n : Int) (w : World) : Calls Tryd.prog 89 #[.int .i64 n] w fun r w' => r = .returned (.bool (okWidth n)) ∧ w = w' := by
  go_enter Tryd.func89, Tryd.ntmps89
  go_wp2
  all_goals
    go_ret
    refine ⟨congrArg (fun x => Ending.returned (.bool x)) ?_, rfl⟩
    simp [okWidth, *]
    try (by_cases e : n = 8 <;> simp [e])
theorem width_yes (n : Nat) (hn : n = 1 ∨ n = 2 ∨ n = 4 ∨ n = 8) (w : World) : Calls Tryd.prog 89 #[.int .i64 n] w fun r w' => r = .returned (.bool true) ∧ w = w' := by
  have e : okWidth n = true := by unfold okWidth; simp; omega
  have := width_any n w
  rwa [e] at this
theorem width_no (n : Int) (hn : ¬ (n = 1 ∨ n = 2 ∨ n = 4 ∨ n = 8)) (w : World) : Calls Tryd.prog 89 #[.int .i64 n] w fun r w' => r = .returned (.bool false) ∧ w = w' := by
  have e : okWidth n = false := by unfold okWidth; simp; omega
  have := width_any n w
  rwa [e] at this
set_option maxHeartbeats 400000 in
theorem oget_no (A : Option Addr) (n cap : Nat) (hn : ¬ (n = 1 ∨ n = 2 ∨ n = 4 ∨ n = 8)) (w : World) :
    Calls Tryd.prog 72 #[.slice A n cap] w fun r w' => r = .returned (.tuple #[.int .u64 0, .int .i64 2]) ∧ w = w' := by
  go_enter Tryd.func72, Tryd.ntmps72
  go_wp2_with (go_at_call 89; refine (width_no _ (by omega) _).mono ?_; rintro e w' ⟨rfl, rfl⟩)
  go_ret2
  exact ⟨rfl, rfl⟩
/-- a byte more, the highest one: it is or-ed to what is there -/
theorem or_byte (x k c : Nat) (hk : k < 8) (hc : c < 256) (hx : x < 256 ^ k) : bits .or .u64 (x : Int) (IntKind.u64.wrap ((c : Int) * 2 ^ (8 * k))) = ((x + 256 ^ k * c : Nat) : Int) := by
  have hp : (256 : Nat) ^ k = 2 ^ (8 * k) := by rw [Nat.pow_mul]
  have h8 : (256 : Nat) ^ (k + 1) ≤ 256 ^ 8 := Nat.pow_le_pow_right (by decide) (by omega)
  have hm : c * 256 ^ k ≤ 255 * 256 ^ k := Nat.mul_le_mul_right _ (by omega)
  rw [Nat.pow_succ] at h8
  have hlt : c * 256 ^ k < 18446744073709551616 := by omega
  have e1 : ((c : Int) * 2 ^ (8 * k)) = ((c * 256 ^ k : Nat) : Int) := by rw [hp, Int.natCast_mul, Int.natCast_pow]; rfl
  rw [e1, IntKind.wrap_u64, show ((c * 256 ^ k : Nat) : Int) % 18446744073709551616 = ((c * 256 ^ k : Nat) : Int) by omega]
  rw [u64_or_nat _ _ (by omega) hlt]
  congr 1
  rw [Nat.or_comm, Nat.mul_comm c, hp, ← Nat.two_pow_add_eq_or_of_lt (by rw [← hp]; exact hx)]
  omega
set_option maxHeartbeats 1000000 in
theorem oget_yes (A : Option Addr) (cap B : Nat) (bs : List UInt8) (hn : bs.length = 1 ∨ bs.length = 2 ∨ bs.length = 4 ∨ bs.length = 8) (w : World) (h : BytesAt w B A bs) :
    Calls Tryd.prog 72 #[.slice A bs.length cap] w fun r w' => r = .returned (.tuple #[.int .u64 (Oct.val bs : Nat), .int .i64 0]) ∧ w = w' := by
  go_enter Tryd.func72, Tryd.ntmps72
  go_wp2_with (go_at_call 89; refine (width_yes _ hn _).mono ?_; rintro e w' ⟨rfl, rfl⟩)
  go_loop [4, 13] (fun x i => ∃ k : Nat, k ≤ bs.length ∧ i = .int .i64 k ∧ x = .int .u64 (Oct.val (bs.take k) : Nat)) (fun _ i => bs.length - (intOf i).toNat)
  case atStart => exact ⟨0, Nat.zero_le _, rfl, rfl⟩
  case round =>
    obtain ⟨k, hk', rfl, rfl⟩ := hrel
    by_cases hk : k < bs.length
    · obtain ⟨q, off, rfl, _, c1⟩ := h.cell hk
      have hx1 := bs[k].toNat_lt
      have hx2 := Oct.val_lt (bs.take k)
      rw [List.length_take, Nat.min_eq_left (by omega)] at hx2
      have e := or_byte (Oct.val (bs.take k)) k bs[k].toNat (by omega) hx1 hx2
      rw [← val_take bs k hk] at e
      have E := Lib.hid e
      clear e hx2 h
      generalize bs[k] = c at *
      generalize Oct.val (bs.take k) = x at *
      go_wp2
      go_round
      case rel => exact ⟨k + 1, by omega, by go_num, by rw [E.out]⟩
      case measure => simp [intOf]; omega
    · have e : bs.take k = bs := List.take_of_length_le (by omega)
      rw [e]
      clear e h
      go_wp2
      go_ret2
      exact ⟨rfl, rfl⟩

end Go.Proofs.YtpacgblddeoheaaDoor
