/- Small laws of numbers as bytes. -/
import Derived.Test.YtpacgblddeoheaaDoorOctU
namespace Go.Proofs.YtpacgblddeoheaaDoor
open Go.RowKit Go.Deep
set_option linter.unusedVariables false
set_option linter.unusedSimpArgs false
set_option maxRecDepth 100000
attribute [local go_sem ↓] Go.wp_at_zero Go.wp_at_succ
theorem val_drop (bs : List UInt8) (k : Nat) (h : k < bs.length) : Oct.val (bs.drop k) = bs[k].toNat + 256 * Oct.val (bs.drop (k + 1)) := by
  rw [List.drop_eq_getElem_cons h]; rfl
theorem val_u64 (bs : List UInt8) (h : bs.length ≤ 8) : U64 (Oct.val bs) := by
  have h1 := Oct.val_lt bs
  have h2 : 256 ^ bs.length ≤ 256 ^ 8 := Nat.pow_le_pow_right (by decide) h
  unfold U64; omega
theorem get_step {y c : Nat} (h : U64 (c + 256 * y)) : IntKind.u64.wrap (IntKind.u64.wrap ((y : Int) * 256) + (c : Int)) = ((c + 256 * y : Nat) : Int) := by
  unfold U64 at h
  rw [IntKind.wrap_u64, IntKind.wrap_u64]; omega
end Go.Proofs.YtpacgblddeoheaaDoor
