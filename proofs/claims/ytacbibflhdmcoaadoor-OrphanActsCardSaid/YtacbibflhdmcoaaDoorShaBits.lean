/- Walks of package sha: turns, words. -/
import Derived.Test.YtacbibflhdmcoaaDoorSha
import Derived.Laws.Bits64
import Derived.Laws.Bits64b
import Derived.Laws.BitsLemmas
namespace Go.Proofs.YtacbibflhdmcoaaDoor
open Go.RowKit Go.Deep
set_option linter.unusedVariables false
set_option linter.unusedSimpArgs false
set_option maxRecDepth 100000
attribute [local go_sem ↓] Go.wp_at_zero Go.wp_at_succ
def u32V (x : UInt32) : Value := .int .u32 (x.toNat : Int)
theorem u32_lt (x : UInt32) : x.toNat < 4294967296 := x.toNat_lt
theorem u32_wrap (n : Int) : IntKind.u32.wrap n = n % 4294967296 := by rw [IntKind.wrap_u32]
theorem bits_u32_xor (a b : Nat) (ha : a < 4294967296) (hb : b < 4294967296) : bits .xor .u32 (a : Int) (b : Int) = ((a ^^^ b : Nat) : Int) := by
  have h : a ^^^ b < 4294967296 := Nat.xor_lt_two_pow (n := 32) ha hb
  have e1 : a % 2 ^ IntKind.u32.bits = a := Nat.mod_eq_of_lt ha
  have e2 : b % 2 ^ IntKind.u32.bits = b := Nat.mod_eq_of_lt hb
  simp only [bits, BitVec.ofInt_natCast, BitVec.toNat_xor, BitVec.toNat_ofNat, e1, e2]
  rw [u32_wrap]
  omega
theorem ret_u32 {a b : Int} (h : a = b) : Ending.returned (.int .u32 a) = .returned (.int .u32 b) := by rw [h]
theorem u_xor (a b : UInt32) : bits .xor .u32 (a.toNat : Int) (b.toNat : Int) = ((a ^^^ b).toNat : Int) := by
  rw [UInt32.toNat_xor]; exact bits_u32_xor _ _ (u32_lt a) (u32_lt b)
theorem u_and (a b : UInt32) : bits .and .u32 (a.toNat : Int) (b.toNat : Int) = ((a &&& b).toNat : Int) := by
  rw [UInt32.toNat_and]; exact (bits_nat .u32 32 (by decide) (fun n h0 h1 => by rw [u32_wrap]; omega) a.toNat b.toNat (u32_lt a) (u32_lt b)).1
theorem u_or (a b : UInt32) : bits .or .u32 (a.toNat : Int) (b.toNat : Int) = ((a ||| b).toNat : Int) := by
  rw [UInt32.toNat_or]; exact (bits_nat .u32 32 (by decide) (fun n h0 h1 => by rw [u32_wrap]; omega) a.toNat b.toNat (u32_lt a) (u32_lt b)).2
theorem u_add (a b : UInt32) : ((a.toNat : Int) + (b.toNat : Int)) % 4294967296 = ((a + b).toNat : Int) := by
  rw [UInt32.toNat_add]; omega
theorem u_addw (a b : UInt32) : IntKind.u32.wrap ((a.toNat : Int) + (b.toNat : Int)) = ((a + b).toNat : Int) := by
  rw [u32_wrap, u_add]
theorem u_shl7 (x : UInt32) : (x.toNat : Int) * (128 : Int) % (4294967296 : Int) = ((x <<< 7).toNat : Int) := by
  rw [UInt32.toNat_shiftLeft]; simp [Nat.shiftLeft_eq]
theorem u_shl8 (x : UInt32) : (x.toNat : Int) * (256 : Int) % (4294967296 : Int) = ((x <<< 8).toNat : Int) := by
  rw [UInt32.toNat_shiftLeft]; simp [Nat.shiftLeft_eq]
theorem u_shl10 (x : UInt32) : (x.toNat : Int) * (1024 : Int) % (4294967296 : Int) = ((x <<< 10).toNat : Int) := by
  rw [UInt32.toNat_shiftLeft]; simp [Nat.shiftLeft_eq]
theorem u_shl13 (x : UInt32) : (x.toNat : Int) * (8192 : Int) % (4294967296 : Int) = ((x <<< 13).toNat : Int) := by
  rw [UInt32.toNat_shiftLeft]; simp [Nat.shiftLeft_eq]
theorem u_shl14 (x : UInt32) : (x.toNat : Int) * (16384 : Int) % (4294967296 : Int) = ((x <<< 14).toNat : Int) := by
  rw [UInt32.toNat_shiftLeft]; simp [Nat.shiftLeft_eq]
theorem u_shl15 (x : UInt32) : (x.toNat : Int) * (32768 : Int) % (4294967296 : Int) = ((x <<< 15).toNat : Int) := by
  rw [UInt32.toNat_shiftLeft]; simp [Nat.shiftLeft_eq]
theorem u_shl16 (x : UInt32) : (x.toNat : Int) * (65536 : Int) % (4294967296 : Int) = ((x <<< 16).toNat : Int) := by
  rw [UInt32.toNat_shiftLeft]; simp [Nat.shiftLeft_eq]
theorem u_shl19 (x : UInt32) : (x.toNat : Int) * (524288 : Int) % (4294967296 : Int) = ((x <<< 19).toNat : Int) := by
  rw [UInt32.toNat_shiftLeft]; simp [Nat.shiftLeft_eq]
theorem u_shl21 (x : UInt32) : (x.toNat : Int) * (2097152 : Int) % (4294967296 : Int) = ((x <<< 21).toNat : Int) := by
  rw [UInt32.toNat_shiftLeft]; simp [Nat.shiftLeft_eq]
theorem u_shl24 (x : UInt32) : (x.toNat : Int) * (16777216 : Int) % (4294967296 : Int) = ((x <<< 24).toNat : Int) := by
  rw [UInt32.toNat_shiftLeft]; simp [Nat.shiftLeft_eq]
theorem u_shl25 (x : UInt32) : (x.toNat : Int) * (33554432 : Int) % (4294967296 : Int) = ((x <<< 25).toNat : Int) := by
  rw [UInt32.toNat_shiftLeft]; simp [Nat.shiftLeft_eq]
theorem u_shl26 (x : UInt32) : (x.toNat : Int) * (67108864 : Int) % (4294967296 : Int) = ((x <<< 26).toNat : Int) := by
  rw [UInt32.toNat_shiftLeft]; simp [Nat.shiftLeft_eq]
theorem u_shl30 (x : UInt32) : (x.toNat : Int) * (1073741824 : Int) % (4294967296 : Int) = ((x <<< 30).toNat : Int) := by
  rw [UInt32.toNat_shiftLeft]; simp [Nat.shiftLeft_eq]
theorem u_shr2 (x : UInt32) : (x.toNat : Int) / (4 : Int) = ((x >>> 2).toNat : Int) := by
  rw [UInt32.toNat_shiftRight]; simp [Nat.shiftRight_eq_div_pow]
theorem u_shr3 (x : UInt32) : (x.toNat : Int) / (8 : Int) = ((x >>> 3).toNat : Int) := by
  rw [UInt32.toNat_shiftRight]; simp [Nat.shiftRight_eq_div_pow]
theorem u_shr6 (x : UInt32) : (x.toNat : Int) / (64 : Int) = ((x >>> 6).toNat : Int) := by
  rw [UInt32.toNat_shiftRight]; simp [Nat.shiftRight_eq_div_pow]
theorem u_shr7 (x : UInt32) : (x.toNat : Int) / (128 : Int) = ((x >>> 7).toNat : Int) := by
  rw [UInt32.toNat_shiftRight]; simp [Nat.shiftRight_eq_div_pow]
theorem u_shr8 (x : UInt32) : (x.toNat : Int) / (256 : Int) = ((x >>> 8).toNat : Int) := by
  rw [UInt32.toNat_shiftRight]; simp [Nat.shiftRight_eq_div_pow]
theorem u_shr10 (x : UInt32) : (x.toNat : Int) / (1024 : Int) = ((x >>> 10).toNat : Int) := by
  rw [UInt32.toNat_shiftRight]; simp [Nat.shiftRight_eq_div_pow]
theorem u_shr11 (x : UInt32) : (x.toNat : Int) / (2048 : Int) = ((x >>> 11).toNat : Int) := by
  rw [UInt32.toNat_shiftRight]; simp [Nat.shiftRight_eq_div_pow]
theorem u_shr13 (x : UInt32) : (x.toNat : Int) / (8192 : Int) = ((x >>> 13).toNat : Int) := by
  rw [UInt32.toNat_shiftRight]; simp [Nat.shiftRight_eq_div_pow]
theorem u_shr16 (x : UInt32) : (x.toNat : Int) / (65536 : Int) = ((x >>> 16).toNat : Int) := by
  rw [UInt32.toNat_shiftRight]; simp [Nat.shiftRight_eq_div_pow]
theorem u_shr17 (x : UInt32) : (x.toNat : Int) / (131072 : Int) = ((x >>> 17).toNat : Int) := by
  rw [UInt32.toNat_shiftRight]; simp [Nat.shiftRight_eq_div_pow]
theorem u_shr18 (x : UInt32) : (x.toNat : Int) / (262144 : Int) = ((x >>> 18).toNat : Int) := by
  rw [UInt32.toNat_shiftRight]; simp [Nat.shiftRight_eq_div_pow]
theorem u_shr19 (x : UInt32) : (x.toNat : Int) / (524288 : Int) = ((x >>> 19).toNat : Int) := by
  rw [UInt32.toNat_shiftRight]; simp [Nat.shiftRight_eq_div_pow]
theorem u_shr22 (x : UInt32) : (x.toNat : Int) / (4194304 : Int) = ((x >>> 22).toNat : Int) := by
  rw [UInt32.toNat_shiftRight]; simp [Nat.shiftRight_eq_div_pow]
theorem u_shr24 (x : UInt32) : (x.toNat : Int) / (16777216 : Int) = ((x >>> 24).toNat : Int) := by
  rw [UInt32.toNat_shiftRight]; simp [Nat.shiftRight_eq_div_pow]
theorem u_shr25 (x : UInt32) : (x.toNat : Int) / (33554432 : Int) = ((x >>> 25).toNat : Int) := by
  rw [UInt32.toNat_shiftRight]; simp [Nat.shiftRight_eq_div_pow]
theorem rot2 (x : UInt32) (w : World) : Calls Tryd.prog 80 #[.int .u32 (x.toNat : Int), .int .i64 (-2)] w fun r w' => r = .returned (.int .u32 ((Sha.rotr x 2).toNat : Int)) ∧ w = w' := by
  have e1 : IntKind.u64.wrap (-2) = 18446744073709551614 := by decide
  have e2 : bits .and .u64 18446744073709551614 31 = 30 := bits_and_u64_nat 18446744073709551614 31 (by decide) (by decide)
  have hx := u32_lt x
  go_enter Tryd.func80, Tryd.ntmps80
  go_wp2
  go_ret
  refine ⟨ret_u32 ?_, rfl⟩
  rw [u_shl30, u_shr2, u_or]
  rw [show Sha.rotr x 2 = x <<< 30 ||| x >>> 2 by unfold Sha.rotr; rw [UInt32.or_comm]; rfl]
theorem turn2 (x : UInt32) (w : World) : Calls Tryd.prog 78 #[.int .u32 (x.toNat : Int), .int .u64 2] w fun r w' => r = .returned (.int .u32 ((Sha.rotr x 2).toNat : Int)) ∧ w = w' := by
  have hx := u32_lt x
  go_enter Tryd.func78, Tryd.ntmps78
  go_wp2
  go_ret
  refine ⟨ret_u32 ?_, rfl⟩
  rw [u_shl30, u_shr2, u_or]
  rfl
theorem rot6 (x : UInt32) (w : World) : Calls Tryd.prog 80 #[.int .u32 (x.toNat : Int), .int .i64 (-6)] w fun r w' => r = .returned (.int .u32 ((Sha.rotr x 6).toNat : Int)) ∧ w = w' := by
  have e1 : IntKind.u64.wrap (-6) = 18446744073709551610 := by decide
  have e2 : bits .and .u64 18446744073709551610 31 = 26 := bits_and_u64_nat 18446744073709551610 31 (by decide) (by decide)
  have hx := u32_lt x
  go_enter Tryd.func80, Tryd.ntmps80
  go_wp2
  go_ret
  refine ⟨ret_u32 ?_, rfl⟩
  rw [u_shl26, u_shr6, u_or]
  rw [show Sha.rotr x 6 = x <<< 26 ||| x >>> 6 by unfold Sha.rotr; rw [UInt32.or_comm]; rfl]
theorem turn6 (x : UInt32) (w : World) : Calls Tryd.prog 78 #[.int .u32 (x.toNat : Int), .int .u64 6] w fun r w' => r = .returned (.int .u32 ((Sha.rotr x 6).toNat : Int)) ∧ w = w' := by
  have hx := u32_lt x
  go_enter Tryd.func78, Tryd.ntmps78
  go_wp2
  go_ret
  refine ⟨ret_u32 ?_, rfl⟩
  rw [u_shl26, u_shr6, u_or]
  rfl
theorem rot7 (x : UInt32) (w : World) : Calls Tryd.prog 80 #[.int .u32 (x.toNat : Int), .int .i64 (-7)] w fun r w' => r = .returned (.int .u32 ((Sha.rotr x 7).toNat : Int)) ∧ w = w' := by
  have e1 : IntKind.u64.wrap (-7) = 18446744073709551609 := by decide
  have e2 : bits .and .u64 18446744073709551609 31 = 25 := bits_and_u64_nat 18446744073709551609 31 (by decide) (by decide)
  have hx := u32_lt x
  go_enter Tryd.func80, Tryd.ntmps80
  go_wp2
  go_ret
  refine ⟨ret_u32 ?_, rfl⟩
  rw [u_shl25, u_shr7, u_or]
  rw [show Sha.rotr x 7 = x <<< 25 ||| x >>> 7 by unfold Sha.rotr; rw [UInt32.or_comm]; rfl]
theorem turn7 (x : UInt32) (w : World) : Calls Tryd.prog 78 #[.int .u32 (x.toNat : Int), .int .u64 7] w fun r w' => r = .returned (.int .u32 ((Sha.rotr x 7).toNat : Int)) ∧ w = w' := by
  have hx := u32_lt x
  go_enter Tryd.func78, Tryd.ntmps78
  go_wp2
  go_ret
  refine ⟨ret_u32 ?_, rfl⟩
  rw [u_shl25, u_shr7, u_or]
  rfl
theorem rot11 (x : UInt32) (w : World) : Calls Tryd.prog 80 #[.int .u32 (x.toNat : Int), .int .i64 (-11)] w fun r w' => r = .returned (.int .u32 ((Sha.rotr x 11).toNat : Int)) ∧ w = w' := by
  have e1 : IntKind.u64.wrap (-11) = 18446744073709551605 := by decide
  have e2 : bits .and .u64 18446744073709551605 31 = 21 := bits_and_u64_nat 18446744073709551605 31 (by decide) (by decide)
  have hx := u32_lt x
  go_enter Tryd.func80, Tryd.ntmps80
  go_wp2
  go_ret
  refine ⟨ret_u32 ?_, rfl⟩
  rw [u_shl21, u_shr11, u_or]
  rw [show Sha.rotr x 11 = x <<< 21 ||| x >>> 11 by unfold Sha.rotr; rw [UInt32.or_comm]; rfl]
theorem turn11 (x : UInt32) (w : World) : Calls Tryd.prog 78 #[.int .u32 (x.toNat : Int), .int .u64 11] w fun r w' => r = .returned (.int .u32 ((Sha.rotr x 11).toNat : Int)) ∧ w = w' := by
  have hx := u32_lt x
  go_enter Tryd.func78, Tryd.ntmps78
  go_wp2
  go_ret
  refine ⟨ret_u32 ?_, rfl⟩
  rw [u_shl21, u_shr11, u_or]
  rfl
theorem rot13 (x : UInt32) (w : World) : Calls Tryd.prog 80 #[.int .u32 (x.toNat : Int), .int .i64 (-13)] w fun r w' => r = .returned (.int .u32 ((Sha.rotr x 13).toNat : Int)) ∧ w = w' := by
  have e1 : IntKind.u64.wrap (-13) = 18446744073709551603 := by decide
  have e2 : bits .and .u64 18446744073709551603 31 = 19 := bits_and_u64_nat 18446744073709551603 31 (by decide) (by decide)
  have hx := u32_lt x
  go_enter Tryd.func80, Tryd.ntmps80
  go_wp2
  go_ret
  refine ⟨ret_u32 ?_, rfl⟩
  rw [u_shl19, u_shr13, u_or]
  rw [show Sha.rotr x 13 = x <<< 19 ||| x >>> 13 by unfold Sha.rotr; rw [UInt32.or_comm]; rfl]
theorem turn13 (x : UInt32) (w : World) : Calls Tryd.prog 78 #[.int .u32 (x.toNat : Int), .int .u64 13] w fun r w' => r = .returned (.int .u32 ((Sha.rotr x 13).toNat : Int)) ∧ w = w' := by
  have hx := u32_lt x
  go_enter Tryd.func78, Tryd.ntmps78
  go_wp2
  go_ret
  refine ⟨ret_u32 ?_, rfl⟩
  rw [u_shl19, u_shr13, u_or]
  rfl
theorem rot17 (x : UInt32) (w : World) : Calls Tryd.prog 80 #[.int .u32 (x.toNat : Int), .int .i64 (-17)] w fun r w' => r = .returned (.int .u32 ((Sha.rotr x 17).toNat : Int)) ∧ w = w' := by
  have e1 : IntKind.u64.wrap (-17) = 18446744073709551599 := by decide
  have e2 : bits .and .u64 18446744073709551599 31 = 15 := bits_and_u64_nat 18446744073709551599 31 (by decide) (by decide)
  have hx := u32_lt x
  go_enter Tryd.func80, Tryd.ntmps80
  go_wp2
  go_ret
  refine ⟨ret_u32 ?_, rfl⟩
  rw [u_shl15, u_shr17, u_or]
  rw [show Sha.rotr x 17 = x <<< 15 ||| x >>> 17 by unfold Sha.rotr; rw [UInt32.or_comm]; rfl]
theorem turn17 (x : UInt32) (w : World) : Calls Tryd.prog 78 #[.int .u32 (x.toNat : Int), .int .u64 17] w fun r w' => r = .returned (.int .u32 ((Sha.rotr x 17).toNat : Int)) ∧ w = w' := by
  have hx := u32_lt x
  go_enter Tryd.func78, Tryd.ntmps78
  go_wp2
  go_ret
  refine ⟨ret_u32 ?_, rfl⟩
  rw [u_shl15, u_shr17, u_or]
  rfl
theorem rot18 (x : UInt32) (w : World) : Calls Tryd.prog 80 #[.int .u32 (x.toNat : Int), .int .i64 (-18)] w fun r w' => r = .returned (.int .u32 ((Sha.rotr x 18).toNat : Int)) ∧ w = w' := by
  have e1 : IntKind.u64.wrap (-18) = 18446744073709551598 := by decide
  have e2 : bits .and .u64 18446744073709551598 31 = 14 := bits_and_u64_nat 18446744073709551598 31 (by decide) (by decide)
  have hx := u32_lt x
  go_enter Tryd.func80, Tryd.ntmps80
  go_wp2
  go_ret
  refine ⟨ret_u32 ?_, rfl⟩
  rw [u_shl14, u_shr18, u_or]
  rw [show Sha.rotr x 18 = x <<< 14 ||| x >>> 18 by unfold Sha.rotr; rw [UInt32.or_comm]; rfl]
theorem turn18 (x : UInt32) (w : World) : Calls Tryd.prog 78 #[.int .u32 (x.toNat : Int), .int .u64 18] w fun r w' => r = .returned (.int .u32 ((Sha.rotr x 18).toNat : Int)) ∧ w = w' := by
  have hx := u32_lt x
  go_enter Tryd.func78, Tryd.ntmps78
  go_wp2
  go_ret
  refine ⟨ret_u32 ?_, rfl⟩
  rw [u_shl14, u_shr18, u_or]
  rfl
theorem rot19 (x : UInt32) (w : World) : Calls Tryd.prog 80 #[.int .u32 (x.toNat : Int), .int .i64 (-19)] w fun r w' => r = .returned (.int .u32 ((Sha.rotr x 19).toNat : Int)) ∧ w = w' := by
  have e1 : IntKind.u64.wrap (-19) = 18446744073709551597 := by decide
  have e2 : bits .and .u64 18446744073709551597 31 = 13 := bits_and_u64_nat 18446744073709551597 31 (by decide) (by decide)
  have hx := u32_lt x
  go_enter Tryd.func80, Tryd.ntmps80
  go_wp2
  go_ret
  refine ⟨ret_u32 ?_, rfl⟩
  rw [u_shl13, u_shr19, u_or]
  rw [show Sha.rotr x 19 = x <<< 13 ||| x >>> 19 by unfold Sha.rotr; rw [UInt32.or_comm]; rfl]
theorem turn19 (x : UInt32) (w : World) : Calls Tryd.prog 78 #[.int .u32 (x.toNat : Int), .int .u64 19] w fun r w' => r = .returned (.int .u32 ((Sha.rotr x 19).toNat : Int)) ∧ w = w' := by
  have hx := u32_lt x
  go_enter Tryd.func78, Tryd.ntmps78
  go_wp2
  go_ret
  refine ⟨ret_u32 ?_, rfl⟩
  rw [u_shl13, u_shr19, u_or]
  rfl
theorem rot22 (x : UInt32) (w : World) : Calls Tryd.prog 80 #[.int .u32 (x.toNat : Int), .int .i64 (-22)] w fun r w' => r = .returned (.int .u32 ((Sha.rotr x 22).toNat : Int)) ∧ w = w' := by
  have e1 : IntKind.u64.wrap (-22) = 18446744073709551594 := by decide
  have e2 : bits .and .u64 18446744073709551594 31 = 10 := bits_and_u64_nat 18446744073709551594 31 (by decide) (by decide)
  have hx := u32_lt x
  go_enter Tryd.func80, Tryd.ntmps80
  go_wp2
  go_ret
  refine ⟨ret_u32 ?_, rfl⟩
  rw [u_shl10, u_shr22, u_or]
  rw [show Sha.rotr x 22 = x <<< 10 ||| x >>> 22 by unfold Sha.rotr; rw [UInt32.or_comm]; rfl]
theorem turn22 (x : UInt32) (w : World) : Calls Tryd.prog 78 #[.int .u32 (x.toNat : Int), .int .u64 22] w fun r w' => r = .returned (.int .u32 ((Sha.rotr x 22).toNat : Int)) ∧ w = w' := by
  have hx := u32_lt x
  go_enter Tryd.func78, Tryd.ntmps78
  go_wp2
  go_ret
  refine ⟨ret_u32 ?_, rfl⟩
  rw [u_shl10, u_shr22, u_or]
  rfl
theorem rot25 (x : UInt32) (w : World) : Calls Tryd.prog 80 #[.int .u32 (x.toNat : Int), .int .i64 (-25)] w fun r w' => r = .returned (.int .u32 ((Sha.rotr x 25).toNat : Int)) ∧ w = w' := by
  have e1 : IntKind.u64.wrap (-25) = 18446744073709551591 := by decide
  have e2 : bits .and .u64 18446744073709551591 31 = 7 := bits_and_u64_nat 18446744073709551591 31 (by decide) (by decide)
  have hx := u32_lt x
  go_enter Tryd.func80, Tryd.ntmps80
  go_wp2
  go_ret
  refine ⟨ret_u32 ?_, rfl⟩
  rw [u_shl7, u_shr25, u_or]
  rw [show Sha.rotr x 25 = x <<< 7 ||| x >>> 25 by unfold Sha.rotr; rw [UInt32.or_comm]; rfl]
theorem turn25 (x : UInt32) (w : World) : Calls Tryd.prog 78 #[.int .u32 (x.toNat : Int), .int .u64 25] w fun r w' => r = .returned (.int .u32 ((Sha.rotr x 25).toNat : Int)) ∧ w = w' := by
  have hx := u32_lt x
  go_enter Tryd.func78, Tryd.ntmps78
  go_wp2
  go_ret
  refine ⟨ret_u32 ?_, rfl⟩
  rw [u_shl7, u_shr25, u_or]
  rfl
end Go.Proofs.YtacbibflhdmcoaaDoor
