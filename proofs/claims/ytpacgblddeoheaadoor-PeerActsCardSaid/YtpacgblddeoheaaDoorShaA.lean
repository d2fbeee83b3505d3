/- ShaA, merged: Sha, ShaBits, ShaWord, Sha2. -/
import Derived.Test.YtpacgblddeoheaaDoorBase
import Derived.Laws.Bits64
import Derived.Laws.Bits64b
import Derived.Laws.BitsLemmas
import Derived.BigRegion
/- Sums of 256 bits, in plain Lean: blocks, paddings, sums; the two ways in which they are reckoned. -/
set_option linter.unusedVariables false
set_option linter.unusedSimpArgs false
namespace Go.Proofs.YtpacgblddeoheaaDoor.Sha
def rotr (x n : UInt32) : UInt32 := x >>> n ||| x <<< (32 - n)
def sig0 (x : UInt32) : UInt32 := rotr x 7 ^^^ rotr x 18 ^^^ x >>> 3
def sig1 (x : UInt32) : UInt32 := rotr x 17 ^^^ rotr x 19 ^^^ x >>> 10
def Sig0 (a : UInt32) : UInt32 := rotr a 2 ^^^ rotr a 13 ^^^ rotr a 22
def Sig1 (e : UInt32) : UInt32 := rotr e 6 ^^^ rotr e 11 ^^^ rotr e 25
def ch (e f g : UInt32) : UInt32 := (e &&& f) ^^^ (~~~e &&& g)
def maj (a b c : UInt32) : UInt32 := (a &&& b) ^^^ (a &&& c) ^^^ (b &&& c)
def consts : List UInt32 := [0x428a2f98, 0x71374491, 0xb5c0fbcf, 0xe9b5dba5, 0x3956c25b, 0x59f111f1, 0x923f82a4, 0xab1c5ed5, 0xd807aa98, 0x12835b01, 0x243185be, 0x550c7dc3, 0x72be5d74, 0x80deb1fe, 0x9bdc06a7, 0xc19bf174, 0xe49b69c1, 0xefbe4786, 0x0fc19dc6, 0x240ca1cc, 0x2de92c6f, 0x4a7484aa, 0x5cb0a9dc, 0x76f988da, 0x983e5152, 0xa831c66d, 0xb00327c8, 0xbf597fc7, 0xc6e00bf3, 0xd5a79147, 0x06ca6351, 0x14292967, 0x27b70a85, 0x2e1b2138, 0x4d2c6dfc, 0x53380d13, 0x650a7354, 0x766a0abb, 0x81c2c92e, 0x92722c85, 0xa2bfe8a1, 0xa81a664b, 0xc24b8b70, 0xc76c51a3, 0xd192e819, 0xd6990624, 0xf40e3585, 0x106aa070, 0x19a4c116, 0x1e376c08, 0x2748774c, 0x34b0bcb5, 0x391c0cb3, 0x4ed8aa4a, 0x5b9cca4f, 0x682e6ff3, 0x748f82ee, 0x78a5636f, 0x84c87814, 0x8cc70208, 0x90befffa, 0xa4506ceb, 0xbef9a3f7, 0xc67178f2]
structure St where
  a : UInt32
  b : UInt32
  c : UInt32
  d : UInt32
  e : UInt32
  f : UInt32
  g : UInt32
  h : UInt32
def first : St := ⟨0x6a09e667, 0xbb67ae85, 0x3c6ef372, 0xa54ff53a, 0x510e527f, 0x9b05688c, 0x1f83d9ab, 0x5be0cd19⟩
def St.list (s : St) : List UInt32 := [s.a, s.b, s.c, s.d, s.e, s.f, s.g, s.h]
def St.add (s v : St) : St := ⟨s.a + v.a, s.b + v.b, s.c + v.c, s.d + v.d, s.e + v.e, s.f + v.f, s.g + v.g, s.h + v.h⟩
/-- one round -/
def round (v : St) (k w : UInt32) : St :=
  let p := v.h + Sig1 v.e + ch v.e v.f v.g + k + w
  let q := Sig0 v.a + maj v.a v.b v.c
  ⟨p + q, v.a, v.b, v.c, v.d + p, v.e, v.f, v.g⟩
/-- the t-th of sixteen numbers of a block -/
def word16 (b : List UInt8) (t : Nat) : UInt32 :=
  (b.getD (4 * t) 0).toUInt32 <<< 24 ||| (b.getD (4 * t + 1) 0).toUInt32 <<< 16 ||| (b.getD (4 * t + 2) 0).toUInt32 <<< 8 ||| (b.getD (4 * t + 3) 0).toUInt32
/-- the schedule: its first t numbers -/
def sched (b : List UInt8) : Nat → List UInt32
  | 0 => []
  | t + 1 => let l := sched b t
    l ++ [if t < 16 then word16 b t else sig1 (l.getD (t - 2) 0) + l.getD (t - 7) 0 + sig0 (l.getD (t - 15) 0) + l.getD (t - 16) 0]
def W (b : List UInt8) (t : Nat) : UInt32 := (sched b (t + 1)).getD t 0
def rounds (s : St) (ws : List UInt32) : Nat → St
  | 0 => s
  | t + 1 => round (rounds s ws t) (consts.getD t 0) (ws.getD t 0)
def block (s : St) (b : List UInt8) : St := s.add (rounds s (sched b 64) 64)
/-- as many whole blocks as there are -/
def blocks (s : St) (l : List UInt8) : Nat → St
  | 0 => s
  | n + 1 => block (blocks s l n) ((l.drop (64 * n)).take 64)
/-- the padding of so many bytes -/
def pad (n : Nat) : List UInt8 := 128 :: List.replicate ((119 - n % 64) % 64) 0 ++ (List.range 8).map fun i => UInt8.ofNat (n * 8 / 2 ^ (56 - 8 * i))
def be (x : UInt32) : List UInt8 := [(x >>> 24).toUInt8, (x >>> 16).toUInt8, (x >>> 8).toUInt8, x.toUInt8]
def sum (l : List UInt8) : List UInt8 :=
  let m := l ++ pad l.length
  (blocks first m (m.length / 64)).list.flatMap be
def twice (l : List UInt8) : List UInt8 := sum (sum l)
def check (l : List UInt8) : UInt32 :=
  let h := twice l
  (h.getD 0 0).toUInt32 ||| (h.getD 1 0).toUInt32 <<< 8 ||| (h.getD 2 0).toUInt32 <<< 16 ||| (h.getD 3 0).toUInt32 <<< 24
theorem check_nil : check [] = 0xe2e0f65d := by decide +kernel
end Go.Proofs.YtpacgblddeoheaaDoor.Sha
/- Walks of package sha: turns, words. -/
namespace Go.Proofs.YtpacgblddeoheaaDoor
open Go.RowKit Go.Deep
set_option linter.unusedVariables false
set_option linter.unusedSimpArgs false
set_option maxRecDepth 100000
attribute [local go_sem ↓] Go.wp_at_zero Go.wp_at_succ
def u32V (x : UInt32) : Value := .int .u32 (x.toNat : Int)
theorem u32_lt (x : UInt32) : x.toNat < 4294967296 := x.toNat_lt
theorem u32_wrap (n : Int) : IntKind.u32.wrap n = n % 4294967296 := by rw [IntKind.wrap_u32]
theorem bits_u32_xor (a b : Nat) (ha : a < 4294967296) (hb : b < 4294967296) : bits .xor .u32 (a : Int) (b : Int) = ((a ^^^ b : Nat) : Int) := by
  have h : a ^^^ b < 4294967296 := Nat.xor_lt_two_pow (n := 32) ha hb
  have e1 : a % 2 ^ IntKind.u32.bits = a := Nat.mod_eq_of_lt ha
  have e2 : b % 2 ^ IntKind.u32.bits = b := Nat.mod_eq_of_lt hb
  simp only [bits, BitVec.ofInt_natCast, BitVec.toNat_xor, BitVec.toNat_ofNat, e1, e2]
  rw [u32_wrap]
  omega
theorem ret_u32 {a b : Int} (h : a = b) : Ending.returned (.int .u32 a) = .returned (.int .u32 b) := by rw [h]
theorem u_xor (a b : UInt32) : bits .xor .u32 (a.toNat : Int) (b.toNat : Int) = ((a ^^^ b).toNat : Int) := by
  rw [UInt32.toNat_xor]; exact bits_u32_xor _ _ (u32_lt a) (u32_lt b)
theorem u_and (a b : UInt32) : bits .and .u32 (a.toNat : Int) (b.toNat : Int) = ((a &&& b).toNat : Int) := by
  rw [UInt32.toNat_and]; exact (bits_nat .u32 32 (by decide) (fun n h0 h1 => by rw [u32_wrap]; omega) a.toNat b.toNat (u32_lt a) (u32_lt b)).1
theorem u_or (a b : UInt32) : bits .or .u32 (a.toNat : Int) (b.toNat : Int) = ((a ||| b).toNat : Int) := by
  rw [UInt32.toNat_or]; exact (bits_nat .u32 32 (by decide) (fun n h0 h1 => by rw [u32_wrap]; omega) a.toNat b.toNat (u32_lt a) (u32_lt b)).2
theorem u_add (a b : UInt32) : ((a.toNat : Int) + (b.toNat : Int)) % 4294967296 = ((a + b).toNat : Int) := by
  rw [UInt32.toNat_add]; omega
theorem u_addw (a b : UInt32) : IntKind.u32.wrap ((a.toNat : Int) + (b.toNat : Int)) = ((a + b).toNat : Int) := by
  rw [u32_wrap, u_add]
theorem u_shl7 (x : UInt32) : (x.toNat : Int) * (128 : Int) % (4294967296 : Int) = ((x <<< 7).toNat : Int) := by
  rw [UInt32.toNat_shiftLeft]; simp [Nat.shiftLeft_eq]
theorem u_shl8 (x : UInt32) : (x.toNat : Int) * (256 : Int) % (4294967296 : Int) = ((x <<< 8).toNat : Int) := by
  rw [UInt32.toNat_shiftLeft]; simp [Nat.shiftLeft_eq]
theorem u_shl10 (x : UInt32) : (x.toNat : Int) * (1024 : Int) % (4294967296 : Int) = ((x <<< 10).toNat : Int) := by
  rw [UInt32.toNat_shiftLeft]; simp [Nat.shiftLeft_eq]
theorem u_shl13 (x : UInt32) : (x.toNat : Int) * (8192 : Int) % (4294967296 : Int) = ((x <<< 13).toNat : Int) := by
  rw [UInt32.toNat_shiftLeft]; simp [Nat.shiftLeft_eq]
theorem u_shl14 (x : UInt32) : (x.toNat : Int) * (16384 : Int) % (4294967296 : Int) = ((x <<< 14).toNat : Int) := by
  rw [UInt32.toNat_shiftLeft]; simp [Nat.shiftLeft_eq]
theorem u_shl15 (x : UInt32) : (x.toNat : Int) * (32768 : Int) % (4294967296 : Int) = ((x <<< 15).toNat : Int) := by
  rw [UInt32.toNat_shiftLeft]; simp [Nat.shiftLeft_eq]
theorem u_shl16 (x : UInt32) : (x.toNat : Int) * (65536 : Int) % (4294967296 : Int) = ((x <<< 16).toNat : Int) := by
  rw [UInt32.toNat_shiftLeft]; simp [Nat.shiftLeft_eq]
theorem u_shl19 (x : UInt32) : (x.toNat : Int) * (524288 : Int) % (4294967296 : Int) = ((x <<< 19).toNat : Int) := by
  rw [UInt32.toNat_shiftLeft]; simp [Nat.shiftLeft_eq]
theorem u_shl21 (x : UInt32) : (x.toNat : Int) * (2097152 : Int) % (4294967296 : Int) = ((x <<< 21).toNat : Int) := by
  rw [UInt32.toNat_shiftLeft]; simp [Nat.shiftLeft_eq]
theorem u_shl24 (x : UInt32) : (x.toNat : Int) * (16777216 : Int) % (4294967296 : Int) = ((x <<< 24).toNat : Int) := by
  rw [UInt32.toNat_shiftLeft]; simp [Nat.shiftLeft_eq]
theorem u_shl25 (x : UInt32) : (x.toNat : Int) * (33554432 : Int) % (4294967296 : Int) = ((x <<< 25).toNat : Int) := by
  rw [UInt32.toNat_shiftLeft]; simp [Nat.shiftLeft_eq]
theorem u_shl26 (x : UInt32) : (x.toNat : Int) * (67108864 : Int) % (4294967296 : Int) = ((x <<< 26).toNat : Int) := by
  rw [UInt32.toNat_shiftLeft]; simp [Nat.shiftLeft_eq]
theorem u_shl30 (x : UInt32) : (x.toNat : Int) * (1073741824 : Int) % (4294967296 : Int) = ((x <<< 30).toNat : Int) := by
  rw [UInt32.toNat_shiftLeft]; simp [Nat.shiftLeft_eq]
theorem u_shr2 (x : UInt32) : (x.toNat : Int) / (4 : Int) = ((x >>> 2).toNat : Int) := by
  rw [UInt32.toNat_shiftRight]; simp [Nat.shiftRight_eq_div_pow]
theorem u_shr3 (x : UInt32) : (x.toNat : Int) / (8 : Int) = ((x >>> 3).toNat : Int) := by
  rw [UInt32.toNat_shiftRight]; simp [Nat.shiftRight_eq_div_pow]
theorem u_shr6 (x : UInt32) : (x.toNat : Int) / (64 : Int) = ((x >>> 6).toNat : Int) := by
  rw [UInt32.toNat_shiftRight]; simp [Nat.shiftRight_eq_div_pow]
theorem u_shr7 (x : UInt32) : (x.toNat : Int) / (128 : Int) = ((x >>> 7).toNat : Int) := by
  rw [UInt32.toNat_shiftRight]; simp [Nat.shiftRight_eq_div_pow]
theorem u_shr8 (x : UInt32) : (x.toNat : Int) / (256 : Int) = ((x >>> 8).toNat : Int) := by
  rw [UInt32.toNat_shiftRight]; simp [Nat.shiftRight_eq_div_pow]
theorem u_shr10 (x : UInt32) : (x.toNat : Int) / (1024 : Int) = ((x >>> 10).toNat : Int) := by
  rw [UInt32.toNat_shiftRight]; simp [Nat.shiftRight_eq_div_pow]
theorem u_shr11 (x : UInt32) : (x.toNat : Int) / (2048 : Int) = ((x >>> 11).toNat : Int) := by
  rw [UInt32.toNat_shiftRight]; simp [Nat.shiftRight_eq_div_pow]
theorem u_shr13 (x : UInt32) : (x.toNat : Int) / (8192 : Int) = ((x >>> 13).toNat : Int) := by
  rw [UInt32.toNat_shiftRight]; simp [Nat.shiftRight_eq_div_pow]
theorem u_shr16 (x : UInt32) : (x.toNat : Int) / (65536 : Int) = ((x >>> 16).toNat : Int) := by
  rw [UInt32.toNat_shiftRight]; simp [Nat.shiftRight_eq_div_pow]
theorem u_shr17 (x : UInt32) : (x.toNat : Int) / (131072 : Int) = ((x >>> 17).toNat : Int) := by
  rw [UInt32.toNat_shiftRight]; simp [Nat.shiftRight_eq_div_pow]
theorem u_shr18 (x : UInt32) : (x.toNat : Int) / (262144 : Int) = ((x >>> 18).toNat : Int) := by
  rw [UInt32.toNat_shiftRight]; simp [Nat.shiftRight_eq_div_pow]
theorem u_shr19 (x : UInt32) : (x.toNat : Int) / (524288 : Int) = ((x >>> 19).toNat : Int) := by
  rw [UInt32.toNat_shiftRight]; simp [Nat.shiftRight_eq_div_pow]
theorem u_shr22 (x : UInt32) : (x.toNat : Int) / (4194304 : Int) = ((x >>> 22).toNat : Int) := by
  rw [UInt32.toNat_shiftRight]; simp [Nat.shiftRight_eq_div_pow]
theorem u_shr24 (x : UInt32) : (x.toNat : Int) / (16777216 : Int) = ((x >>> 24).toNat : Int) := by
  rw [UInt32.toNat_shiftRight]; simp [Nat.shiftRight_eq_div_pow]
theorem u_shr25 (x : UInt32) : (x.toNat : Int) / (33554432 : Int) = ((x >>> 25).toNat : Int) := by
  rw [UInt32.toNat_shiftRight]; simp [Nat.shiftRight_eq_div_pow]
theorem rot2 (x : UInt32) (w : World) : Calls Tryd.prog 114 #[.int .u32 (x.toNat : Int), .int .i64 (-2)] w fun r w' => r = .returned (.int .u32 ((Sha.rotr x 2).toNat : Int)) ∧ w = w' := by
  have e1 : IntKind.u64.wrap (-2) = 18446744073709551614 := by decide
  have e2 : bits .and .u64 18446744073709551614 31 = 30 := bits_and_u64_nat 18446744073709551614 31 (by decide) (by decide)
  have hx := u32_lt x
  go_enter Tryd.func114, Tryd.ntmps114
  go_wp2
  go_ret
  refine ⟨ret_u32 ?_, rfl⟩
  rw [u_shl30, u_shr2, u_or]
  rw [show Sha.rotr x 2 = x <<< 30 ||| x >>> 2 by unfold Sha.rotr; rw [UInt32.or_comm]; rfl]
theorem turn2 (x : UInt32) (w : World) : Calls Tryd.prog 112 #[.int .u32 (x.toNat : Int), .int .u64 2] w fun r w' => r = .returned (.int .u32 ((Sha.rotr x 2).toNat : Int)) ∧ w = w' := by
  have hx := u32_lt x
  go_enter Tryd.func112, Tryd.ntmps112
  go_wp2
  go_ret
  refine ⟨ret_u32 ?_, rfl⟩
  rw [u_shl30, u_shr2, u_or]
  rfl
theorem rot6 (x : UInt32) (w : World) : Calls Tryd.prog 114 #[.int .u32 (x.toNat : Int), .int .i64 (-6)] w fun r w' => r = .returned (.int .u32 ((Sha.rotr x 6).toNat : Int)) ∧ w = w' := by
  have e1 : IntKind.u64.wrap (-6) = 18446744073709551610 := by decide
  have e2 : bits .and .u64 18446744073709551610 31 = 26 := bits_and_u64_nat 18446744073709551610 31 (by decide) (by decide)
  have hx := u32_lt x
  go_enter Tryd.func114, Tryd.ntmps114
  go_wp2
  go_ret
  refine ⟨ret_u32 ?_, rfl⟩
  rw [u_shl26, u_shr6, u_or]
  rw [show Sha.rotr x 6 = x <<< 26 ||| x >>> 6 by unfold Sha.rotr; rw [UInt32.or_comm]; rfl]
theorem turn6 (x : UInt32) (w : World) : Calls Tryd.prog 112 #[.int .u32 (x.toNat : Int), .int .u64 6] w fun r w' => r = .returned (.int .u32 ((Sha.rotr x 6).toNat : Int)) ∧ w = w' := by
  have hx := u32_lt x
  go_enter Tryd.func112, Tryd.ntmps112
  go_wp2
  go_ret
  refine ⟨ret_u32 ?_, rfl⟩
  rw [u_shl26, u_shr6, u_or]
  rfl
theorem rot7 (x : UInt32) (w : World) : Calls Tryd.prog 114 #[.int .u32 (x.toNat : Int), .int .i64 (-7)] w fun r w' => r = .returned (.int .u32 ((Sha.rotr x 7).toNat : Int)) ∧ w = w' := by
  have e1 : IntKind.u64.wrap (-7) = 18446744073709551609 := by decide
  have e2 : bits .and .u64 18446744073709551609 31 = 25 := bits_and_u64_nat 18446744073709551609 31 (by decide) (by decide)
  have hx := u32_lt x
  go_enter Tryd.func114, Tryd.ntmps114
  go_wp2
  go_ret
  refine ⟨ret_u32 ?_, rfl⟩
  rw [u_shl25, u_shr7, u_or]
  rw [show Sha.rotr x 7 = x <<< 25 ||| x >>> 7 by unfold Sha.rotr; rw [UInt32.or_comm]; rfl]
theorem turn7 (x : UInt32) (w : World) : Calls Tryd.prog 112 #[.int .u32 (x.toNat : Int), .int .u64 7] w fun r w' => r = .returned (.int .u32 ((Sha.rotr x 7).toNat : Int)) ∧ w = w' := by
  have hx := u32_lt x
  go_enter Tryd.func112, Tryd.ntmps112
  go_wp2
  go_ret
  refine ⟨ret_u32 ?_, rfl⟩
  rw [u_shl25, u_shr7, u_or]
  rfl
theorem rot11 (x : UInt32) (w : World) : Calls Tryd.prog 114 #[.int .u32 (x.toNat : Int), .int .i64 (-11)] w fun r w' => r = .returned (.int .u32 ((Sha.rotr x 11).toNat : Int)) ∧ w = w' := by
  have e1 : IntKind.u64.wrap (-11) = 18446744073709551605 := by decide
  have e2 : bits .and .u64 18446744073709551605 31 = 21 := bits_and_u64_nat 18446744073709551605 31 (by decide) (by decide)
  have hx := u32_lt x
  go_enter Tryd.func114, Tryd.ntmps114
  go_wp2
  go_ret
  refine ⟨ret_u32 ?_, rfl⟩
  rw [u_shl21, u_shr11, u_or]
  rw [show Sha.rotr x 11 = x <<< 21 ||| x >>> 11 by unfold Sha.rotr; rw [UInt32.or_comm]; rfl]
theorem turn11 (x : UInt32) (w : World) : Calls Tryd.prog 112 #[.int .u32 (x.toNat : Int), .int .u64 11] w fun r w' => r = .returned (.int .u32 ((Sha.rotr x 11).toNat : Int)) ∧ w = w' := by
  have hx := u32_lt x
  go_enter Tryd.func112, Tryd.ntmps112
  go_wp2
  go_ret
  refine ⟨ret_u32 ?_, rfl⟩
  rw [u_shl21, u_shr11, u_or]
  rfl
theorem rot13 (x : UInt32) (w : World) : Calls Tryd.prog 114 #[.int .u32 (x.toNat : Int), .int .i64 (-13)] w fun r w' => r = .returned (.int .u32 ((Sha.rotr x 13).toNat : Int)) ∧ w = w' := by
  have e1 : IntKind.u64.wrap (-13) = 18446744073709551603 := by decide
  have e2 : bits .and .u64 18446744073709551603 31 = 19 := bits_and_u64_nat 18446744073709551603 31 (by decide) (by decide)
  have hx := u32_lt x
  go_enter Tryd.func114, Tryd.ntmps114
  go_wp2
  go_ret
  refine ⟨ret_u32 ?_, rfl⟩
  rw [u_shl19, u_shr13, u_or]
  rw [show Sha.rotr x 13 = x <<< 19 ||| x >>> 13 by unfold Sha.rotr; rw [UInt32.or_comm]; rfl]
theorem turn13 (x : UInt32) (w : World) : Calls Tryd.prog 112 #[.int .u32 (x.toNat : Int), .int .u64 13] w fun r w' => r = .returned (.int .u32 ((Sha.rotr x 13).toNat : Int)) ∧ w = w' := by
  have hx := u32_lt x
  go_enter Tryd.func112, Tryd.ntmps112
  go_wp2
  go_ret
  refine ⟨ret_u32 ?_, rfl⟩
  rw [u_shl19, u_shr13, u_or]
  rfl
theorem rot17 (x : UInt32) (w : World) : Calls Tryd.prog 114 #[.int .u32 (x.toNat : Int), .int .i64 (-17)] w fun r w' => r = .returned (.int .u32 ((Sha.rotr x 17).toNat : Int)) ∧ w = w' := by
  have e1 : IntKind.u64.wrap (-17) = 18446744073709551599 := by decide
  have e2 : bits .and .u64 18446744073709551599 31 = 15 := bits_and_u64_nat 18446744073709551599 31 (by decide) (by decide)
  have hx := u32_lt x
  go_enter Tryd.func114, Tryd.ntmps114
  go_wp2
  go_ret
  refine ⟨ret_u32 ?_, rfl⟩
  rw [u_shl15, u_shr17, u_or]
  rw [show Sha.rotr x 17 = x <<< 15 ||| x >>> 17 by unfold Sha.rotr; rw [UInt32.or_comm]; rfl]
theorem turn17 (x : UInt32) (w : World) : Calls Tryd.prog 112 #[.int .u32 (x.toNat : Int), .int .u64 17] w fun r w' => r = .returned (.int .u32 ((Sha.rotr x 17).toNat : Int)) ∧ w = w' := by
  have hx := u32_lt x
  go_enter Tryd.func112, Tryd.ntmps112
  go_wp2
  go_ret
  refine ⟨ret_u32 ?_, rfl⟩
  rw [u_shl15, u_shr17, u_or]
  rfl
theorem rot18 (x : UInt32) (w : World) : Calls Tryd.prog 114 #[.int .u32 (x.toNat : Int), .int .i64 (-18)] w fun r w' => r = .returned (.int .u32 ((Sha.rotr x 18).toNat : Int)) ∧ w = w' := by
  have e1 : IntKind.u64.wrap (-18) = 18446744073709551598 := by decide
  have e2 : bits .and .u64 18446744073709551598 31 = 14 := bits_and_u64_nat 18446744073709551598 31 (by decide) (by decide)
  have hx := u32_lt x
  go_enter Tryd.func114, Tryd.ntmps114
  go_wp2
  go_ret
  refine ⟨ret_u32 ?_, rfl⟩
  rw [u_shl14, u_shr18, u_or]
  rw [show Sha.rotr x 18 = x <<< 14 ||| x >>> 18 by unfold Sha.rotr; rw [UInt32.or_comm]; rfl]
theorem turn18 (x : UInt32) (w : World) : Calls Tryd.prog 112 #[.int .u32 (x.toNat : Int), .int .u64 18] w fun r w' => r = .returned (.int .u32 ((Sha.rotr x 18).toNat : Int)) ∧ w = w' := by
  have hx := u32_lt x
  go_enter Tryd.func112, Tryd.ntmps112
  go_wp2
  go_ret
  refine ⟨ret_u32 ?_, rfl⟩
  rw [u_shl14, u_shr18, u_or]
  rfl
theorem rot19 (x : UInt32) (w : World) : Calls Tryd.prog 114 #[.int .u32 (x.toNat : Int), .int .i64 (-19)] w fun r w' => r = .returned (.int .u32 ((Sha.rotr x 19).toNat : Int)) ∧ w = w' := by
  have e1 : IntKind.u64.wrap (-19) = 18446744073709551597 := by decide
  have e2 : bits .and .u64 18446744073709551597 31 = 13 := bits_and_u64_nat 18446744073709551597 31 (by decide) (by decide)
  have hx := u32_lt x
  go_enter Tryd.func114, Tryd.ntmps114
  go_wp2
  go_ret
  refine ⟨ret_u32 ?_, rfl⟩
  rw [u_shl13, u_shr19, u_or]
  rw [show Sha.rotr x 19 = x <<< 13 ||| x >>> 19 by unfold Sha.rotr; rw [UInt32.or_comm]; rfl]
theorem turn19 (x : UInt32) (w : World) : Calls Tryd.prog 112 #[.int .u32 (x.toNat : Int), .int .u64 19] w fun r w' => r = .returned (.int .u32 ((Sha.rotr x 19).toNat : Int)) ∧ w = w' := by
  have hx := u32_lt x
  go_enter Tryd.func112, Tryd.ntmps112
  go_wp2
  go_ret
  refine ⟨ret_u32 ?_, rfl⟩
  rw [u_shl13, u_shr19, u_or]
  rfl
theorem rot22 (x : UInt32) (w : World) : Calls Tryd.prog 114 #[.int .u32 (x.toNat : Int), .int .i64 (-22)] w fun r w' => r = .returned (.int .u32 ((Sha.rotr x 22).toNat : Int)) ∧ w = w' := by
  have e1 : IntKind.u64.wrap (-22) = 18446744073709551594 := by decide
  have e2 : bits .and .u64 18446744073709551594 31 = 10 := bits_and_u64_nat 18446744073709551594 31 (by decide) (by decide)
  have hx := u32_lt x
  go_enter Tryd.func114, Tryd.ntmps114
  go_wp2
  go_ret
  refine ⟨ret_u32 ?_, rfl⟩
  rw [u_shl10, u_shr22, u_or]
  rw [show Sha.rotr x 22 = x <<< 10 ||| x >>> 22 by unfold Sha.rotr; rw [UInt32.or_comm]; rfl]
theorem turn22 (x : UInt32) (w : World) : Calls Tryd.prog 112 #[.int .u32 (x.toNat : Int), .int .u64 22] w fun r w' => r = .returned (.int .u32 ((Sha.rotr x 22).toNat : Int)) ∧ w = w' := by
  have hx := u32_lt x
  go_enter Tryd.func112, Tryd.ntmps112
  go_wp2
  go_ret
  refine ⟨ret_u32 ?_, rfl⟩
  rw [u_shl10, u_shr22, u_or]
  rfl
theorem rot25 (x : UInt32) (w : World) : Calls Tryd.prog 114 #[.int .u32 (x.toNat : Int), .int .i64 (-25)] w fun r w' => r = .returned (.int .u32 ((Sha.rotr x 25).toNat : Int)) ∧ w = w' := by
  have e1 : IntKind.u64.wrap (-25) = 18446744073709551591 := by decide
  have e2 : bits .and .u64 18446744073709551591 31 = 7 := bits_and_u64_nat 18446744073709551591 31 (by decide) (by decide)
  have hx := u32_lt x
  go_enter Tryd.func114, Tryd.ntmps114
  go_wp2
  go_ret
  refine ⟨ret_u32 ?_, rfl⟩
  rw [u_shl7, u_shr25, u_or]
  rw [show Sha.rotr x 25 = x <<< 7 ||| x >>> 25 by unfold Sha.rotr; rw [UInt32.or_comm]; rfl]
theorem turn25 (x : UInt32) (w : World) : Calls Tryd.prog 112 #[.int .u32 (x.toNat : Int), .int .u64 25] w fun r w' => r = .returned (.int .u32 ((Sha.rotr x 25).toNat : Int)) ∧ w = w' := by
  have hx := u32_lt x
  go_enter Tryd.func112, Tryd.ntmps112
  go_wp2
  go_ret
  refine ⟨ret_u32 ?_, rfl⟩
  rw [u_shl7, u_shr25, u_or]
  rfl
end Go.Proofs.YtpacgblddeoheaaDoor
/- Package sha: the numbers of a schedule, of which sixteen are kept. -/
namespace Go.Proofs.YtpacgblddeoheaaDoor.Sha
/-- the sixteen numbers behind the t-th -/
def ringNext (r : List UInt32) (t : Nat) : List UInt32 :=
  if t < 16 then r else r.set (t % 16) (r.getD (t % 16) 0 + (sig1 (r.getD ((t - 2) % 16) 0) + r.getD ((t - 7) % 16) 0 + sig0 (r.getD ((t - 15) % 16) 0)))
end Go.Proofs.YtpacgblddeoheaaDoor.Sha
namespace Go.Proofs.YtpacgblddeoheaaDoor
open Go.RowKit Go.Deep
set_option linter.unusedVariables false
set_option linter.unusedSimpArgs false
set_option maxRecDepth 100000
attribute [local go_sem ↓] Go.wp_at_zero Go.wp_at_succ
def u32Arr (l : List UInt32) : Array Value := (l.map u32V).toArray
theorem Bk.u32 {w : World} {g t : Nat} {l : List UInt32} (h : Bk w g t (u32Arr l)) {i : Nat} (hi : i < l.length) : w.cell? ⟨g, i, none⟩ = some (.int .u32 ((l.getD i 0).toNat : Int)) := by
  rw [h.cell]; simp [u32Arr, hi, u32V]
theorem Bk.setU32 {w : World} {g t : Nat} {l : List UInt32} (h : Bk w g t (u32Arr l)) (k : Nat) (c : UInt32) : Bk (w.setCell ⟨g, k, none⟩ (.int .u32 (c.toNat : Int))) g t (u32Arr (l.set k c)) := by
  have := h.set k (u32V c)
  rwa [show (u32Arr l).setIfInBounds k (u32V c) = u32Arr (l.set k c) by simp [u32Arr, List.map_set]] at this
theorem and15 (n m : Nat) (z : Int) (hz : z = (n : Int)) (hn : n < 1000) (hm : n % 16 = m) : bits .and .i64 z 15 = (m : Int) := by
  subst hz
  have := (bits_nat .i64 63 (by decide) (fun n h0 h1 => by rw [IntKind.wrap_i64]; omega) n 15 (by omega) (by decide)).1
  rw [show ((15 : Nat) : Int) = 15 by rfl] at this
  rw [this, show 15 = 2 ^ 4 - 1 by rfl, Nat.and_two_pow_sub_one_eq_mod, hm]
theorem u_add4 (a b c d : UInt32) : ((a.toNat : Int) + ((b.toNat : Int) + (c.toNat : Int) + (d.toNat : Int))) % 4294967296 = ((a + (b + c + d)).toNat : Int) := by
  simp only [UInt32.toNat_add]; omega
theorem word_low (g t : Nat) (r : List UInt32) (w : World) (hr : r.length = 16) (ht : t < 16) (h : Bk w g 212 (u32Arr r)) :
    Calls Tryd.prog 115 #[.pointer (some ⟨g, 0, none⟩), .int .i64 (t : Int)] w fun e w' => e = .returned (.int .u32 ((r.getD t 0).toNat : Int)) ∧ w = w' := by
  have c0 := h.u32 (i := t) (by omega)
  have e0 : bits .and .i64 (t : Int) 15 = (t : Int) := and15 t t _ rfl (by omega) (by omega)
  generalize r.getD t 0 = x at *
  clear h hr
  go_enter Tryd.func115, Tryd.ntmps115
  go_wp2
  go_ret
  exact ⟨rfl, rfl⟩
theorem word_high (g t : Nat) (r : List UInt32) (w : World) (hr : r.length = 16) (h16 : 16 ≤ t) (ht : t < 64) (h : Bk w g 212 (u32Arr r)) :
    Calls Tryd.prog 115 #[.pointer (some ⟨g, 0, none⟩), .int .i64 (t : Int)] w fun e w' => e = .returned (.int .u32 (((Sha.ringNext r t).getD (t % 16) 0).toNat : Int)) ∧ Bk w' g 212 (u32Arr (Sha.ringNext r t)) ∧ Kp (fun i => i = g) w w' := by
  have hgl := h.lt
  obtain ⟨i0, hi0⟩ : ∃ i, i = t % 16 := ⟨_, rfl⟩
  obtain ⟨i2, hi2⟩ : ∃ i, i = (t - 2) % 16 := ⟨_, rfl⟩
  obtain ⟨i7, hi7⟩ : ∃ i, i = (t - 7) % 16 := ⟨_, rfl⟩
  obtain ⟨i15, hi15⟩ : ∃ i, i = (t - 15) % 16 := ⟨_, rfl⟩
  have l0 : i0 < 16 := by omega
  have l2 : i2 < 16 := by omega
  have l7 : i7 < 16 := by omega
  have l15 : i15 < 16 := by omega
  have hne : i0 ≠ i7 := by omega
  have c0 := h.u32 (i := i0) (by omega)
  have c2 := h.u32 (i := i2) (by omega)
  have c7 := h.u32 (i := i7) (by omega)
  have c15 := h.u32 (i := i15) (by omega)
  have f0 : w.frozen? ⟨g, i0, none⟩ = false := h.frozen i0
  have e0 : bits .and .i64 (t : Int) 15 = (i0 : Int) := and15 t i0 _ rfl (by omega) hi0.symm
  have e2 : bits .and .i64 ((t : Int) - 2) 15 = (i2 : Int) := and15 (t - 2) i2 _ (by omega) (by omega) hi2.symm
  have e7 : bits .and .i64 ((t : Int) - 7) 15 = (i7 : Int) := and15 (t - 7) i7 _ (by omega) (by omega) hi7.symm
  have e15 : bits .and .i64 ((t : Int) - 15) 15 = (i15 : Int) := and15 (t - 15) i15 _ (by omega) (by omega) hi15.symm
  have HE := Lib.hid (show Sha.ringNext r t = r.set i0 (r.getD i0 0 + (Sha.sig1 (r.getD i2 0) + r.getD i7 0 + Sha.sig0 (r.getD i15 0))) by unfold Sha.ringNext; rw [if_neg (by omega), hi0, hi2, hi7, hi15])
  have HB := Lib.hid (h.setU32 i0 (r.getD i0 0 + (Sha.sig1 (r.getD i2 0) + r.getD i7 0 + Sha.sig0 (r.getD i15 0))))
  have HR := Lib.hid hr
  have HI := Lib.hid hi0
  obtain ⟨x0, hx0⟩ : ∃ x, x = r.getD i0 0 := ⟨_, rfl⟩
  obtain ⟨x2, hx2⟩ : ∃ x, x = r.getD i2 0 := ⟨_, rfl⟩
  obtain ⟨x7, hx7⟩ : ∃ x, x = r.getD i7 0 := ⟨_, rfl⟩
  obtain ⟨x15, hx15⟩ : ∃ x, x = r.getD i15 0 := ⟨_, rfl⟩
  rw [← hx0] at c0 HE HB
  rw [← hx2] at c2 HE HB
  rw [← hx7] at c7 HE HB
  rw [← hx15] at c15 HE HB
  clear h hr hi0 hi2 hi7 hi15 hx0 hx2 hx7 hx15
  have b0 : (0 : Int) ≤ (i0 : Int) ∧ (i0 : Int) < 16 := by omega
  have b2 : (0 : Int) ≤ (i2 : Int) ∧ (i2 : Int) < 16 := by omega
  have b7 : (0 : Int) ≤ (i7 : Int) ∧ (i7 : Int) < 16 := by omega
  have b15 : (0 : Int) ≤ (i15 : Int) ∧ (i15 : Int) < 16 := by omega
  obtain ⟨b01, b02⟩ := b0
  obtain ⟨b21, b22⟩ := b2
  obtain ⟨b71, b72⟩ := b7
  obtain ⟨b151, b152⟩ := b15
  go_enter Tryd.func115, Tryd.ntmps115
  go_wp2_with fail
  go_quiet (fail)
  go_wp2_with fail
  refine (rot17 _ _).mono ?_
  rintro e w' ⟨rfl, rfl⟩
  go_wp2_with fail
  refine (rot19 _ _).mono ?_
  rintro e w' ⟨rfl, rfl⟩
  go_wp2_with fail
  refine (rot7 _ _).mono ?_
  rintro e w' ⟨rfl, rfl⟩
  go_wp2_with fail
  refine (rot18 _ _).mono ?_
  rintro e w' ⟨rfl, rfl⟩
  go_wp2_with fail
  simp only [u_xor, u_shr3, u_shr10]
  have HY1 := Lib.hid (show Sha.sig1 x2 = Sha.rotr x2 17 ^^^ Sha.rotr x2 19 ^^^ x2 >>> 10 from rfl)
  have HY2 := Lib.hid (show Sha.sig0 x15 = Sha.rotr x15 7 ^^^ Sha.rotr x15 18 ^^^ x15 >>> 3 from rfl)
  generalize Sha.rotr x2 17 ^^^ Sha.rotr x2 19 ^^^ x2 >>> 10 = y1 at HY1 ⊢
  generalize Sha.rotr x15 7 ^^^ Sha.rotr x15 18 ^^^ x15 >>> 3 = y2 at HY2 ⊢
  rw [HY1.out, HY2.out] at HE HB
  have hgx := HB.out.cell i0
  have w7 : IntKind.i64.wrap ((t : Int) - 7) = (t : Int) - 7 := IntWalk.i64_in _ (by omega)
  clear HY1 HY2 c2 c15 e2 e15
  have d0 : (w.drewN nq).cell? ⟨g, i0, none⟩ = some (.int .u32 (x0.toNat : Int)) := c0
  have d7 : (w.drewN nq).cell? ⟨g, i7, none⟩ = some (.int .u32 (x7.toNat : Int)) := c7
  have df : (w.drewN nq).frozen? ⟨g, i0, none⟩ = false := f0
  have HB2 := Lib.hid (show Bk ((w.drewN nq).setCell ⟨g, i0, none⟩ (.int .u32 ((x0 + (y1 + x7 + y2)).toNat : Int))) g 212 _ from HB.out)
  have HK := Lib.hid (show Kp (fun i => i = g) w ((w.drewN nq).setCell ⟨g, i0, none⟩ (.int .u32 ((x0 + (y1 + x7 + y2)).toNat : Int))) from Kp.setCell (S := fun i => i = g) ((Kp.refl _ w).drewN nq) (fun _ => rfl) _)
  generalize w.drewN nq = w2 at *
  clear HB c0 c7 f0 hgx
  go_region
  go_wp2
  rw [u_add4]
  go_ret
  refine ⟨ret_u32 ?_, ?_, HK.out.drew⟩
  · rw [HE.out, ← HI.out]
    have := HR.out
    simp [this, l0]
  · rw [HE.out]; exact HB2.out.drew
end Go.Proofs.YtpacgblddeoheaaDoor
/- Sums of 256 bits, in plain Lean: what the program reckons otherwise than the document. -/
set_option linter.unusedVariables false
set_option linter.unusedSimpArgs false
namespace Go.Proofs.YtpacgblddeoheaaDoor.Sha
theorem ch_other (e f g : UInt32) : g ^^^ (e &&& (f ^^^ g)) = ch e f g := by
  unfold ch
  apply UInt32.toBitVec_inj.1
  simp only [UInt32.toBitVec_xor, UInt32.toBitVec_and, UInt32.toBitVec_not]
  ext i hi
  simp only [BitVec.getElem_xor, BitVec.getElem_and, BitVec.getElem_not]
  cases e.toBitVec[i] <;> cases f.toBitVec[i] <;> cases g.toBitVec[i] <;> rfl
theorem maj_other (a b c : UInt32) : (a &&& b) ||| (c &&& (a ||| b)) = maj a b c := by
  unfold maj
  apply UInt32.toBitVec_inj.1
  simp only [UInt32.toBitVec_xor, UInt32.toBitVec_and, UInt32.toBitVec_or]
  ext i hi
  simp only [BitVec.getElem_xor, BitVec.getElem_and, BitVec.getElem_or]
  cases a.toBitVec[i] <;> cases b.toBitVec[i] <;> cases c.toBitVec[i] <;> rfl
theorem or_shl (a b : UInt32) (k : UInt32) : (a ||| b) <<< k = a <<< k ||| b <<< k := by
  apply UInt32.toBitVec_inj.1
  simp only [UInt32.toBitVec_shiftLeft, UInt32.toBitVec_or]
  ext i hi
  simp [BitVec.shiftLeft_or_distrib]
theorem shl_shl (a : UInt32) (j k : UInt32) (h : j.toNat + k.toNat < 32) : (a <<< j) <<< k = a <<< (j + k) := by
  apply UInt32.toNat_inj.1
  have h1 : (j + k).toNat = j.toNat + k.toNat := by rw [UInt32.toNat_add]; omega
  simp only [UInt32.toNat_shiftLeft, h1, Nat.mod_eq_of_lt (show j.toNat < 32 by omega), Nat.mod_eq_of_lt (show k.toNat < 32 by omega), Nat.mod_eq_of_lt h]
  rw [Nat.shiftLeft_eq, Nat.shiftLeft_eq, Nat.shiftLeft_eq, Nat.pow_add, ← Nat.mul_assoc, Nat.mod_mul_mod]
/-- a number of a block, byte by byte -/
def acc (b : List UInt8) (j : Nat) : Nat → UInt32
  | 0 => 0
  | m + 1 => acc b j m <<< 8 ||| (b.getD (4 * j + m) 0).toUInt32
theorem acc_four (b : List UInt8) (j : Nat) : acc b j 4 = word16 b j := by
  have z : (0 : UInt32) <<< 8 = 0 := by decide
  have h16 : ∀ x : UInt32, x <<< 8 <<< 8 = x <<< 16 := fun x => shl_shl x 8 8 (by decide)
  have h24 : ∀ x : UInt32, x <<< 16 <<< 8 = x <<< 24 := fun x => shl_shl x 16 8 (by decide)
  simp only [acc, word16, or_shl, Nat.add_zero, z, UInt32.zero_or, h16, h24]
/-- the sixteen numbers, so many bytes being read -/
def fill (b : List UInt8) : Nat → List UInt32
  | 0 => List.replicate 16 0
  | i + 1 => (fill b i).set (i / 4) ((fill b i).getD (i / 4) 0 <<< 8 ||| (b.getD i 0).toUInt32)
theorem fill_len (b : List UInt8) (i : Nat) : (fill b i).length = 16 := by
  induction i with
  | zero => simp [fill]
  | succ i ih => simp [fill, ih]
theorem fill_get (b : List UInt8) (i : Nat) (hi : i ≤ 64) (j : Nat) (hj : j < 16) : (fill b i).getD j 0 = acc b j (min 4 (i - 4 * j)) := by
  induction i with
  | zero =>
    have e : (fill b 0).getD j 0 = 0 := by rw [fill, List.getD_eq_getElem?_getD, List.getElem?_replicate, if_pos hj]; rfl
    rw [e, show min 4 (0 - 4 * j) = 0 by omega]; rfl
  | succ i ih =>
    have ih := ih (by omega)
    have hl := fill_len b i
    rw [fill]
    by_cases h : i / 4 = j
    · have h4 : 4 * j ≤ i ∧ i < 4 * j + 4 := by omega
      have e1 : (fill b i).getD (i / 4) 0 = acc b j (i - 4 * j) := by rw [h, ih, Nat.min_eq_right (by omega)]
      rw [e1, show min 4 (i + 1 - 4 * j) = (i - 4 * j) + 1 by omega, acc, show 4 * j + (i - 4 * j) = i by omega]
      rw [← h]
      simp [show i / 4 < (fill b i).length by omega]
    · have : min 4 (i + 1 - 4 * j) = min 4 (i - 4 * j) := by omega
      rw [this, ← ih]
      simp [List.getD_eq_getElem?_getD, List.getElem?_set, h]
def ring (b : List UInt8) : Nat → List UInt32
  | 0 => fill b 64
  | t + 1 => ringNext (ring b t) t
/-- the t-th number of the schedule -/
theorem sched_len (b : List UInt8) (t : Nat) : (sched b t).length = t := by
  induction t with
  | zero => rfl
  | succ t ih => simp [sched, ih]
def Wt (b : List UInt8) (t : Nat) : UInt32 := (sched b (t + 1)).getD t 0
theorem sched_get (b : List UInt8) (n t : Nat) (h : t < n) : (sched b n).getD t 0 = Wt b t := by
  induction n with
  | zero => omega
  | succ n ih =>
    by_cases e : t = n
    · subst e; rfl
    · rw [← ih (by omega), sched]
      simp [List.getD_eq_getElem?_getD, List.getElem?_append, sched_len, show t < n by omega]
theorem Wt_low (b : List UInt8) (t : Nat) (h : t < 16) : Wt b t = word16 b t := by
  simp [Wt, sched, List.getD_eq_getElem?_getD, List.getElem?_append, sched_len, h]
theorem Wt_high (b : List UInt8) (t : Nat) (h : 16 ≤ t) : Wt b t = sig1 (Wt b (t - 2)) + Wt b (t - 7) + sig0 (Wt b (t - 15)) + Wt b (t - 16) := by
  rw [← sched_get b t (t - 2) (by omega), ← sched_get b t (t - 7) (by omega), ← sched_get b t (t - 15) (by omega), ← sched_get b t (t - 16) (by omega)]
  simp only [Wt, sched]
  rw [List.getD_eq_getElem?_getD, List.getElem?_append_right (by rw [sched_len]; omega), sched_len]
  simp [show ¬ t < 16 by omega]
theorem ring_len (b : List UInt8) (t : Nat) : (ring b t).length = 16 := by
  induction t with
  | zero => exact fill_len b 64
  | succ t ih => rw [ring, ringNext]; split <;> simp [ih]
theorem ring_get (b : List UInt8) (t : Nat) (j : Nat) (hj : j < 16) : (ring b t).getD j 0 = Wt b (if t ≤ 16 then j else t - 1 - (t - 1 - j) % 16) := by
  induction t generalizing j with
  | zero =>
    rw [if_pos (by omega), ring, fill_get b 64 (by omega) j hj, show min 4 (64 - 4 * j) = 4 by omega, acc_four, Wt_low b j hj]
  | succ t ih =>
    rw [ring, ringNext]
    by_cases h : t < 16
    · rw [if_pos h, ih j hj, if_pos (by omega), if_pos (by omega)]
    · rw [if_neg h, if_neg (by omega)]
      have g : ∀ k, 1 ≤ k → k ≤ 16 → (ring b t).getD ((t - k) % 16) 0 = Wt b (t - k) := by
        intro k h1 h2
        rw [ih _ (by omega)]
        congr 1
        split <;> omega
      have g0 : (ring b t).getD (t % 16) 0 = Wt b (t - 16) := by have := g 16 (by omega) (by omega); rwa [show (t - 16) % 16 = t % 16 by omega] at this
      rw [g0, g 2 (by omega) (by omega), g 7 (by omega) (by omega), g 15 (by omega) (by omega)]
      by_cases e : t % 16 = j
      · have hx : Wt b (t - 16) + (sig1 (Wt b (t - 2)) + Wt b (t - 7) + sig0 (Wt b (t - 15))) = Wt b t := by
          rw [Wt_high b t (by omega)]; exact UInt32.add_comm _ _
        rw [hx, show t + 1 - 1 - (t + 1 - 1 - j) % 16 = t by omega]
        simp [List.getD_eq_getElem?_getD, List.getElem?_set, e, ring_len, hj]
      · have : (ring b t).getD j 0 = Wt b (t + 1 - 1 - (t + 1 - 1 - j) % 16) := by
          rw [ih j hj]
          congr 1
          split <;> omega
        rw [← this]
        simp [List.getD_eq_getElem?_getD, List.getElem?_set, e]
theorem ring_now (b : List UInt8) (t : Nat) : (ring b (t + 1)).getD (t % 16) 0 = Wt b t := by
  rw [ring_get b (t + 1) (t % 16) (by omega)]
  congr 1
  split <;> omega
theorem ring_low (b : List UInt8) (t : Nat) (h : t < 16) : (ring b t).getD t 0 = Wt b t := by
  rw [ring_get b t t h, if_pos (by omega)]
/-- a round as the program reckons it -/
theorem round_other (v : St) (k w : UInt32) :
    round v k w = ⟨v.h + Sig1 v.e + ((v.g ^^^ (v.e &&& (v.f ^^^ v.g))) + k + w) + (Sig0 v.a + ((v.a &&& v.b) ||| (v.c &&& (v.a ||| v.b)))), v.a, v.b, v.c, v.d + (v.h + Sig1 v.e + ((v.g ^^^ (v.e &&& (v.f ^^^ v.g))) + k + w)), v.e, v.f, v.g⟩ := by
  simp only [round, ch_other, maj_other, UInt32.add_assoc]
end Go.Proofs.YtpacgblddeoheaaDoor.Sha
