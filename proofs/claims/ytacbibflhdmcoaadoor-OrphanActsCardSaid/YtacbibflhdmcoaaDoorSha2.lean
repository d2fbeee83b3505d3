/- Sums of 256 bits, in plain Lean: what the program reckons otherwise than the document. -/
import Derived.Test.YtacbibflhdmcoaaDoorShaWord
set_option linter.unusedVariables false
set_option linter.unusedSimpArgs false
namespace Go.Proofs.YtacbibflhdmcoaaDoor.Sha
theorem ch_other (e f g : UInt32) : g ^^^ (e &&& (f ^^^ g)) = ch e f g := by
  unfold ch
  apply UInt32.toBitVec_inj.1
  simp only [UInt32.toBitVec_xor, UInt32.toBitVec_and, UInt32.toBitVec_not]
  ext i hi
  simp only [BitVec.getElem_xor, BitVec.getElem_and, BitVec.getElem_not]
  cases e.toBitVec[i] <;> cases f.toBitVec[i] <;> cases g.toBitVec[i] <;> rfl
theorem maj_other (a b c : UInt32) : (a &&& b) ||| (c &&& (a ||| b)) = maj a b c := by
  unfold maj
  apply UInt32.toBitVec_inj.1
  simp only [UInt32.toBitVec_xor, UInt32.toBitVec_and, UInt32.toBitVec_or]
  ext i hi
  simp only [BitVec.getElem_xor, BitVec.getElem_and, BitVec.getElem_or]
  cases a.toBitVec[i] <;> cases b.toBitVec[i] <;> cases c.toBitVec[i] <;> rfl
theorem or_shl (a b : UInt32) (k : UInt32) : (a ||| b) <<< k = a <<< k ||| b <<< k := by
  apply UInt32.toBitVec_inj.1
  simp only [UInt32.toBitVec_shiftLeft, UInt32.toBitVec_or]
  ext i hi
  simp [BitVec.shiftLeft_or_distrib]
theorem shl_shl (a : UInt32) (j k : UInt32) (h : j.toNat + k.toNat < 32) : (a <<< j) <<< k = a <<< (j + k) := by
  apply UInt32.toNat_inj.1
  have h1 : (j + k).toNat = j.toNat + k.toNat := by rw [UInt32.toNat_add]; omega
  simp only [UInt32.toNat_shiftLeft, h1, Nat.mod_eq_of_lt (show j.toNat < 32 by omega), Nat.mod_eq_of_lt (show k.toNat < 32 by omega), Nat.mod_eq_of_lt h]
  rw [Nat.shiftLeft_eq, Nat.shiftLeft_eq, Nat.shiftLeft_eq, Nat.pow_add, ← Nat.mul_assoc, Nat.mod_mul_mod]
/-- a number of a block, byte by byte -/
def acc (b : List UInt8) (j : Nat) : Nat → UInt32
  | 0 => 0
  | m + 1 => acc b j m <<< 8 ||| (b.getD (4 * j + m) 0).toUInt32
theorem acc_four (b : List UInt8) (j : Nat) : acc b j 4 = word16 b j := by
  have z : (0 : UInt32) <<< 8 = 0 := by decide
  have h16 : ∀ x : UInt32, x <<< 8 <<< 8 = x <<< 16 := fun x => shl_shl x 8 8 (by decide)
  have h24 : ∀ x : UInt32, x <<< 16 <<< 8 = x <<< 24 := fun x => shl_shl x 16 8 (by decide)
  simp only [acc, word16, or_shl, Nat.add_zero, z, UInt32.zero_or, h16, h24]
/-- the sixteen numbers, so many bytes being read -/
def fill (b : List UInt8) : Nat → List UInt32
  | 0 => List.replicate 16 0
  | i + 1 => (fill b i).set (i / 4) ((fill b i).getD (i / 4) 0 <<< 8 ||| (b.getD i 0).toUInt32)
theorem fill_len (b : List UInt8) (i : Nat) : (fill b i).length = 16 := by
  induction i with
  | zero => simp [fill]
  | succ i ih => simp [fill, ih]
theorem fill_get (b : List UInt8) (i : Nat) (hi : i ≤ 64) (j : Nat) (hj : j < 16) : (fill b i).getD j 0 = acc b j (min 4 (i - 4 * j)) := by
  induction i with
  | zero =>
    have e : (fill b 0).getD j 0 = 0 := by rw [fill, List.getD_eq_getElem?_getD, List.getElem?_replicate, if_pos hj]; rfl
    rw [e, show min 4 (0 - 4 * j) = 0 by omega]; rfl
  | succ i ih =>
    have ih := ih (by omega)
    have hl := fill_len b i
    rw [fill]
    by_cases h : i / 4 = j
    · have h4 : 4 * j ≤ i ∧ i < 4 * j + 4 := by omega
      have e1 : (fill b i).getD (i / 4) 0 = acc b j (i - 4 * j) := by rw [h, ih, Nat.min_eq_right (by omega)]
      rw [e1, show min 4 (i + 1 - 4 * j) = (i - 4 * j) + 1 by omega, acc, show 4 * j + (i - 4 * j) = i by omega]
      rw [← h]
      simp [show i / 4 < (fill b i).length by omega]
    · have : min 4 (i + 1 - 4 * j) = min 4 (i - 4 * j) := by omega
      rw [this, ← ih]
      simp [List.getD_eq_getElem?_getD, List.getElem?_set, h]
def ring (b : List UInt8) : Nat → List UInt32
  | 0 => fill b 64
  | t + 1 => ringNext (ring b t) t
/-- the t-th number of the schedule -/
theorem sched_len (b : List UInt8) (t : Nat) : (sched b t).length = t := by
  induction t with
  | zero => rfl
  | succ t ih => simp [sched, ih]
def Wt (b : List UInt8) (t : Nat) : UInt32 := (sched b (t + 1)).getD t 0
theorem sched_get (b : List UInt8) (n t : Nat) (h : t < n) : (sched b n).getD t 0 = Wt b t := by
  induction n with
  | zero => omega
  | succ n ih =>
    by_cases e : t = n
    · subst e; rfl
    · rw [← ih (by omega), sched]
      simp [List.getD_eq_getElem?_getD, List.getElem?_append, sched_len, show t < n by omega]
theorem Wt_low (b : List UInt8) (t : Nat) (h : t < 16) : Wt b t = word16 b t := by
  simp [Wt, sched, List.getD_eq_getElem?_getD, List.getElem?_append, sched_len, h]
theorem Wt_high (b : List UInt8) (t : Nat) (h : 16 ≤ t) : Wt b t = sig1 (Wt b (t - 2)) + Wt b (t - 7) + sig0 (Wt b (t - 15)) + Wt b (t - 16) := by
  rw [← sched_get b t (t - 2) (by omega), ← sched_get b t (t - 7) (by omega), ← sched_get b t (t - 15) (by omega), ← sched_get b t (t - 16) (by omega)]
  simp only [Wt, sched]
  rw [List.getD_eq_getElem?_getD, List.getElem?_append_right (by rw [sched_len]; omega), sched_len]
  simp [show ¬ t < 16 by omega]
theorem ring_len (b : List UInt8) (t : Nat) : (ring b t).length = 16 := by
  induction t with
  | zero => exact fill_len b 64
  | succ t ih => rw [ring, ringNext]; split <;> simp [ih]
theorem ring_get (b : List UInt8) (t : Nat) (j : Nat) (hj : j < 16) : (ring b t).getD j 0 = Wt b (if t ≤ 16 then j else t - 1 - (t - 1 - j) % 16) := by
  induction t generalizing j with
  | zero =>
    rw [if_pos (by omega), ring, fill_get b 64 (by omega) j hj, show min 4 (64 - 4 * j) = 4 by omega, acc_four, Wt_low b j hj]
  | succ t ih =>
    rw [ring, ringNext]
    by_cases h : t < 16
    · rw [if_pos h, ih j hj, if_pos (by omega), if_pos (by omega)]
    · rw [if_neg h, if_neg (by omega)]
      have g : ∀ k, 1 ≤ k → k ≤ 16 → (ring b t).getD ((t - k) % 16) 0 = Wt b (t - k) := by
        intro k h1 h2
        rw [ih _ (by omega)]
        congr 1
        split <;> omega
      have g0 : (ring b t).getD (t % 16) 0 = Wt b (t - 16) := by have := g 16 (by omega) (by omega); rwa [show (t - 16) % 16 = t % 16 by omega] at this
      rw [g0, g 2 (by omega) (by omega), g 7 (by omega) (by omega), g 15 (by omega) (by omega)]
      by_cases e : t % 16 = j
      · have hx : Wt b (t - 16) + (sig1 (Wt b (t - 2)) + Wt b (t - 7) + sig0 (Wt b (t - 15))) = Wt b t := by
          rw [Wt_high b t (by omega)]; exact UInt32.add_comm _ _
        rw [hx, show t + 1 - 1 - (t + 1 - 1 - j) % 16 = t by omega]
        simp [List.getD_eq_getElem?_getD, List.getElem?_set, e, ring_len, hj]
      · have : (ring b t).getD j 0 = Wt b (t + 1 - 1 - (t + 1 - 1 - j) % 16) := by
          rw [ih j hj]
          congr 1
          split <;> omega
        rw [← this]
        simp [List.getD_eq_getElem?_getD, List.getElem?_set, e]
theorem ring_now (b : List UInt8) (t : Nat) : (ring b (t + 1)).getD (t % 16) 0 = Wt b t := by
  rw [ring_get b (t + 1) (t % 16) (by omega)]
  congr 1
  split <;> omega
theorem ring_low (b : List UInt8) (t : Nat) (h : t < 16) : (ring b t).getD t 0 = Wt b t := by
  rw [ring_get b t t h, if_pos (by omega)]
/-- a round as the program reckons it -/
theorem round_other (v : St) (k w : UInt32) :
    round v k w = ⟨v.h + Sig1 v.e + ((v.g ^^^ (v.e &&& (v.f ^^^ v.g))) + k + w) + (Sig0 v.a + ((v.a &&& v.b) ||| (v.c &&& (v.a ||| v.b)))), v.a, v.b, v.c, v.d + (v.h + Sig1 v.e + ((v.g ^^^ (v.e &&& (v.f ^^^ v.g))) + k + w)), v.e, v.f, v.g⟩ := by
  simp only [round, ch_other, maj_other, UInt32.add_assoc]
end Go.Proofs.YtacbibflhdmcoaaDoor.Sha
