/- OctP, merged: OctetPure, OctetPlain. -/

/- Numbers as bytes, in plain Lean: no program in sight. -/
set_option linter.unusedVariables false
set_option linter.unusedSimpArgs false
namespace Go.Proofs.YtpacgblddeoheaaDoor.Oct

/-- a number as n bytes, the lowest first -/
def le : Nat → Nat → List UInt8
  | _, 0 => []
  | x, n + 1 => UInt8.ofNat x :: le (x / 256) n
/-- the number of bytes -/
def val : List UInt8 → Nat
  | [] => 0
  | b :: r => b.toNat + 256 * val r
theorem le_length (x n : Nat) : (le x n).length = n := by
  induction n generalizing x with
  | zero => rfl
  | succ n ih => simp [le, ih]
theorem val_lt (b : List UInt8) : val b < 256 ^ b.length := by
  induction b with
  | nil => simp [val]
  | cons c r ih =>
    have := c.toNat_lt
    simp only [val, List.length_cons, Nat.pow_succ]
    omega
theorem val_le (x n : Nat) : val (le x n) = x % 256 ^ n := by
  induction n generalizing x with
  | zero => simp [le, val, Nat.mod_one]
  | succ n ih =>
    simp only [le, val, ih, UInt8.toNat_ofNat']
    have e : 256 ^ (n + 1) = 256 * 256 ^ n := by rw [Nat.pow_succ, Nat.mul_comm]
    rw [e, Nat.mod_mul]
theorem le_val (b : List UInt8) : le (val b) b.length = b := by
  induction b with
  | nil => rfl
  | cons c r ih =>
    have hc := c.toNat_lt
    have h1 : (c.toNat + 256 * val r) / 256 = val r := by omega
    simp only [List.length_cons, le, val, h1, ih]
    congr 1
    apply UInt8.toNat_inj.1
    rw [UInt8.toNat_ofNat']
    omega
theorem le_index (x n k : Nat) (h : k < n) : (le x n)[k]? = some (UInt8.ofNat (x / 256 ^ k)) := by
  induction n generalizing x k with
  | zero => omega
  | succ n ih =>
    cases k with
    | zero => simp [le]
    | succ k =>
      simp only [le, List.getElem?_cons_succ]
      rw [ih _ _ (by omega), Nat.div_div_eq_div_mul, Nat.pow_succ, Nat.mul_comm (256 ^ k)]
theorem val_append (a b : List UInt8) : val (a ++ b) = val a + 256 ^ a.length * val b := by
  induction a with
  | nil => simp [val]
  | cons c r ih =>
    simp only [List.cons_append, val, ih, List.length_cons, Nat.pow_succ]
    rw [Nat.mul_comm (256 ^ r.length) 256, Nat.mul_assoc]
    omega
theorem le_append (x n m : Nat) : le x (n + m) = le x n ++ le (x / 256 ^ n) m := by
  induction n generalizing x with
  | zero => simp [le]
  | succ n ih =>
    rw [show n + 1 + m = (n + m) + 1 by omega]
    simp only [le, List.cons_append]
    rw [ih, Nat.div_div_eq_div_mul, Nat.pow_succ, Nat.mul_comm (256 ^ n)]
theorem le_inj {x y n : Nat} (hx : x < 256 ^ n) (hy : y < 256 ^ n) (h : le x n = le y n) : x = y := by
  have := congrArg val h
  rwa [val_le, val_le, Nat.mod_eq_of_lt hx, Nat.mod_eq_of_lt hy] at this

theorem shr_nat (x k : Nat) : (x : Int) / 2 ^ k = ((x / 2 ^ k : Nat) : Int) := by
  rw [Int.natCast_ediv, Int.natCast_pow]; rfl

/-- how many bytes a number has, as short as may be -/
def size (x : Nat) : Nat := if x < 253 then 1 else if x < 65536 then 3 else if x < 4294967296 then 5 else 9
def first (n : Nat) : UInt8 := if n = 9 then 255 else if n = 5 then 254 else 253
/-- a number as short as may be -/
def var (x : Nat) : List UInt8 := if x < 253 then [UInt8.ofNat x] else first (size x) :: le x (size x - 1)
theorem size_pos (x : Nat) : 1 ≤ size x ∧ size x ≤ 9 := by unfold size; (repeat' split) <;> omega
theorem var_length (x : Nat) : (var x).length = size x := by
  unfold var
  split
  · rename_i h; simp [size, h]
  · have := size_pos x
    simp only [List.length_cons, le_length]
    omega
/-- parts, one behind the other, each with its length -/
def pack (ls : List (List UInt8)) : List UInt8 := var ls.length ++ ls.flatMap fun p => var p.length ++ p
def packTo (ls : List (List UInt8)) (k : Nat) : List UInt8 := var ls.length ++ (ls.take k).flatMap fun p => var p.length ++ p
theorem packTo_succ (ls : List (List UInt8)) (k : Nat) (h : k < ls.length) : packTo ls (k + 1) = packTo ls k ++ var ls[k].length ++ ls[k] := by
  unfold packTo
  rw [List.take_succ_eq_append_getElem h, List.flatMap_append, List.flatMap_singleton, List.append_assoc, List.append_assoc]
theorem packTo_all (ls : List (List UInt8)) : packTo ls ls.length = pack ls := by
  unfold packTo pack; rw [List.take_length]
theorem packTo_le (ls : List (List UInt8)) (k : Nat) : (packTo ls k).length ≤ (pack ls).length := by
  have h : (ls.flatMap fun p => var p.length ++ p) = ((ls.take k).flatMap fun p => var p.length ++ p) ++ ((ls.drop k).flatMap fun p => var p.length ++ p) := by
    rw [← List.flatMap_append, List.take_append_drop]
  unfold packTo pack
  rw [h]
  simp only [List.length_append]
  omega
/-- how many bytes the number behind a first byte has -/
def wide (c : Nat) : Nat := if c = 253 then 2 else if c = 254 then 4 else if c = 255 then 8 else 0
/-- a number, how many bytes it has, and what is wrong -/
def read : List UInt8 → Nat × Nat × Int
  | [] => (0, 0, 4)
  | c :: r =>
    if wide c.toNat = 0 then (c.toNat, 1, 0)
    else if r.length < wide c.toNat then (0, 0, 4)
    else if size (val (r.take (wide c.toNat))) = wide c.toNat + 1 then (val (r.take (wide c.toNat)), wide c.toNat + 1, 0) else (0, 0, 6)
end Go.Proofs.YtpacgblddeoheaaDoor.Oct
/- What is read of what was written: plain Lean. -/
set_option linter.unusedVariables false
set_option linter.unusedSimpArgs false
namespace Go.Proofs.YtpacgblddeoheaaDoor.Oct

theorem first_size {x : Nat} (h : ¬ x < 253) : wide (first (size x)).toNat = size x - 1 ∧ wide (first (size x)).toNat ≠ 0 := by
  unfold size
  (repeat' split) <;> first | omega | exact ⟨by decide, by decide⟩
theorem size_fits {x : Nat} (hx : x < 18446744073709551616) (h : ¬ x < 253) : x < 256 ^ (size x - 1) := by
  unfold size
  (repeat' split)
  · omega
  · show x < 256 ^ 2; omega
  · show x < 256 ^ 4; omega
  · show x < 256 ^ 8; omega
theorem wide_small {x : Nat} (h : x < 253) : wide x = 0 := by unfold wide; (repeat' split) <;> omega
theorem byte_small {x : Nat} (h : x < 253) : (UInt8.ofNat x).toNat = x := by rw [UInt8.toNat_ofNat']; omega
/-- a number is read as it was written, whatever stands behind it -/
theorem read_var (x : Nat) (hx : x < 18446744073709551616) (b : List UInt8) : read (var x ++ b) = (x, size x, 0) := by
  unfold var
  by_cases h : x < 253
  · rw [if_pos h]
    show (if wide (UInt8.ofNat x).toNat = 0 then _ else _) = _
    rw [byte_small h, if_pos (wide_small h)]
    unfold size; rw [if_pos h]
  · rw [if_neg h]
    obtain ⟨h1, h2⟩ := first_size h
    have hp := size_pos x
    show (if wide (first (size x)).toNat = 0 then _ else _) = _
    rw [if_neg h2]
    show (if (le x (size x - 1) ++ b).length < wide (first (size x)).toNat then _ else _) = _
    rw [h1, if_neg (by rw [List.length_append, le_length]; omega)]
    have ht : (le x (size x - 1) ++ b).take (size x - 1) = le x (size x - 1) := by
      rw [List.take_append_of_le_length (by rw [le_length]; exact Nat.le_refl _), List.take_of_length_le (by rw [le_length]; exact Nat.le_refl _)]
    have hv : val (le x (size x - 1)) = x := by rw [val_le, Nat.mod_eq_of_lt (size_fits hx h)]
    show (if size (val ((le x (size x - 1) ++ b).take (size x - 1))) = size x - 1 + 1 then _ else _) = _
    rw [ht, hv, if_pos (by omega)]
    rw [show size x - 1 + 1 = size x by omega, show (le x (size x - 1)).append b = le x (size x - 1) ++ b from rfl, ht, hv]
/-- cut off, it is too short -/
theorem read_cut (x : Nat) (i : Nat) (hi : i < (var x).length) : read ((var x).take i) = (0, 0, 4) := by
  rw [var_length] at hi
  cases i with
  | zero => rfl
  | succ i =>
    unfold var
    by_cases h : x < 253
    · unfold size at hi; rw [if_pos h] at hi; omega
    · rw [if_neg h]
      obtain ⟨h1, h2⟩ := first_size h
      show (if wide (first (size x)).toNat = 0 then _ else _) = _
      rw [if_neg h2]
      show (if ((le x (size x - 1)).take i).length < wide (first (size x)).toNat then _ else _) = _
      rw [h1, if_pos (by rw [List.length_take, le_length]; omega)]
theorem wide_cases (c : UInt8) : (wide c.toNat = 0 ∧ c.toNat < 253) ∨ (wide c.toNat = 2 ∧ c = 253) ∨ (wide c.toNat = 4 ∧ c = 254) ∨ (wide c.toNat = 8 ∧ c = 255) := by
  have hc := c.toNat_lt
  unfold wide
  by_cases h1 : c.toNat = 253
  · right; left; exact ⟨by simp [h1], UInt8.toNat_inj.1 h1⟩
  by_cases h2 : c.toNat = 254
  · right; right; left; exact ⟨by simp [h2], UInt8.toNat_inj.1 h2⟩
  by_cases h3 : c.toNat = 255
  · right; right; right; exact ⟨by simp [h3], UInt8.toNat_inj.1 h3⟩
  · left; exact ⟨by simp [h1, h2, h3], by omega⟩
/-- what is read was written so -/
theorem read_back (b : List UInt8) :
    ((read b).2.2 ≠ 0 ∧ (read b).1 = 0 ∧ (read b).2.1 = 0 ∧ ((read b).2.2 = 4 ∨ (read b).2.2 = 6)) ∨ ((read b).2.2 = 0 ∧ (read b).1 < 18446744073709551616 ∧ (read b).2.1 = size (read b).1 ∧ (read b).2.1 ≤ b.length ∧ var (read b).1 = b.take (read b).2.1) := by
  cases b with
  | nil => left; exact ⟨by decide, rfl, rfl, .inl rfl⟩
  | cons c r =>
    have hc := c.toNat_lt
    unfold read
    by_cases h0 : wide c.toNat = 0
    · simp only [if_pos h0]
      right
      have hlt : c.toNat < 253 := by rcases wide_cases c with h | h | h | h <;> omega
      refine ⟨trivial, by omega, by unfold size; rw [if_pos hlt], by simp, ?_⟩
      unfold var
      rw [if_pos hlt]
      simp
    · simp only [if_neg h0]
      by_cases h1 : r.length < wide c.toNat
      · simp only [if_pos h1]; left; exact ⟨by decide, trivial, trivial, .inl trivial⟩
      · simp only [if_neg h1]
        by_cases h2 : size (val (r.take (wide c.toNat))) = wide c.toNat + 1
        · simp only [if_pos h2]
          right
          have hl : (r.take (wide c.toNat)).length = wide c.toNat := by rw [List.length_take]; omega
          have hv := val_lt (r.take (wide c.toNat))
          have hle := le_val (r.take (wide c.toNat))
          rw [hl] at hv hle
          have h8 : 256 ^ wide c.toNat ≤ 256 ^ 8 := Nat.pow_le_pow_right (by decide) (by rcases wide_cases c with h | h | h | h <;> omega)
          have hns : ¬ val (r.take (wide c.toNat)) < 253 := fun h => by unfold size at h2; rw [if_pos h] at h2; omega
          refine ⟨trivial, Nat.lt_of_lt_of_le hv (by simpa using h8), h2.symm, by simp only [List.length_cons]; omega, ?_⟩
          unfold var
          rw [if_neg hns, h2, Nat.add_sub_cancel, hle, List.take_succ_cons]
          congr 1
          rcases wide_cases c with h | ⟨h, e⟩ | ⟨h, e⟩ | ⟨h, e⟩
          · omega
          all_goals (rw [h, e]; rfl)
        · simp only [if_neg h2]; left; exact ⟨by decide, trivial, trivial, .inr trivial⟩

/-- parts taken apart: how many are still to come, the bytes that are left, the parts so far -/
def takeApart : Nat → List UInt8 → List (List UInt8) → List (List UInt8) × Int
  | 0, rest, acc => if 0 < rest.length then ([], 5) else (acc, 0)
  | k + 1, rest, acc =>
    if (read rest).2.2 ≠ 0 then ([], (read rest).2.2)
    else if (rest.drop (read rest).2.1).length < (read rest).1 then ([], 4)
    else takeApart k ((rest.drop (read rest).2.1).drop (read rest).1) (acc ++ [(rest.drop (read rest).2.1).take (read rest).1])
def unpack (b : List UInt8) (most : Int) : List (List UInt8) × Int :=
  if (read b).2.2 ≠ 0 then ([], (read b).2.2)
  else if most < 0 ∨ most < (read b).1 then ([], 5)
  else takeApart (read b).1 (b.drop (read b).2.1) []
/-- what is taken apart was so put together -/
theorem takeApart_back : ∀ (k : Nat) (rest : List UInt8) (acc : List (List UInt8)),
    ((takeApart k rest acc).2 ≠ 0 ∧ (takeApart k rest acc).1 = []) ∨
    ((takeApart k rest acc).2 = 0 ∧ ∃ ps, (takeApart k rest acc).1 = acc ++ ps ∧ ps.length = k ∧ rest = ps.flatMap fun p => var p.length ++ p)
  | 0, rest, acc => by
    unfold takeApart
    by_cases h : 0 < rest.length
    · rw [if_pos h]; exact .inl ⟨by decide, rfl⟩
    · rw [if_neg h]; exact .inr ⟨rfl, [], by simp, rfl, List.eq_nil_of_length_eq_zero (by omega)⟩
  | k + 1, rest, acc => by
    rcases read_back rest with ⟨h1, h2, h3, h4⟩ | ⟨h1, h2, h3, h4, h5⟩
    · unfold takeApart; rw [if_pos h1]; exact .inl ⟨h1, rfl⟩
    · by_cases hz : (rest.drop (read rest).2.1).length < (read rest).1
      · unfold takeApart; rw [if_neg (fun h => h h1), if_pos hz]; exact .inl ⟨by decide, rfl⟩
      · have e : takeApart (k + 1) rest acc = takeApart k ((rest.drop (read rest).2.1).drop (read rest).1) (acc ++ [(rest.drop (read rest).2.1).take (read rest).1]) := by
          conv => lhs; unfold takeApart
          rw [if_neg (fun h => h h1), if_neg hz]
        rw [e]
        rcases takeApart_back k ((rest.drop (read rest).2.1).drop (read rest).1) (acc ++ [(rest.drop (read rest).2.1).take (read rest).1]) with h | ⟨k1, ps, k2, k3, k4⟩
        · exact .inl h
        · refine .inr ⟨k1, (rest.drop (read rest).2.1).take (read rest).1 :: ps, by rw [k2]; simp, by simp [k3], ?_⟩
          have hl : ((rest.drop (read rest).2.1).take (read rest).1).length = (read rest).1 := by rw [List.length_take]; omega
          rw [List.flatMap_cons, ← k4, hl, h5, List.append_assoc, List.take_append_drop, List.take_append_drop]
/-- whatever is unpacked, packed again it is the same -/
theorem unpack_back (b : List UInt8) (most : Int) : ((unpack b most).2 ≠ 0 ∧ (unpack b most).1 = []) ∨ ((unpack b most).2 = 0 ∧ ((unpack b most).1.length : Int) ≤ most ∧ pack (unpack b most).1 = b) := by
  unfold unpack
  rcases read_back b with ⟨h1, h2, h3, h4⟩ | ⟨h1, h2, h3, h4, h5⟩
  · rw [if_pos h1]; exact .inl ⟨h1, rfl⟩
  · rw [if_neg (fun h => h h1)]
    by_cases hm : most < 0 ∨ most < (read b).1
    · rw [if_pos hm]; exact .inl ⟨by decide, rfl⟩
    · rw [if_neg hm]
      rcases takeApart_back (read b).1 (b.drop (read b).2.1) [] with h | ⟨k1, ps, k2, k3, k4⟩
      · exact .inl h
      · refine .inr ⟨k1, ?_, ?_⟩
        · rw [k2, List.nil_append, k3]; omega
        · rw [k2, List.nil_append]
          unfold pack
          rw [k3, ← k4, h5, List.take_append_drop]
/-- parts are taken apart as they were put together -/
theorem takeApart_pack : ∀ (ls : List (List UInt8)) (more : List UInt8) (acc : List (List UInt8)), (∀ p ∈ ls, p.length < 18446744073709551616) →
    takeApart ls.length ((ls.flatMap fun p => var p.length ++ p) ++ more) acc = if 0 < more.length then ([], 5) else (acc ++ ls, 0)
  | [], more, acc, _ => by simp [takeApart]
  | p :: ls, more, acc, h => by
    have hp := h p (by simp)
    have e : ((p :: ls).flatMap fun p => var p.length ++ p) ++ more = var p.length ++ (p ++ ((ls.flatMap fun p => var p.length ++ p) ++ more)) := by simp
    have hr := read_var p.length hp (p ++ ((ls.flatMap fun p => var p.length ++ p) ++ more))
    rw [e]
    have hd : (var p.length ++ (p ++ ((ls.flatMap fun p => var p.length ++ p) ++ more))).drop (size p.length) = p ++ ((ls.flatMap fun p => var p.length ++ p) ++ more) := by
      rw [← var_length, List.drop_left]
    rw [List.length_cons, takeApart, hr]
    simp only
    rw [if_neg (fun h => h rfl), hd, if_neg (by rw [List.length_append]; omega), List.drop_left, List.take_left, takeApart_pack ls more _ (fun q hq => h q (by simp [hq]))]
    simp
end Go.Proofs.YtpacgblddeoheaaDoor.Oct
