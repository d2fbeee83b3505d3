/- Numbers as bytes, in plain Lean: no program in sight. -/
set_option linter.unusedVariables false
set_option linter.unusedSimpArgs false
namespace Go.Proofs.YtacbibflhdmcoaaDoor.Oct

/-- a number as n bytes, the lowest first -/
def le : Nat → Nat → List UInt8
  | _, 0 => []
  | x, n + 1 => UInt8.ofNat x :: le (x / 256) n
/-- the number of bytes -/
def val : List UInt8 → Nat
  | [] => 0
  | b :: r => b.toNat + 256 * val r
theorem le_length (x n : Nat) : (le x n).length = n := by
  induction n generalizing x with
  | zero => rfl
  | succ n ih => simp [le, ih]
theorem val_lt (b : List UInt8) : val b < 256 ^ b.length := by
  induction b with
  | nil => simp [val]
  | cons c r ih =>
    have := c.toNat_lt
    simp only [val, List.length_cons, Nat.pow_succ]
    omega
theorem val_le (x n : Nat) : val (le x n) = x % 256 ^ n := by
  induction n generalizing x with
  | zero => simp [le, val, Nat.mod_one]
  | succ n ih =>
    simp only [le, val, ih, UInt8.toNat_ofNat']
    have e : 256 ^ (n + 1) = 256 * 256 ^ n := by rw [Nat.pow_succ, Nat.mul_comm]
    rw [e, Nat.mod_mul]
theorem le_val (b : List UInt8) : le (val b) b.length = b := by
  induction b with
  | nil => rfl
  | cons c r ih =>
    have hc := c.toNat_lt
    have h1 : (c.toNat + 256 * val r) / 256 = val r := by omega
    simp only [List.length_cons, le, val, h1, ih]
    congr 1
    apply UInt8.toNat_inj.1
    rw [UInt8.toNat_ofNat']
    omega
theorem le_index (x n k : Nat) (h : k < n) : (le x n)[k]? = some (UInt8.ofNat (x / 256 ^ k)) := by
  induction n generalizing x k with
  | zero => omega
  | succ n ih =>
    cases k with
    | zero => simp [le]
    | succ k =>
      simp only [le, List.getElem?_cons_succ]
      rw [ih _ _ (by omega), Nat.div_div_eq_div_mul, Nat.pow_succ, Nat.mul_comm (256 ^ k)]
theorem val_append (a b : List UInt8) : val (a ++ b) = val a + 256 ^ a.length * val b := by
  induction a with
  | nil => simp [val]
  | cons c r ih =>
    simp only [List.cons_append, val, ih, List.length_cons, Nat.pow_succ]
    rw [Nat.mul_comm (256 ^ r.length) 256, Nat.mul_assoc]
    omega
theorem le_append (x n m : Nat) : le x (n + m) = le x n ++ le (x / 256 ^ n) m := by
  induction n generalizing x with
  | zero => simp [le]
  | succ n ih =>
    rw [show n + 1 + m = (n + m) + 1 by omega]
    simp only [le, List.cons_append]
    rw [ih, Nat.div_div_eq_div_mul, Nat.pow_succ, Nat.mul_comm (256 ^ n)]
theorem le_inj {x y n : Nat} (hx : x < 256 ^ n) (hy : y < 256 ^ n) (h : le x n = le y n) : x = y := by
  have := congrArg val h
  rwa [val_le, val_le, Nat.mod_eq_of_lt hx, Nat.mod_eq_of_lt hy] at this

theorem shr_nat (x k : Nat) : (x : Int) / 2 ^ k = ((x / 2 ^ k : Nat) : Int) := by
  rw [Int.natCast_ediv, Int.natCast_pow]; rfl

/-- how many bytes a number has, as short as may be -/
def size (x : Nat) : Nat := if x < 253 then 1 else if x < 65536 then 3 else if x < 4294967296 then 5 else 9
def first (n : Nat) : UInt8 := if n = 9 then 255 else if n = 5 then 254 else 253
/-- a number as short as may be -/
def var (x : Nat) : List UInt8 := if x < 253 then [UInt8.ofNat x] else first (size x) :: le x (size x - 1)
theorem size_pos (x : Nat) : 1 ≤ size x ∧ size x ≤ 9 := by unfold size; (repeat' split) <;> omega
theorem var_length (x : Nat) : (var x).length = size x := by
  unfold var
  split
  · rename_i h; simp [size, h]
  · have := size_pos x
    simp only [List.length_cons, le_length]
    omega
/-- parts, one behind the other, each with its length -/
def pack (ls : List (List UInt8)) : List UInt8 := var ls.length ++ ls.flatMap fun p => var p.length ++ p
def packTo (ls : List (List UInt8)) (k : Nat) : List UInt8 := var ls.length ++ (ls.take k).flatMap fun p => var p.length ++ p
theorem packTo_succ (ls : List (List UInt8)) (k : Nat) (h : k < ls.length) : packTo ls (k + 1) = packTo ls k ++ var ls[k].length ++ ls[k] := by
  unfold packTo
  rw [List.take_succ_eq_append_getElem h, List.flatMap_append, List.flatMap_singleton, List.append_assoc, List.append_assoc]
theorem packTo_all (ls : List (List UInt8)) : packTo ls ls.length = pack ls := by
  unfold packTo pack; rw [List.take_length]
theorem packTo_le (ls : List (List UInt8)) (k : Nat) : (packTo ls k).length ≤ (pack ls).length := by
  have h : (ls.flatMap fun p => var p.length ++ p) = ((ls.take k).flatMap fun p => var p.length ++ p) ++ ((ls.drop k).flatMap fun p => var p.length ++ p) := by
    rw [← List.flatMap_append, List.take_append_drop]
  unfold packTo pack
  rw [h]
  simp only [List.length_append]
  omega
/-- how many bytes the number behind a first byte has -/
def wide (c : Nat) : Nat := if c = 253 then 2 else if c = 254 then 4 else if c = 255 then 8 else 0
/-- a number, how many bytes it has, and what is wrong -/
def read : List UInt8 → Nat × Nat × Int
  | [] => (0, 0, 4)
  | c :: r =>
    if wide c.toNat = 0 then (c.toNat, 1, 0)
    else if r.length < wide c.toNat then (0, 0, 4)
    else if size (val (r.take (wide c.toNat))) = wide c.toNat + 1 then (val (r.take (wide c.toNat)), wide c.toNat + 1, 0) else (0, 0, 6)
end Go.Proofs.YtacbibflhdmcoaaDoor.Oct
