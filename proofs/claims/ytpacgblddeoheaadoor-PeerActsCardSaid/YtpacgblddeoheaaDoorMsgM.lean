/- MsgM, merged: MsgPure, Msg, MsgList. -/
import Derived.Test.YtpacgblddeoheaaDoorTxP
import Derived.Test.YtpacgblddeoheaaDoorTxGet
import Derived.Test.YtpacgblddeoheaaDoorTxPtsP
import Derived.Test.YtpacgblddeoheaaDoorOctRead
/- Messages as bytes, in plain Lean: no program in sight. -/
set_option linter.unusedVariables false
set_option linter.unusedSimpArgs false
namespace Go.Proofs.YtpacgblddeoheaaDoor.Msgs
structure Msg where
  kind : Int
  n : Nat
  code : Nat
  ids : List (List UInt8)
  tx : Txs.Tx
instance : DecidableEq Msg := fun a b => decidable_of_iff (a.kind = b.kind ∧ a.n = b.n ∧ a.code = b.code ∧ a.ids = b.ids ∧ a.tx = b.tx) (by cases a; cases b; simp)
def none : Msg := ⟨0, 0, 0, [], Txs.none⟩
structure Msg.Ok (m : Msg) : Prop where
  lo : -9223372036854775808 ≤ m.kind
  hi : m.kind ≤ 9223372036854775807
  n : m.n < 18446744073709551616
  code : m.code < 4294967296
  ids : ∀ h ∈ m.ids, h.length = 32
  tx : m.tx.Ok
/-- what a kind's body has -/
structure Shape where
  cmd : List UInt8
  code : Nat
  n : Nat
  most : Nat
  ids : Nat
  count : Bool
  tx : Bool
def shN : Nat → Shape
  | 1 => ⟨[118, 101, 114, 115, 105, 111, 110], 4, 8, 4294967295, 0, false, false⟩
  | 2 => ⟨[118, 101, 114, 97, 99, 107], 0, 0, 0, 0, false, false⟩
  | 3 => ⟨[112, 105, 110, 103], 0, 8, 0, 0, false, false⟩
  | 4 => ⟨[112, 111, 110, 103], 0, 8, 0, 0, false, false⟩
  | 5 => ⟨[105, 110, 118], 0, 0, 0, 32, true, false⟩
  | 6 => ⟨[103, 101, 116, 100, 97, 116, 97], 0, 0, 0, 32, true, false⟩
  | 7 => ⟨[110, 111, 116, 102, 111, 117, 110, 100], 0, 0, 0, 32, true, false⟩
  | 8 => ⟨[116, 120], 0, 0, 0, 0, false, true⟩
  | 9 => ⟨[115, 116, 101, 109, 116, 120], 0, 0, 0, 0, false, true⟩
  | 10 => ⟨[114, 101, 106, 101, 99, 116], 1, 0, 255, 1, false, false⟩
  | 11 => ⟨[115, 101, 110, 100, 115, 116, 101, 109], 1, 0, 1, 0, false, false⟩
  | _ => ⟨[], 0, 0, 0, 0, false, false⟩
def shp (k : Int) : Shape := shN k.toNat
def known (k : Int) : Bool := decide (1 ≤ k ∧ k ≤ 11)
theorem known_iff {k : Int} : known k = true ↔ 1 ≤ k ∧ k ≤ 11 := by simp [known]
theorem known_cases {k : Int} (h : known k = true) : k = 1 ∨ k = 2 ∨ k = 3 ∨ k = 4 ∨ k = 5 ∨ k = 6 ∨ k = 7 ∨ k = 8 ∨ k = 9 ∨ k = 10 ∨ k = 11 := by
  have := known_iff.1 h
  omega
theorem unknown_shp {k : Int} (h : known k = false) : shp k = ⟨[], 0, 0, 0, 0, false, false⟩ := by
  have h' : ¬ (1 ≤ k ∧ k ≤ 11) := by simpa [known] using h
  unfold shp
  by_cases h1 : k ≤ 0
  · rw [show k.toNat = 0 by omega]; rfl
  · obtain ⟨j, hj⟩ : ∃ j : Nat, k.toNat = j + 12 := ⟨k.toNat - 12, by omega⟩
    rw [hj]; rfl
/-- what may not be of a message -/
def misfit (m : Msg) : Bool :=
  (decide ((shp m.kind).n = 0) && decide (m.n ≠ 0)) || (decide ((shp m.kind).code = 0) && decide (m.code ≠ 0)) || (decide ((shp m.kind).ids = 0) && decide (m.ids.length ≠ 0)) || (!(shp m.kind).tx && decide (m.tx ≠ Txs.none))
def errOf (m : Msg) : Int :=
  if known m.kind = false then 2 else if misfit m = true then 2
  else if 0 < (shp m.kind).ids ∧ m.ids.length = 0 then 9
  else if (shp m.kind).ids < m.ids.length then 5
  else if (shp m.kind).most < m.code then 3 else 0
/-- a body that holds no transaction -/
def body (m : Msg) : List UInt8 :=
  (if (shp m.kind).count then Oct.var m.ids.length else []) ++ (m.ids.flatten ++ (Oct.le m.code (shp m.kind).code ++ Oct.le m.n (shp m.kind).n))
def put (m : Msg) : List UInt8 × List UInt8 × Int :=
  if errOf m ≠ 0 then ([], [], errOf m)
  else if (shp m.kind).tx = true then (if Txs.form m.tx = true then ((shp m.kind).cmd, Txs.bytes m.tx, 0) else ([], [], 5))
  else ((shp m.kind).cmd, body m, 0)
/-- so many hashes of 32 bytes -/
def hashes (b : List UInt8) : Nat → List (List UInt8)
  | 0 => []
  | n + 1 => b.take 32 :: hashes (b.drop 32) n
def many (k : Int) (b : List UInt8) : Msg × Int :=
  if (Oct.read b).2.2 ≠ 0 then (none, (Oct.read b).2.2)
  else if (Oct.read b).1 = 0 then (none, 9)
  else if 32 < (Oct.read b).1 then (none, 5)
  else if b.length - (Oct.read b).2.1 < 32 * (Oct.read b).1 then (none, 4)
  else if 32 * (Oct.read b).1 < b.length - (Oct.read b).2.1 then (none, 5)
  else (⟨k, 0, 0, hashes (b.drop (Oct.read b).2.1) (Oct.read b).1, Txs.none⟩, 0)
def sizeOf (s : Shape) : Nat := 32 * s.ids + s.code + s.n
def codeOf (s : Shape) (b : List UInt8) : Nat := Oct.val ((b.drop (32 * s.ids)).take s.code)
def numOf (s : Shape) (b : List UInt8) : Nat := Oct.val ((b.drop (32 * s.ids + s.code)).take s.n)
def plain (k : Int) (b : List UInt8) : Msg × Int :=
  if b.length < sizeOf (shp k) then (none, 4)
  else if sizeOf (shp k) < b.length then (none, 5)
  else if (shp k).most < codeOf (shp k) b then (none, 6)
  else (⟨k, numOf (shp k) b, codeOf (shp k) b, hashes b (shp k).ids, Txs.none⟩, 0)
def getOf (k : Int) (b : List UInt8) : Msg × Int :=
  if (shp k).tx = true then (if (Txs.whole b).2 ≠ 0 then (none, (Txs.whole b).2) else (⟨k, 0, 0, [], (Txs.whole b).1⟩, 0))
  else if (shp k).count = true then many k b else plain k b
/-- the kind of a command, from k on -/
def kindFrom (cmd : List UInt8) : Nat → Nat → Nat
  | 0, _ => 0
  | f + 1, k => if (shN k).cmd = cmd then k else kindFrom cmd f (k + 1)
def kindOf (cmd : List UInt8) : Nat := kindFrom cmd 11 1
def get (cmd b : List UInt8) : Msg × Int := if kindOf cmd = 0 then (none, 8) else getOf (kindOf cmd : Nat) b

/-! ### plain laws -/
theorem kindFrom_le (cmd : List UInt8) : ∀ f k, kindFrom cmd f k = 0 ∨ (k ≤ kindFrom cmd f k ∧ kindFrom cmd f k < k + f ∧ (shN (kindFrom cmd f k)).cmd = cmd)
  | 0, _ => .inl rfl
  | f + 1, k => by
    unfold kindFrom
    split
    · rename_i h; exact .inr ⟨Nat.le_refl _, by omega, h⟩
    · rcases kindFrom_le cmd f (k + 1) with h | ⟨h1, h2, h3⟩
      · exact .inl h
      · exact .inr ⟨by omega, by omega, h3⟩
theorem kindOf_le (cmd : List UInt8) : kindOf cmd = 0 ∨ (1 ≤ kindOf cmd ∧ kindOf cmd ≤ 11 ∧ (shN (kindOf cmd)).cmd = cmd) := by
  rcases kindFrom_le cmd 11 1 with h | ⟨h1, h2, h3⟩
  · exact .inl h
  · exact .inr ⟨h1, by unfold kindOf; omega, h3⟩
theorem kindOf_cmd {k : Int} (h : known k = true) : kindOf (shp k).cmd = k.toNat := by
  rcases known_cases h with rfl | rfl | rfl | rfl | rfl | rfl | rfl | rfl | rfl | rfl | rfl <;> rfl
theorem get_cmd {k : Int} (h : known k = true) (b : List UInt8) : get (shp k).cmd b = getOf k b := by
  have h' := known_iff.1 h
  unfold get
  rw [kindOf_cmd h, if_neg (by omega), show ((k.toNat : Nat) : Int) = k by omega]
theorem cmd_inj {k j : Int} (hk : known k = true) (hj : known j = true) (h : (shp k).cmd = (shp j).cmd) : k = j := by
  have h1 := kindOf_cmd hk
  have h2 := kindOf_cmd hj
  have := known_iff.1 hk
  have := known_iff.1 hj
  rw [h, h2] at h1
  omega
theorem errOf_known {m : Msg} (h : errOf m = 0) : known m.kind = true := by
  unfold errOf at h
  split at h
  · cases h
  · rename_i h'; simpa using h'
theorem put_known {m : Msg} {c b : List UInt8} (h : put m = (c, b, 0)) : known m.kind = true ∧ errOf m = 0 ∧ c = (shp m.kind).cmd := by
  unfold put at h
  split at h
  · rename_i h'; injection h with _ h; injection h with _ h; exact absurd h h'
  · rename_i h'
    have h' : errOf m = 0 := by simpa using h'
    refine ⟨errOf_known h', h', ?_⟩
    split at h
    · split at h
      · injection h with h _; exact h.symm
      · cases h
    · injection h with h _; exact h.symm
theorem hashes_flatten : ∀ (l : List (List UInt8)), (∀ h ∈ l, h.length = 32) → ∀ r, hashes (l.flatten ++ r) l.length = l
  | [], _, _ => rfl
  | x :: l, h, r => by
    have hx := h x (by simp)
    rw [List.length_cons, hashes, List.flatten_cons, List.append_assoc, List.take_left' hx, List.drop_left' hx, hashes_flatten l (fun y hy => h y (by simp [hy])) r]
theorem flatten_len : ∀ (l : List (List UInt8)), (∀ h ∈ l, h.length = 32) → l.flatten.length = 32 * l.length
  | [], _ => rfl
  | x :: l, h => by
    rw [List.flatten_cons, List.length_append, h x (by simp), flatten_len l (fun y hy => h y (by simp [hy])), List.length_cons]; omega
theorem flatten_hashes : ∀ (n : Nat) (b : List UInt8), 32 * n ≤ b.length → (hashes b n).flatten = b.take (32 * n)
  | 0, _, _ => by simp [hashes]
  | n + 1, b, h => by
    rw [hashes, List.flatten_cons, flatten_hashes n (b.drop 32) (by rw [List.length_drop]; omega), show 32 * (n + 1) = 32 + 32 * n by omega, List.take_add]
theorem hashes_len : ∀ (n : Nat) (b : List UInt8), (hashes b n).length = n
  | 0, _ => rfl
  | n + 1, b => by rw [hashes, List.length_cons, hashes_len]
theorem hashes_ok : ∀ (n : Nat) (b : List UInt8), 32 * n ≤ b.length → ∀ h ∈ hashes b n, h.length = 32
  | 0, _, _, _, h => by cases h
  | n + 1, b, hb, x, h => by
    rw [hashes] at h
    rcases List.mem_cons.1 h with rfl | h
    · rw [List.length_take]; omega
    · exact hashes_ok n (b.drop 32) (by rw [List.length_drop]; omega) x h

structure Facts (s : Shape) : Prop where
  most : s.most < 256 ^ s.code
  n : s.n = 0 ∨ s.n = 8
  code : s.code ≤ 4
  tx : s.tx = true → s.n = 0 ∧ s.code = 0 ∧ s.ids = 0 ∧ s.count = false
  count : s.count = true → s.n = 0 ∧ s.code = 0 ∧ s.ids = 32
  ids : s.count = false → s.ids ≤ 1
theorem facts (k : Int) : Facts (shp k) := by
  by_cases h : known k = true
  · rcases known_cases h with rfl | rfl | rfl | rfl | rfl | rfl | rfl | rfl | rfl | rfl | rfl <;> exact ⟨by decide, by decide, by decide, by decide, by decide, by decide⟩
  · rw [unknown_shp (by simpa using h)]
    exact ⟨by decide, by decide, by decide, by decide, by decide, by decide⟩
structure Fits (m : Msg) : Prop where
  known : known m.kind = true
  n : (shp m.kind).n = 0 → m.n = 0
  code : (shp m.kind).code = 0 → m.code = 0
  ids0 : (shp m.kind).ids = 0 → m.ids = []
  ids1 : (shp m.kind).ids ≠ 0 → m.ids.length ≠ 0
  idsm : m.ids.length ≤ (shp m.kind).ids
  tx : (shp m.kind).tx = false → m.tx = Txs.none
  most : m.code ≤ (shp m.kind).most
theorem misfit_iff {m : Msg} : misfit m = false ↔ ((shp m.kind).n = 0 → m.n = 0) ∧ ((shp m.kind).code = 0 → m.code = 0) ∧ ((shp m.kind).ids = 0 → m.ids = []) ∧ ((shp m.kind).tx = false → m.tx = Txs.none) := by
  unfold misfit
  simp only [Bool.or_eq_false_iff, Bool.and_eq_false_iff, decide_eq_false_iff_not, Bool.not_eq_false', ne_eq, Decidable.not_not, List.length_eq_zero_iff, Bool.not_eq_eq_eq_not, Bool.not_false, Bool.not_true]
  constructor
  · rintro ⟨⟨⟨h1, h2⟩, h3⟩, h4⟩
    refine ⟨fun h => h1.resolve_left (fun x => x h), fun h => h2.resolve_left (fun x => x h), fun h => h3.resolve_left (fun x => x h), fun h => h4.resolve_left (fun x => by rw [h] at x; cases x)⟩
  · rintro ⟨h1, h2, h3, h4⟩
    refine ⟨⟨⟨?_, ?_⟩, ?_⟩, ?_⟩
    · exact (Decidable.em ((shp m.kind).n = 0)).elim (fun h => .inr (h1 h)) .inl
    · exact (Decidable.em ((shp m.kind).code = 0)).elim (fun h => .inr (h2 h)) .inl
    · exact (Decidable.em ((shp m.kind).ids = 0)).elim (fun h => .inr (h3 h)) .inl
    · cases h : (shp m.kind).tx
      · exact .inr (h4 h)
      · exact .inl rfl
theorem fits_iff {m : Msg} : errOf m = 0 ↔ Fits m := by
  constructor
  · intro h
    have hk := errOf_known h
    unfold errOf at h
    rw [if_neg (by simp [hk])] at h
    by_cases h1 : misfit m = true
    · rw [if_pos h1] at h; cases h
    rw [if_neg h1] at h
    by_cases h2 : 0 < (shp m.kind).ids ∧ m.ids.length = 0
    · rw [if_pos h2] at h; cases h
    rw [if_neg h2] at h
    by_cases h3 : (shp m.kind).ids < m.ids.length
    · rw [if_pos h3] at h; cases h
    rw [if_neg h3] at h
    by_cases h4 : (shp m.kind).most < m.code
    · rw [if_pos h4] at h; cases h
    obtain ⟨a, b, c, d⟩ := misfit_iff.1 (by simpa using h1)
    exact ⟨hk, a, b, c, fun h0 => by omega, by omega, d, by omega⟩
  · intro f
    unfold errOf
    rw [if_neg (by simp [f.known]), if_neg (by rw [misfit_iff.2 ⟨f.n, f.code, f.ids0, f.tx⟩]; simp), if_neg (by intro h; exact f.ids1 (by omega) h.2), if_neg (by have := f.idsm; omega), if_neg (by have := f.most; omega)]
theorem put_iff {m : Msg} {c b : List UInt8} : put m = (c, b, 0) ↔ Fits m ∧ c = (shp m.kind).cmd ∧ (((shp m.kind).tx = true ∧ Txs.form m.tx = true ∧ b = Txs.bytes m.tx) ∨ ((shp m.kind).tx = false ∧ b = body m)) := by
  constructor
  · intro h
    obtain ⟨h1, h2, h3⟩ := put_known h
    refine ⟨fits_iff.1 h2, h3, ?_⟩
    unfold put at h
    rw [if_neg (by simp [h2])] at h
    by_cases ht : (shp m.kind).tx = true
    · rw [if_pos ht] at h
      by_cases hf : Txs.form m.tx = true
      · rw [if_pos hf] at h
        injection h with _ h; injection h with h _
        exact .inl ⟨ht, hf, h.symm⟩
      · rw [if_neg hf] at h; cases h
    · rw [if_neg ht] at h
      injection h with _ h; injection h with h _
      exact .inr ⟨by simpa using ht, h.symm⟩
  · rintro ⟨f, rfl, h⟩
    have h2 := fits_iff.2 f
    unfold put
    rw [if_neg (by simp [h2])]
    rcases h with ⟨ht, hf, rfl⟩ | ⟨ht, rfl⟩
    · rw [if_pos ht, if_pos hf]
    · rw [if_neg (by simp [ht])]
theorem msg_eq {m : Msg} {k : Int} {n c : Nat} {i : List (List UInt8)} {t : Txs.Tx} (h1 : k = m.kind) (h2 : n = m.n) (h3 : c = m.code) (h4 : i = m.ids) (h5 : t = m.tx) : (⟨k, n, c, i, t⟩ : Msg) = m := by
  subst h1; subst h2; subst h3; subst h4; subst h5; rfl
/-- what a body of fixed size has -/
theorem body_plain {m : Msg} (hk : m.Ok) (f : Fits m) (hc : (shp m.kind).count = false) : m.ids.length = (shp m.kind).ids ∧ m.ids.flatten.length = 32 * (shp m.kind).ids ∧
    body m = m.ids.flatten ++ (Oct.le m.code (shp m.kind).code ++ Oct.le m.n (shp m.kind).n) ∧ (body m).length = sizeOf (shp m.kind) := by
  have hs := facts m.kind
  have h1 : m.ids.length = (shp m.kind).ids := by
    have := hs.ids hc
    have h2 := f.idsm
    by_cases h : (shp m.kind).ids = 0
    · rw [h, f.ids0 h]; rfl
    · have := f.ids1 h; omega
  have h2 := flatten_len m.ids hk.ids
  rw [h1] at h2
  have h3 : body m = m.ids.flatten ++ (Oct.le m.code (shp m.kind).code ++ Oct.le m.n (shp m.kind).n) := by unfold body; rw [hc]; simp
  refine ⟨h1, h2, h3, ?_⟩
  rw [h3]; unfold sizeOf
  simp only [List.length_append, Oct.le_length, h2]; omega
theorem body_count {m : Msg} (hk : m.Ok) (f : Fits m) (hc : (shp m.kind).count = true) : m.ids.length ≠ 0 ∧ m.ids.length ≤ 32 ∧ m.ids.flatten.length = 32 * m.ids.length ∧ body m = Oct.var m.ids.length ++ m.ids.flatten := by
  have hs := facts m.kind
  obtain ⟨h1, h2, h3⟩ := hs.count hc
  have := f.idsm
  refine ⟨f.ids1 (by omega), by omega, flatten_len m.ids hk.ids, ?_⟩
  unfold body
  rw [hc, h1, h2]; simp [Oct.le]
theorem get_put {m : Msg} (hk : m.Ok) {c b : List UInt8} (h : put m = (c, b, 0)) : get c b = (m, 0) := by
  obtain ⟨f, hce, hd⟩ := put_iff.1 h
  subst hce
  clear h
  have hs := facts m.kind
  rw [get_cmd f.known]
  unfold getOf
  rcases hd with ⟨ht, hf, rfl⟩ | ⟨ht, rfl⟩
  · obtain ⟨a, b, c, d⟩ := hs.tx ht
    rw [if_pos ht, Txs.whole_put hk.tx hf, if_neg (by simp)]
    simp only [Prod.mk.injEq, and_true]
    exact msg_eq rfl (f.n a).symm (f.code b).symm (f.ids0 c).symm rfl
  · rw [if_neg (by simp [ht])]
    by_cases hc : (shp m.kind).count = true
    · rw [if_pos hc]
      obtain ⟨h1, h2, h3, h4⟩ := body_count hk f hc
      obtain ⟨a, b, c⟩ := hs.count hc
      have hr := Oct.read_var m.ids.length (by omega) m.ids.flatten
      have hl := Oct.var_length m.ids.length
      unfold many
      rw [h4, hr]
      simp only
      have hd : (Oct.var m.ids.length ++ m.ids.flatten).drop (Oct.size m.ids.length) = m.ids.flatten := List.drop_left' hl
      have hln : (Oct.var m.ids.length ++ m.ids.flatten).length - Oct.size m.ids.length = 32 * m.ids.length := by rw [List.length_append, hl, h3]; omega
      rw [if_neg (by simp), if_neg h1, if_neg (by omega), hln, if_neg (by omega), if_neg (by omega), hd]
      simp only [Prod.mk.injEq, and_true]
      have := hashes_flatten m.ids hk.ids []
      rw [List.append_nil] at this
      exact msg_eq rfl (f.n a).symm (f.code b).symm this (f.tx ht).symm
    · have hc : (shp m.kind).count = false := by simpa using hc
      rw [if_neg (by simp [hc])]
      obtain ⟨h1, h2, h3, h4⟩ := body_plain hk f hc
      unfold plain
      have hcode : codeOf (shp m.kind) (body m) = m.code := by
        unfold codeOf
        rw [h3, List.drop_left' h2, List.take_left' (Oct.le_length _ _), Oct.val_le]
        exact Nat.mod_eq_of_lt (Nat.lt_of_le_of_lt f.most hs.most)
      have hnum : numOf (shp m.kind) (body m) = m.n := by
        unfold numOf
        rw [h3, ← List.append_assoc, List.drop_left' (by rw [List.length_append, h2, Oct.le_length]), List.take_of_length_le (by rw [Oct.le_length]; exact Nat.le_refl _), Oct.val_le]
        rcases hs.n with h | h
        · rw [h, f.n h]
        · rw [h]; exact Nat.mod_eq_of_lt hk.n
      rw [h4, if_neg (by omega), if_neg (by omega), hcode, if_neg (by have := f.most; omega), hnum]
      simp only [Prod.mk.injEq, and_true]
      have := hashes_flatten m.ids hk.ids (Oct.le m.code (shp m.kind).code ++ Oct.le m.n (shp m.kind).n)
      rw [← h3, h1] at this
      exact msg_eq rfl rfl rfl this (f.tx ht).symm
theorem get_more {m : Msg} (hk : m.Ok) {c b : List UInt8} (h : put m = (c, b, 0)) (x : UInt8) : get c (b ++ [x]) = (none, 5) := by
  obtain ⟨f, hce, hd⟩ := put_iff.1 h
  subst hce
  clear h
  have hs := facts m.kind
  rw [get_cmd f.known]
  unfold getOf
  rcases hd with ⟨ht, hf, rfl⟩ | ⟨ht, rfl⟩
  · rw [if_pos ht, Txs.whole_more hk.tx hf (by simp), if_pos (by simp)]
  · rw [if_neg (by simp [ht])]
    by_cases hc : (shp m.kind).count = true
    · rw [if_pos hc]
      obtain ⟨h1, h2, h3, h4⟩ := body_count hk f hc
      have hr := Oct.read_var m.ids.length (by omega) (m.ids.flatten ++ [x])
      have hl := Oct.var_length m.ids.length
      unfold many
      rw [h4, List.append_assoc, hr]
      simp only
      have hln : (Oct.var m.ids.length ++ (m.ids.flatten ++ [x])).length - Oct.size m.ids.length = 32 * m.ids.length + 1 := by simp only [List.length_append, hl, h3, List.length_cons, List.length_nil]; omega
      rw [if_neg (by simp), if_neg h1, if_neg (by omega), hln, if_neg (by omega), if_pos (by omega)]
    · have hc : (shp m.kind).count = false := by simpa using hc
      rw [if_neg (by simp [hc])]
      obtain ⟨h1, h2, h3, h4⟩ := body_plain hk f hc
      unfold plain
      rw [List.length_append, h4, if_neg (by simp only [List.length_cons, List.length_nil]; omega), if_pos (by simp only [List.length_cons, List.length_nil]; omega)]
theorem get_cut {m : Msg} (hk : m.Ok) {c b : List UInt8} (h : put m = (c, b, 0)) {i : Nat} (hi : i < b.length) : (get c (b.take i)).2 = 4 := by
  obtain ⟨f, hce, hd⟩ := put_iff.1 h
  subst hce
  clear h
  have hs := facts m.kind
  rw [get_cmd f.known]
  unfold getOf
  rcases hd with ⟨ht, hf, rfl⟩ | ⟨ht, rfl⟩
  · rw [if_pos ht, Txs.whole_cut hk.tx hf hi, if_pos (by simp)]
  · rw [if_neg (by simp [ht])]
    by_cases hc : (shp m.kind).count = true
    · rw [if_pos hc]
      obtain ⟨h1, h2, h3, h4⟩ := body_count hk f hc
      have hl := Oct.var_length m.ids.length
      unfold many
      rw [h4] at hi ⊢
      by_cases h0 : i < (Oct.var m.ids.length).length
      · have hr := Oct.read_cut m.ids.length i h0
        rw [List.take_append_of_le_length (by omega), hr]
        simp
      · have hln : ((Oct.var m.ids.length ++ m.ids.flatten).take i).length = i := by rw [List.length_take]; omega
        rw [Txs.take_mid _ _ (by omega)] at hln ⊢
        have hr := Oct.read_var m.ids.length (by omega) (m.ids.flatten.take (i - (Oct.var m.ids.length).length))
        rw [hr]
        simp only
        rw [List.length_append, hl, h3] at hi
        rw [if_neg (by simp), if_neg h1, if_neg (by omega), hln, if_pos (by omega)]
    · have hc : (shp m.kind).count = false := by simpa using hc
      rw [if_neg (by simp [hc])]
      obtain ⟨h1, h2, h3, h4⟩ := body_plain hk f hc
      unfold plain
      rw [List.length_take, if_pos (by omega)]
theorem put_empty {m : Msg} (hk : m.Ok) {c b : List UInt8} (h : put m = (c, b, 0)) (hb : b.length = 0) : m.kind = 2 := by
  obtain ⟨f, hce, hd⟩ := put_iff.1 h
  subst hce
  clear h
  rcases hd with ⟨ht, hf, rfl⟩ | ⟨ht, rfl⟩
  · have := Txs.bytes_len hk.tx; omega
  · by_cases hc : (shp m.kind).count = true
    · obtain ⟨h1, h2, h3, h4⟩ := body_count hk f hc
      rw [h4, List.length_append, h3] at hb
      omega
    · have hc : (shp m.kind).count = false := by simpa using hc
      obtain ⟨h1, h2, h3, h4⟩ := body_plain hk f hc
      rw [h4] at hb
      rcases known_cases f.known with h | h | h | h | h | h | h | h | h | h | h
      all_goals first | exact h | (exfalso; rw [h] at hb hc ht; revert hb hc ht; decide)
theorem whole_back {b : List UInt8} (h : (Txs.whole b).2 = 0) : (Txs.whole b).1.Ok ∧ Txs.form (Txs.whole b).1 = true ∧ Txs.bytes (Txs.whole b).1 = b := by
  unfold Txs.whole at h ⊢
  rcases Txs.get_back b with ⟨h1, _, _⟩ | ⟨h1, h2, h3, h4, h5⟩
  · rw [if_pos h1] at h; exact absurd h h1
  · rw [if_neg (by simp [h1])] at h ⊢
    by_cases hn : (Txs.get b).2.1 ≠ b.length
    · rw [if_pos hn] at h; cases h
    · rw [if_neg hn]
      have hn : (Txs.get b).2.1 = b.length := by simpa using hn
      rw [hn, List.take_length] at h5
      exact ⟨h2, h3, h5⟩
theorem pow_code {s : Shape} (h : Facts s) : 256 ^ s.code ≤ 4294967296 := by
  have := Nat.pow_le_pow_right (show 1 ≤ 256 by omega) h.code
  simpa using this
theorem get_ok {cmd b : List UInt8} (h : (get cmd b).2 = 0) : (get cmd b).1.Ok ∧ put (get cmd b).1 = (cmd, b, 0) := by
  unfold get at h ⊢
  rcases kindOf_le cmd with h0 | ⟨hk1, hk2, hcmd⟩
  · rw [if_pos h0] at h; cases h
  rw [if_neg (by omega)] at h ⊢
  generalize kindOf cmd = k at *
  have hkn : known (k : Int) = true := known_iff.2 ⟨by omega, by omega⟩
  have hsh : shp (k : Int) = shN k := by unfold shp; rfl
  have hs := facts (k : Int)
  have hcmd : (shp (k : Int)).cmd = cmd := by rw [hsh]; exact hcmd
  subst hcmd
  unfold getOf at h ⊢
  have hno : Txs.none.Ok := ⟨by decide, by simp [Txs.none], by simp [Txs.none]⟩
  by_cases ht : (shp (k : Int)).tx = true
  · rw [if_pos ht] at h ⊢
    obtain ⟨a1, a2, a3, a4⟩ := hs.tx ht
    by_cases he : (Txs.whole b).2 ≠ 0
    · rw [if_pos he] at h; exact absurd h he
    · rw [if_neg he]
      obtain ⟨w1, w2, w3⟩ := whole_back (by simpa using he)
      refine ⟨⟨by show _ ≤ (k : Int); omega, by show (k : Int) ≤ _; omega, by show (0 : Nat) < _; omega, by show (0 : Nat) < _; omega, by simp, w1⟩, ?_⟩
      refine put_iff.2 ⟨⟨hkn, fun _ => rfl, fun _ => rfl, fun _ => rfl, (fun h => absurd a3 h), by simp, (fun h => by rw [ht] at h; cases h), Nat.zero_le _⟩, rfl, .inl ⟨ht, w2, w3.symm⟩⟩
  · have ht : (shp (k : Int)).tx = false := by simpa using ht
    rw [if_neg (by simp [ht])] at h ⊢
    by_cases hc : (shp (k : Int)).count = true
    · rw [if_pos hc] at h ⊢
      obtain ⟨a1, a2, a3⟩ := hs.count hc
      unfold many at h ⊢
      rcases Oct.read_back b with ⟨r1, _⟩ | ⟨r1, r2, r3, r4, r5⟩
      · rw [if_pos r1] at h; exact absurd h r1
      rw [if_neg (by simp [r1])] at h ⊢
      generalize Oct.read b = q at *
      by_cases q1 : q.1 = 0
      · rw [if_pos q1] at h; cases h
      rw [if_neg q1] at h ⊢
      by_cases q2 : 32 < q.1
      · rw [if_pos q2] at h; cases h
      rw [if_neg q2] at h ⊢
      by_cases q3 : b.length - q.2.1 < 32 * q.1
      · rw [if_pos q3] at h; cases h
      rw [if_neg q3] at h ⊢
      by_cases q4 : 32 * q.1 < b.length - q.2.1
      · rw [if_pos q4] at h; cases h
      rw [if_neg q4]
      have hl : (b.drop q.2.1).length = 32 * q.1 := by rw [List.length_drop]; omega
      have hh := hashes_len q.1 (b.drop q.2.1)
      have hf := flatten_hashes q.1 (b.drop q.2.1) (by omega)
      rw [List.take_of_length_le (by omega)] at hf
      refine ⟨⟨by show _ ≤ (k : Int); omega, by show (k : Int) ≤ _; omega, by show (0 : Nat) < _; omega, by show (0 : Nat) < _; omega, hashes_ok _ _ (by omega), hno⟩, ?_⟩
      refine put_iff.2 ⟨⟨hkn, fun _ => rfl, fun _ => rfl, (fun h => by rw [show (shp (k : Int)).ids = 32 from a3] at h; cases h), fun _ => by rw [hh]; exact q1, by rw [hh, show (shp (k : Int)).ids = 32 from a3]; omega, fun _ => rfl, Nat.zero_le _⟩, rfl, .inr ⟨ht, ?_⟩⟩
      unfold body
      simp only [hc, if_true, a1, a2, hh, hf, r5, Oct.le, List.append_nil, List.take_append_drop]
    · have hc : (shp (k : Int)).count = false := by simpa using hc
      rw [if_neg (by simp [hc])] at h ⊢
      unfold plain at h ⊢
      by_cases q1 : b.length < sizeOf (shp (k : Int))
      · rw [if_pos q1] at h; cases h
      rw [if_neg q1] at h ⊢
      by_cases q2 : sizeOf (shp (k : Int)) < b.length
      · rw [if_pos q2] at h; cases h
      rw [if_neg q2] at h ⊢
      by_cases q3 : (shp (k : Int)).most < codeOf (shp (k : Int)) b
      · rw [if_pos q3] at h; cases h
      rw [if_neg q3]
      have hsz : b.length = sizeOf (shp (k : Int)) := by omega
      have hi := hs.ids hc
      unfold sizeOf at hsz
      have hl1 : ((b.drop (32 * (shp (k : Int)).ids)).take (shp (k : Int)).code).length = (shp (k : Int)).code := by rw [List.length_take, List.length_drop]; omega
      have hl2 : ((b.drop (32 * (shp (k : Int)).ids + (shp (k : Int)).code)).take (shp (k : Int)).n).length = (shp (k : Int)).n := by rw [List.length_take, List.length_drop]; omega
      have v1 := Oct.val_lt ((b.drop (32 * (shp (k : Int)).ids)).take (shp (k : Int)).code)
      have v2 := Oct.val_lt ((b.drop (32 * (shp (k : Int)).ids + (shp (k : Int)).code)).take (shp (k : Int)).n)
      have e1 := Oct.le_val ((b.drop (32 * (shp (k : Int)).ids)).take (shp (k : Int)).code)
      have e2 := Oct.le_val ((b.drop (32 * (shp (k : Int)).ids + (shp (k : Int)).code)).take (shp (k : Int)).n)
      rw [hl1] at v1 e1
      rw [hl2] at v2 e2
      have hp := pow_code hs
      have hn8 : 256 ^ (shp (k : Int)).n ≤ 18446744073709551616 := by rcases hs.n with h | h <;> rw [h] <;> decide
      have hh := hashes_len (shp (k : Int)).ids b
      refine ⟨⟨by show _ ≤ (k : Int); omega, by show (k : Int) ≤ _; omega, Nat.lt_of_lt_of_le v2 hn8, Nat.lt_of_lt_of_le v1 hp, hashes_ok _ _ (by omega), hno⟩, ?_⟩
      refine put_iff.2 ⟨⟨hkn, fun h => ?_, fun h => ?_, fun h => ?_, fun h => by rw [hh]; exact h, by rw [hh]; exact Nat.le_refl _, fun _ => rfl, Nat.le_of_not_lt q3⟩, rfl, .inr ⟨ht, ?_⟩⟩
      · show numOf _ _ = 0
        have h : (shp (k : Int)).n = 0 := h
        unfold numOf; rw [h]; rfl
      · show codeOf _ _ = 0
        have h : (shp (k : Int)).code = 0 := h
        unfold codeOf; rw [h]; rfl
      · show hashes _ _ = []
        have h : (shp (k : Int)).ids = 0 := h
        rw [h]; rfl
      · unfold body codeOf numOf
        simp only [hc, Bool.false_eq_true, if_false, List.nil_append]
        rw [flatten_hashes _ _ (by omega), e1, e2]
        rw [← List.drop_drop, List.take_of_length_le (l := (b.drop (32 * (shp (k : Int)).ids)).drop (shp (k : Int)).code) (by simp only [List.length_drop]; omega), List.take_append_drop, List.take_append_drop]
theorem get_bad {cmd b : List UInt8} (h : (get cmd b).2 ≠ 0) : (get cmd b).1 = none := by
  unfold get at h ⊢
  split
  · rfl
  · rename_i h0
    rw [if_neg h0] at h
    unfold getOf at h ⊢
    split
    · rename_i ht
      rw [if_pos ht] at h
      split
      · rfl
      · rename_i h1; rw [if_neg h1] at h; exact absurd rfl h
    · rename_i ht
      rw [if_neg ht] at h
      split
      · rename_i hc
        rw [if_pos hc] at h
        unfold many at h ⊢
        (repeat' split) <;> first | rfl | (rename_i a1 a2 a3 a4 a5; rw [if_neg a1, if_neg a2, if_neg a3, if_neg a4, if_neg a5] at h; exact absurd rfl h)
      · rename_i hc
        rw [if_neg hc] at h
        unfold plain at h ⊢
        (repeat' split) <;> first | rfl | (rename_i a1 a2 a3; rw [if_neg a1, if_neg a2, if_neg a3] at h; exact absurd rfl h)
end Go.Proofs.YtpacgblddeoheaaDoor.Msgs
/- How messages lie in memory. -/
namespace Go.Proofs.YtpacgblddeoheaaDoor.M8
open Go.RowKit Go.Deep Go.ChangeShapes Go.WideShapes Go.ChangeAt T7
set_option linter.unusedVariables false
set_option linter.unusedSimpArgs false
set_option maxRecDepth 100000

def IsHash (vs : List Value) (l : List UInt8) : Prop := l.length = 32 ∧ vs = l.map byteV
abbrev HashesAt (w : World) (B : Nat) (A : Option Addr) (l : List (List UInt8)) : Prop := At 32 IsHash w B A l
theorem HashesAt.range {w : World} {B : Nat} {A : Option Addr} {l : List (List UInt8)} (h : HashesAt w B A l) {i : Nat} (hi : i < l.length) :
    ∃ b off, A = some ⟨b, off, none⟩ ∧ b < B ∧ w.rangeAt b (off + i * 32) (l[i].map byteV) ∧ l[i].length = 32 := by
  obtain ⟨b, off, vs, hA, hb, ⟨hk, hvs⟩, hc⟩ := h i hi
  refine ⟨b, off, hA, hb, fun j v hv => ?_, hk⟩
  rw [← hvs] at hv
  obtain ⟨hj, rfl⟩ := List.getElem?_eq_some_iff.1 hv
  exact hc j hj
/-- a message's cells -/
def mCells (k : Int) (n code : Nat) (I : Value) (v : Nat) (i o : Value) : Array Value := #[.int .i64 k, .int .u64 (n : Int), .int .u32 (code : Int), I, .int .u32 (v : Int), i, o]
/-- a message, as a value -/
def msgV (m : Msgs.Msg) (A : Option Addr) (c : Nat) (A1 : Option Addr) (c1 : Nat) (A2 : Option Addr) (c2 : Nat) : Value :=
  .agg #[.int .i64 m.kind, .int .u64 (m.n : Int), .int .u32 (m.code : Int), .slice A m.ids.length c, .int .u32 (m.tx.version : Int), .slice A1 m.tx.ins.length c1, .slice A2 m.tx.outs.length c2]
structure MsgAt (w : World) (B : Nat) (m : Msgs.Msg) (A : Option Addr) (c : Nat) (A1 : Option Addr) (c1 : Nat) (A2 : Option Addr) (c2 : Nat) : Prop where
  lo : -9223372036854775808 ≤ m.kind
  hi : m.kind ≤ 9223372036854775807
  n : m.n < 18446744073709551616
  code : m.code < 4294967296
  ic : m.ids.length ≤ c
  im : c ≤ maxLen
  ids : HashesAt w B A m.ids
  tx : TxAt w B m.tx A1 c1 A2 c2
section
variable {w w' : World} {B B' : Nat} {m : Msgs.Msg} {A A1 A2 : Option Addr} {c c1 c2 : Nat}
theorem MsgAt.below (h : MsgAt w B m A c A1 c1 A2 c2) (hb : Below B w w') : MsgAt w' B m A c A1 c1 A2 c2 := ⟨h.lo, h.hi, h.n, h.code, h.ic, h.im, At.below h.ids hb, h.tx.below hb⟩
theorem MsgAt.mono (h : MsgAt w B m A c A1 c1 A2 c2) (hb : B ≤ B') : MsgAt w B' m A c A1 c1 A2 c2 := ⟨h.lo, h.hi, h.n, h.code, h.ic, h.im, At.mono h.ids hb, h.tx.mono hb⟩
theorem MsgAt.ok (h : MsgAt w B m A c A1 c1 A2 c2) : m.Ok := ⟨h.lo, h.hi, h.n, h.code, all_of_at h.ids fun _ _ h => h.1, h.tx.ok⟩
end
/-- a message that lies in memory made behind B0 -/
def MsgNew (B0 : Nat) (w : World) (m : Msgs.Msg) (A : Option Addr) (c : Nat) (A1 : Option Addr) (c1 : Nat) (A2 : Option Addr) (c2 : Nat) : Prop := ∀ wz, Kp (fun i => i < B0) w wz → MsgAt wz wz.heap.size m A c A1 c1 A2 c2
theorem MsgNew.at_ {B0 : Nat} {w : World} {m : Msgs.Msg} {A A1 A2 : Option Addr} {c c1 c2 : Nat} (h : MsgNew B0 w m A c A1 c1 A2 c2) : MsgAt w w.heap.size m A c A1 c1 A2 c2 := h w (Kp.refl _ _)
/-- a message that was read, and an error's number -/
def MsgOut (w w' : World) (r : Msgs.Msg × Int) (e : Ending) : Prop :=
  ∃ A c A1 c1 A2 c2, e = .returned (.tuple #[msgV r.1 A c A1 c1 A2 c2, .int .i64 r.2]) ∧ MsgNew w.heap.size w' r.1 A c A1 c1 A2 c2 ∧ Below w.heap.size w w'
theorem none_tx (w : World) (B : Nat) : TxAt w B Txs.none none 0 none 0 := ⟨by decide, Nat.le_refl _, by simp [maxLen], Nat.le_refl _, by simp [maxLen], fun i hi => by simp [Txs.none] at hi, fun i hi => by simp [Txs.none] at hi⟩
theorem none_msg (w : World) (B : Nat) : MsgAt w B Msgs.none none 0 none 0 none 0 := ⟨by decide, by decide, by decide, by decide, Nat.le_refl _, by simp [maxLen], fun i hi => by simp [Msgs.none] at hi, none_tx w B⟩
theorem none_new (w : World) (B0 : Nat) : MsgNew B0 w Msgs.none none 0 none 0 none 0 := fun wz _ => none_msg wz _
theorem size_msg : (Tryd.prog.info? 51).map (·.size) = some 7 := by kernel_rfl
theorem zero_msg : (Tryd.prog.info? 51).map (·.zero) = some (some (.agg #[.int .i64 0, .int .u64 0, .int .u32 0, .slice none 0 0, .int .u32 0, .slice none 0 0, .slice none 0 0])) := by kernel_rfl
theorem msg_cells {w : World} {g : Nat} {T : TypeId} {k : Int} {n code v : Nat} {I i o : Value} (h : Bk w g T (mCells k n code I v i o)) :
    w.cell? ⟨g, 0, none⟩ = some (.int .i64 k) ∧ w.cell? ⟨g, 1, none⟩ = some (.int .u64 (n : Int)) ∧ w.cell? ⟨g, 2, none⟩ = some (.int .u32 (code : Int)) ∧ w.cell? ⟨g, 3, none⟩ = some I ∧
    w.cell? ⟨g, 4, none⟩ = some (.int .u32 (v : Int)) ∧ w.cell? ⟨g, 5, none⟩ = some i ∧ w.cell? ⟨g, 6, none⟩ = some o :=
  ⟨(h.cell 0).trans rfl, (h.cell 1).trans rfl, (h.cell 2).trans rfl, (h.cell 3).trans rfl, (h.cell 4).trans rfl, (h.cell 5).trans rfl, (h.cell 6).trans rfl⟩
/-! ### what came in -/
theorem array7 {α : Type} {cs : Array α} (h : cs.size = 7) : ∃ c0 c1 c2 c3 c4 c5 c6, cs = #[c0, c1, c2, c3, c4, c5, c6] := by
  obtain ⟨l⟩ := cs
  match l, h with
  | [c0, c1, c2, c3, c4, c5, c6], _ => exact ⟨c0, c1, c2, c3, c4, c5, c6, rfl⟩
section
variable {H : Type} {enc : TypeId × Value → H} {W : World} {base : Nat} {sp : Nat → Bool} {held : Bool}
theorem trod_struct5 {P : Program} {t : TypeId} {f0 f1 f2 f3 f4 : Field} {fuel : Nat} {cs : List Value} {x : DataW H × List MemPlace} (ht : P.underlying t = some (.struct #[f0, f1, f2, f3, f4])) (h : DataW.trod enc P W base sp held fuel t cs = some x) :
    ∃ y0 y1 y2 y3 y4 n, DataW.trod enc P W base sp held n f0.type ((cs.drop f0.offset).take (P.cellsOf f0.type)) = some y0 ∧ DataW.trod enc P W base sp held n f1.type ((cs.drop f1.offset).take (P.cellsOf f1.type)) = some y1 ∧
      DataW.trod enc P W base sp held n f2.type ((cs.drop f2.offset).take (P.cellsOf f2.type)) = some y2 ∧ DataW.trod enc P W base sp held n f3.type ((cs.drop f3.offset).take (P.cellsOf f3.type)) = some y3 ∧ DataW.trod enc P W base sp held n f4.type ((cs.drop f4.offset).take (P.cellsOf f4.type)) = some y4 := by
  obtain ⟨xs, n, _, _, _, hx, hi⟩ := DataW.trod_struct ht h
  match xs, hx with
  | [y0, y1, y2, y3, y4], _ => exact ⟨y0, y1, y2, y3, y4, n, hi 0 f0 rfl, hi 1 f1 rfl, hi 2 f2 rfl, hi 3 f3 rfl, hi 4 f4 rfl⟩
theorem isHash_open (n : Nat) (cs : List Value) (x : DataW H × List MemPlace) (hl : cs.length = 32) (h : DataW.trod enc Tryd.prog W base sp held n 93 cs = some x) : ∃ y : List UInt8, IsHash cs y := by
  obtain ⟨l, h1, h2⟩ := hash_open h
  exact ⟨l, h2, h1⟩
theorem tx3_open {v4 v5 v6 : Value} {m : Nat} {y : DataW H × List MemPlace} (h : DataW.trod enc Tryd.prog W 0 (fun _ => true) true m 49 [v4, v5, v6] = some y) :
    ∃ t A c A' c', v4 = .int .u32 (t.version : Int) ∧ v5 = .slice A t.ins.length c ∧ v6 = .slice A' t.outs.length c' ∧ TxAt W W.heap.size t A c A' c' := by
  have cu : Tryd.prog.cellsOf 44 = 1 := by kernel_rfl
  have ci : Tryd.prog.cellsOf 46 = 1 := by kernel_rfl
  have co : Tryd.prog.cellsOf 47 = 1 := by kernel_rfl
  obtain ⟨z0, z1, z2, m', _, _, g0, g1, g2⟩ := trod_struct3 Tryd.underlying49 h
  simp only [cu, ci, co, List.drop_zero, List.drop_succ_cons, List.take_succ_cons, List.take_zero] at g0 g1 g2
  obtain ⟨k2, e2, _, w2⟩ := DataW.trod_int Tryd.underlying44 g0
  obtain ⟨a2, b2⟩ := wf_u32 w2
  injection e2 with e2 _
  subst e2
  obtain ⟨A, len, c, li, rfl, hl, hc, hm, hat⟩ := open_at_of (IsIn W W.heap.size) 34 (by omega) Tryd.underlying46 (by kernel_rfl) g1 isIn_open
  subst hl
  obtain ⟨A', len', c', lo, rfl, hl', hc', hm', hat'⟩ := open_at_of IsOut 33 (by omega) Tryd.underlying47 (by kernel_rfl) g2 (fun n cs x => isOut_open n cs x)
  subst hl'
  refine ⟨⟨k2.toNat, li, lo⟩, A, c, A', c', ?_, rfl, rfl, ⟨by show k2.toNat < _; omega, hc, hm, hc', hm', hat, hat'⟩⟩
  show _ = Value.int .u32 ((k2.toNat : Nat) : Int)
  rw [show ((k2.toNat : Nat) : Int) = k2 by omega]
theorem msg7_open {v0 v1 v2 v3 v4 v5 v6 : Value} {m : Nat} {y : DataW H × List MemPlace} (h : DataW.trod enc Tryd.prog W 0 (fun _ => true) true m 51 [v0, v1, v2, v3, v4, v5, v6] = some y) :
    ∃ t A c A1 c1 A2 c2, Value.agg #[v0, v1, v2, v3, v4, v5, v6] = msgV t A c A1 c1 A2 c2 ∧ MsgAt W W.heap.size t A c A1 c1 A2 c2 := by
  have c3 : Tryd.prog.cellsOf 3 = 1 := by kernel_rfl
  have ctx : Tryd.prog.cellsOf 49 = 3 := by kernel_rfl
  have chs : Tryd.prog.cellsOf 45 = 1 := by kernel_rfl
  have c64 : Tryd.prog.cellsOf 27 = 1 := by kernel_rfl
  have c32 : Tryd.prog.cellsOf 44 = 1 := by kernel_rfl
  obtain ⟨y0, y1, y2, y3, y4, m', h0, h1, h2, h3, h4⟩ := trod_struct5 Tryd.underlying51 h
  simp only [c3, ctx, chs, c64, c32] at h0 h1 h2 h3 h4
  simp only [List.drop_zero, List.drop_succ_cons, List.take_succ_cons, List.take_zero] at h0 h1 h2 h3 h4
  obtain ⟨k0, e0, _, w0⟩ := DataW.trod_int Tryd.underlying3 h0
  obtain ⟨k1, e1, _, w1⟩ := DataW.trod_int Tryd.underlying27 h1
  obtain ⟨k2, e2, _, w2⟩ := DataW.trod_int Tryd.underlying44 h2
  obtain ⟨a0, b0⟩ := wf_i64 w0
  obtain ⟨a1, b1⟩ := wf_u64 w1
  obtain ⟨a2, b2⟩ := wf_u32 w2
  injection e0 with e0 _
  injection e1 with e1 _
  injection e2 with e2 _
  subst e0 e1 e2
  obtain ⟨Ap, lenp, cp, lp, rfl, hlp, hcp, hmp, hatp⟩ := open_at_of IsHash 32 (by omega) Tryd.underlying45 (by kernel_rfl) h3 (fun n cs x => isHash_open n cs x)
  subst hlp
  obtain ⟨t, A1, c1, A2, c2, rfl, rfl, rfl, ht⟩ := tx3_open h4
  refine ⟨⟨k0, k1.toNat, k2.toNat, lp, t⟩, Ap, cp, A1, c1, A2, c2, ?_, ⟨a0, b0, by show k1.toNat < _; omega, by show k2.toNat < _; omega, hcp, hmp, hatp, ht⟩⟩
  unfold msgV
  simp only [show ((k1.toNat : Nat) : Int) = k1 by omega, show ((k2.toNat : Nat) : Int) = k2 by omega]
theorem msg_open {v : Value} {d : DataW H} {p : List MemPlace} (hv : Value.okWide Tryd.prog W .any 0 51 v) (h : DataW.Trod enc Tryd.prog W 0 (fun _ => true) true 51 v d p) :
    ∃ t A c A1 c1 A2 c2, v = msgV t A c A1 c1 A2 c2 ∧ MsgAt W W.heap.size t A c A1 c1 A2 c2 := by
  obtain ⟨cs, rfl, hsz⟩ := okWide_struct Tryd.underlying51 hv
  obtain ⟨v0, v1, v2, v3, v4, v5, v6, rfl⟩ := array7 (hsz.trans (by kernel_rfl))
  obtain ⟨fuel, hf⟩ := h
  obtain ⟨t, A, c, A1, c1, A2, c2, h1, h2⟩ := msg7_open (by simpa [Value.cells] using hf)
  exact ⟨t, A, c, A1, c1, A2, c2, h1, h2⟩
end
end Go.Proofs.YtpacgblddeoheaaDoor.M8
/- Package msg: ids out of bytes. -/
namespace Go.Proofs.YtpacgblddeoheaaDoor.M8
open Go.RowKit Go.Deep T7
set_option linter.unusedVariables false
set_option linter.unusedSimpArgs false
set_option maxRecDepth 100000
attribute [local go_sem ↓] Go.wp_at_zero Go.wp_at_succ

theorem hash_info8 : (Tryd.prog.info? 93).map (fun i => (i.zero, i.size, i.bytes)) = some (some (.agg (bytesArr (List.replicate 32 0))), 32, 32) := by kernel_rfl
theorem made_bytes (m N : Nat) (hm : 0 < m) : madeCells (bytesArr (List.replicate m (0 : UInt8))) N = bytesArr (List.replicate N 0) := by
  apply Array.ext_getElem?
  intro i
  simp only [madeCells, bytesArr]
  by_cases h : i < N
  · have h32 : i % m < m := Nat.mod_lt _ hm
    simp [h, h32, byteV]
  · simp [h]
theorem made_hashes (n : Nat) : madeCells (Value.agg (bytesArr (List.replicate 32 (0 : UInt8)))).cells (n * 32) = bytesArr (List.replicate (n * 32) 0) := made_bytes 32 (n * 32) (by omega)
/-- hashes that lie as bytes -/
theorem hashes_of_bytes {w : World} {g t n : Nat} {b : List UInt8} (h : Bk w g t (bytesArr (b.take (32 * n)))) (hl : 32 * n ≤ b.length) : HashesAt w w.heap.size (some ⟨g, 0, none⟩) (Msgs.hashes b n) := by
  have hat : ∀ (n i : Nat) (b : List UInt8), i < n → (Msgs.hashes b n)[i]? = some ((b.drop (i * 32)).take 32) := by
    intro n
    induction n with
    | zero => intro i b h; omega
    | succ n ih =>
      intro i b h
      cases i with
      | zero => simp [Msgs.hashes]
      | succ i =>
        rw [Msgs.hashes, List.getElem?_cons_succ, ih i (b.drop 32) (by omega), List.drop_drop]
        rw [show 32 + i * 32 = (i + 1) * 32 by omega]
  intro i hi
  have hin : i < n := by rwa [Msgs.hashes_len] at hi
  have e := hat n i b hin
  rw [List.getElem?_eq_getElem hi] at e
  injection e with e
  have hlen : ((b.drop (i * 32)).take 32).length = 32 := by rw [List.length_take, List.length_drop]; omega
  refine ⟨g, 0, ((b.drop (i * 32)).take 32).map byteV, rfl, h.lt, ⟨by rw [e]; exact hlen, by rw [e]⟩, fun j hj => ?_⟩
  rw [List.length_map, hlen] at hj
  rw [h.cell]
  simp only [bytesArr, List.getElem?_toArray, List.getElem?_map, List.getElem_map, List.getElem_take, List.getElem_drop]
  rw [List.getElem?_take_of_lt (by omega), List.getElem?_eq_getElem (by omega)]
  simp [Nat.add_comm]
set_option maxHeartbeats 2000000 in
theorem list_any (A : Option Addr) (L c B n : Nat) (b : List UInt8) (w : World) (hl : b.length = L) (hc : L ≤ c) (hm : c ≤ maxLen) (hat : BytesAt w B A b) (hB : B ≤ w.heap.size) (hn : 32 * n ≤ L) (h32 : n ≤ 32) :
    Calls Tryd.prog 92 #[.slice A L c, .int .i64 (n : Int)] w fun e w' => ∃ A' r c', e = .returned (.tuple #[.slice (some ⟨w.heap.size, 0, none⟩) n n, .slice A' r c']) ∧ r + 32 * n = L ∧ r ≤ c' ∧ c' ≤ maxLen ∧ BytesAt w' B A' (b.drop (32 * n)) ∧
      HashesAt w' w'.heap.size (some ⟨w.heap.size, 0, none⟩) (Msgs.hashes b n) ∧ Below w.heap.size w w' := by
  have hmk := run_make_rows (P := Tryd.prog) 45 93 _ 32 32 Tryd.underlying45 hash_info8 .i64 .i64 n (by omega) (by omega)
  rw [made_hashes] at hmk
  obtain ⟨z0, hz0⟩ : ∃ z0, z0 = bytesArr (List.replicate (n * 32) (0 : UInt8)) := ⟨_, rfl⟩
  rw [← hz0] at hmk
  have HZ0 := Lib.hid hz0
  have HL := Lib.hid hl
  have HAT := Lib.hid hat
  obtain ⟨g, hg⟩ : ∃ g, g = w.heap.size := ⟨_, rfl⟩
  obtain ⟨w2, hw2⟩ : ∃ w2, w2 = w.alloc (.cells z0 93) := ⟨_, rfl⟩
  have HK2 := Lib.hid (show Bk w2 g 93 (bytesArr (b.take (32 * 0) ++ List.replicate (32 * n - 32 * 0) 0)) by
    rw [hw2, hg, hz0]
    have := Bk.new w 93 (bytesArr (List.replicate (n * 32) (0 : UInt8)))
    simpa [Nat.mul_comm] using this)
  have HB2 := Lib.hid (show Below w.heap.size w w2 by rw [hw2]; exact Joins.below_alloc1 _ _)
  have HG := Lib.hid hg
  have hgB : B ≤ g := by omega
  clear hz0 hl hat
  go_enter Tryd.func92, Tryd.ntmps92
  go_upto_region 2 with (fail)
  rw [← hw2, ← hg]
  clear hw2 hg hmk
  go_wp2_with fail
  go_loopw [0, 12] (fun u v wr => ∃ (k r ci : Nat) (Ai : Option Addr), k ≤ n ∧ v = .int .i64 (k : Int) ∧ u = .slice Ai r ci ∧ r + 32 * k = L ∧ r ≤ ci ∧ ci ≤ maxLen ∧ Hid (BytesAt wr B Ai (b.drop (32 * k))) ∧ Hid (Bk wr g 93 (bytesArr (b.take (32 * k) ++ List.replicate (32 * n - 32 * k) 0))) ∧ Hid (Below w.heap.size w wr)) (fun _ v _ => n - (intOf v).toNat)
  case atStart => exact ⟨0, L, c, A, Nat.zero_le _, rfl, rfl, rfl, hc, hm, Lib.hid (by simpa using At.below HAT.out (HB2.out.mono hB)), HK2, HB2⟩
  case round =>
    obtain ⟨k, r, ci, Ai, hk, rfl, rfl, hr, hrc, hcm, hbk, hrow, hb⟩ := hrel
    by_cases hlt : k < n
    · have hbl : (b.drop (32 * k)).length = r := by rw [List.length_drop, HL.out]; omega
      obtain ⟨bb, off, rfl, hbB, hcell⟩ := hbk.out.cell (i := 0) (by omega)
      obtain ⟨W2, hcp, kb2, kk2⟩ := copy_row_bytes 93 wr g (k * 32) 32 r B 32 (some ⟨bb, off, none⟩) _ (b.drop (32 * k)) hrow.out hbk.out hbl (by omega) (by rw [List.length_append, List.length_take, List.length_replicate, HL.out]; omega)
      have HROW := Lib.hid (show Bk W2 g 93 (bytesArr (b.take (32 * (k + 1)) ++ List.replicate (32 * n - 32 * (k + 1)) 0)) by
        have e : (b.take (32 * k) ++ List.replicate (32 * n - 32 * k) (0 : UInt8)).take (k * 32) ++ (b.drop (32 * k)).take 32 ++ (b.take (32 * k) ++ List.replicate (32 * n - 32 * k) (0 : UInt8)).drop (k * 32 + 32) = b.take (32 * (k + 1)) ++ List.replicate (32 * n - 32 * (k + 1)) 0 := by
          have hlt' : (b.take (32 * k)).length = k * 32 := by rw [List.length_take, HL.out]; omega
          rw [List.take_left' hlt', ← List.drop_drop, List.drop_left' hlt', List.drop_replicate, show 32 * (k + 1) = 32 * k + 32 by omega, List.take_add, show 32 * n - 32 * k - 32 = 32 * n - (32 * k + 32) by omega]
        rw [← e]
        exact kb2)
      have HBA := Lib.hid (show BytesAt W2 B (some ⟨bb, off, none⟩) (b.drop (32 * k)) from At.kp hbk.out kk2 (by have := hb.out.size; omega) (fun i hi e => by omega))
      have HBW := Lib.hid (show Below w.heap.size w W2 from Kp.from_elder hb.out kk2 (fun i hi e => by rw [HG.out] at e; omega))
      have i1 : (0 : Int) ≤ (k : Int) := by omega
      have i2 : (k : Int) < (n : Int) := by omega
      have i3 : (32 : Int) ≤ (r : Int) := by omega
      have hr32 : 32 ≤ r := by omega
      clear kb2 kk2 hbk hrow hb hcell hbl HK2 HB2
      unfold maxLen at hcm
      have HDR := Lib.hid (show b.drop (32 * (k + 1)) = (b.drop (32 * k)).drop 32 by rw [List.drop_drop]; congr 1)
      by_cases hcap : ci = 32
      · go_wp2_with fail
        go_roundw
        case rel =>
          refine ⟨k + 1, r - 32, 0, some ⟨bb, off, none⟩, by omega, by go_num, rfl, by omega, by omega, by simp [maxLen], Lib.hid ?_, HROW, HBW⟩
          rw [List.drop_of_length_le (by rw [HL.out]; omega)]
          intro i hi
          simp at hi
        case measure => simp [intOf]; omega
      · go_wp2_with fail
        go_roundw
        case rel =>
          refine ⟨k + 1, r - 32, ci - 32, some ⟨bb, off + 32, none⟩, by omega, by go_num, rfl, by omega, by omega, by unfold maxLen; omega, Lib.hid ?_, HROW, HBW⟩
          rw [HDR.out]
          exact BytesAt.drop HBA.out 32
        case measure => simp [intOf]; omega
    · obtain rfl : k = n := by omega
      have HH := Lib.hid (show HashesAt wr wr.heap.size (some ⟨g, 0, none⟩) (Msgs.hashes b k) from hashes_of_bytes (t := 93) (by have := hrow.out; rwa [Nat.sub_self, List.replicate_zero, List.append_nil] at this) (by rw [HL.out]; exact hn))
      clear hrow
      go_wp2_with fail
      go_ret2
      exact ⟨Ai, r, ci, by rw [← HG.out]; rfl, hr, hrc, hcm, hbk.out, by rw [← HG.out]; exact HH.out, hb.out⟩
/-- ids that were read, and an error's number -/
def ManyOut (w w' : World) (r : List (List UInt8) × Int) (e : Ending) : Prop :=
  ∃ A' c', e = .returned (.tuple #[.slice A' r.1.length c', .int .i64 r.2]) ∧ r.1.length ≤ c' ∧ c' ≤ maxLen ∧ HashesAt w' w'.heap.size A' r.1 ∧ (∀ a, A' = some a → w.heap.size ≤ a.block) ∧ Below w.heap.size w w'
theorem ManyOut.bad (w : World) (x : Int) : ManyOut w w ([], x) (.returned (.tuple #[.slice none 0 0, .int .i64 x])) := ⟨none, 0, rfl, Nat.le_refl _, by simp [maxLen], fun i hi => by simp at hi, (fun a ha => by cases ha), Below.refl _ _⟩
def manyI (b : List UInt8) : List (List UInt8) × Int := ((Msgs.many 0 b).1.ids, (Msgs.many 0 b).2)
theorem many_err (k : Int) (b : List UInt8) : (Msgs.many k b).2 = (manyI b).2 ∧ ((manyI b).2 ≠ 0 → Msgs.many k b = (Msgs.none, (manyI b).2)) ∧ ((manyI b).2 = 0 → Msgs.many k b = (⟨k, 0, 0, (manyI b).1, Txs.none⟩, 0)) := by
  unfold manyI Msgs.many
  by_cases h1 : (Oct.read b).2.2 ≠ 0
  · simp only [if_pos h1]; exact ⟨trivial, fun _ => trivial, fun h => absurd h h1⟩
  simp only [if_neg h1]
  by_cases h2 : (Oct.read b).1 = 0
  · simp only [if_pos h2]; exact ⟨trivial, fun _ => trivial, fun h => by cases h⟩
  simp only [if_neg h2]
  by_cases h3 : 32 < (Oct.read b).1
  · simp only [if_pos h3]; exact ⟨trivial, fun _ => trivial, fun h => by cases h⟩
  simp only [if_neg h3]
  by_cases h4 : b.length - (Oct.read b).2.1 < 32 * (Oct.read b).1
  · simp only [if_pos h4]; exact ⟨trivial, fun _ => trivial, fun h => by cases h⟩
  simp only [if_neg h4]
  by_cases h5 : 32 * (Oct.read b).1 < b.length - (Oct.read b).2.1
  · simp only [if_pos h5]; exact ⟨trivial, fun _ => trivial, fun h => by cases h⟩
  simp only [if_neg h5]
  exact ⟨trivial, fun h => absurd rfl h, fun _ => trivial⟩
set_option maxHeartbeats 2000000 in
theorem many_any (A : Option Addr) (L c B : Nat) (b : List UInt8) (w : World) (hl : b.length = L) (hc : L ≤ c) (hm : c ≤ maxLen) (hat : BytesAt w B A b) (hB : B ≤ w.heap.size) :
    Calls Tryd.prog 76 #[.slice A L c, .int .i64 32] w fun e w' => ManyOut w w' (manyI b) e := by
  have hrd := fun W h => oread_any A L c B b W hl hc hm h
  have hML := Lib.hid (show manyI b = if (Oct.read b).2.2 ≠ 0 then ([], (Oct.read b).2.2) else if (Oct.read b).1 = 0 then ([], 9) else if 32 < (Oct.read b).1 then ([], 5) else if b.length - (Oct.read b).2.1 < 32 * (Oct.read b).1 then ([], 4) else if 32 * (Oct.read b).1 < b.length - (Oct.read b).2.1 then ([], 5) else (Msgs.hashes (b.drop (Oct.read b).2.1) (Oct.read b).1, 0) by
    unfold manyI Msgs.many
    (repeat' split) <;> rfl)
  rcases Oct.read_back b with ⟨r1, r2, r3, _⟩ | ⟨r1, r2, r3, r4, r5⟩
  · rw [if_pos r1] at hML
    have HX := Lib.hid hML.out
    unfold readV at hrd
    rw [r2, r3] at hrd
    have HRD := Lib.hid hrd
    generalize (Oct.read b).2.2 = er at *
    have e1 : (er != 0) = true := by rw [bne_iff_ne]; exact r1
    rw [HX.out]
    have HAT := Lib.hid hat
    clear r1 r2 r3 hML hrd hat hl
    go_enter Tryd.func76, Tryd.ntmps76
    go_wp2_with fail
    refine (HRD.out _ HAT.out).mono ?_
    rintro e w1 ⟨rfl, rfl⟩
    go_wp2_with fail
    go_ret2
    exact ManyOut.bad _ _
  · rw [if_neg (by simp [r1])] at hML
    unfold readV at hrd
    rw [r1] at hrd
    have hj := r3
    generalize (Oct.read b).1 = x at *
    generalize (Oct.read b).2.1 = j at *
    have hj1 := Oct.size_pos x
    rw [← hj] at hj1
    have HRD := Lib.hid hrd
    have HAT := Lib.hid hat
    have HLL := Lib.hid hl
    rw [hl] at hML
    have hjl : j ≤ L := by rw [hl] at r4; exact r4
    clear r1 r3 r4 r5 hj hrd hat hl
    have hx0 : (0 : Int) ≤ (x : Int) := by omega
    rcases Nat.eq_zero_or_pos x with q1 | q1
    · rw [if_pos q1] at hML
      subst q1
      rw [hML.out]
      go_enter Tryd.func76, Tryd.ntmps76
      go_wp2_with fail
      refine (HRD.out _ HAT.out).mono ?_
      rintro e w1 ⟨rfl, rfl⟩
      go_wp2_with fail
      go_ret2
      exact ManyOut.bad _ _
    rw [if_neg (by omega)] at hML
    have q1' : ((x : Int) == 0) = false := by rw [beq_eq_false_iff_ne]; omega
    rcases Nat.lt_or_ge 32 x with q2 | q2
    · rw [if_pos q2] at hML
      rw [hML.out]
      have q2' : (32 : Int) < (x : Int) := by omega
      go_enter Tryd.func76, Tryd.ntmps76
      go_wp2_with fail
      refine (HRD.out _ HAT.out).mono ?_
      rintro e w1 ⟨rfl, rfl⟩
      go_wp2_with fail
      go_ret2
      exact ManyOut.bad _ _
    rw [if_neg (by omega)] at hML
    have q2' : ¬ (32 : Int) < (x : Int) := by omega
    have i1 : (0 : Int) ≤ (j : Int) := by omega
    have i2 : (j : Int) ≤ (c : Int) := by omega
    have i3 : (j : Int) ≤ (L : Int) := by omega
    have HMX := Lib.hid hm
    have hA : ∃ bb off, A = some ⟨bb, off, none⟩ := by
      obtain ⟨bb, off, h, _⟩ := HAT.out.cell (i := 0) (by rw [HLL.out]; omega)
      exact ⟨bb, off, h⟩
    obtain ⟨bb, off, rfl⟩ := hA
    have HDL := Lib.hid (show (b.drop j).length = L - j by rw [List.length_drop, HLL.out])
    unfold maxLen at hm
    have hx32 : (x : Int) ≤ 32 := by omega
    obtain ⟨r, hr⟩ : ∃ r, r = L - j := ⟨_, rfl⟩
    have hrj : r + j = L := by omega
    rw [← hr] at hML HDL
    have hcase : r < 32 * x ∨ 32 * x < r ∨ r = 32 * x := by omega
    rcases hcase with q3 | q3 | q3
    · rw [if_pos q3] at hML
      rw [hML.out]
      have q3' : ((L - j : Nat) : Int) < 32 * (x : Int) := by omega
      by_cases hcj : c = j
      · subst hcj
        go_enter Tryd.func76, Tryd.ntmps76
        go_wp2_with fail
        refine (HRD.out _ HAT.out).mono ?_
        rintro e w1 ⟨rfl, rfl⟩
        clear HRD
        go_wp2_with fail
        go_ret2
        exact ManyOut.bad _ _
      · have hcj' : ¬ (c : Int) = (j : Int) := by omega
        go_enter Tryd.func76, Tryd.ntmps76
        go_wp2_with fail
        refine (HRD.out _ HAT.out).mono ?_
        rintro e w1 ⟨rfl, rfl⟩
        clear HRD
        go_wp2_with fail
        go_ret2
        exact ManyOut.bad _ _
    · rw [if_neg (by omega), if_pos q3] at hML
      rw [hML.out]
      have q3' : ¬ ((L - j : Nat) : Int) < 32 * (x : Int) := by omega
      have q4' : 32 * (x : Int) < ((L - j : Nat) : Int) := by omega
      have hcj : ¬ c = j := by omega
      go_enter Tryd.func76, Tryd.ntmps76
      go_wp2_with fail
      refine (HRD.out _ HAT.out).mono ?_
      rintro e w1 ⟨rfl, rfl⟩
      clear HRD
      go_wp2_with fail
      go_ret2
      exact ManyOut.bad _ _
    · rw [if_neg (by omega), if_neg (by omega)] at hML
      rw [hML.out]
      have q3' : ¬ ((L - j : Nat) : Int) < 32 * (x : Int) := by omega
      have q4' : ¬ 32 * (x : Int) < ((L - j : Nat) : Int) := by omega
      have hcj : ¬ c = j := by omega
      go_enter Tryd.func76, Tryd.ntmps76
      go_wp2_with fail
      refine (HRD.out _ HAT.out).mono ?_
      rintro e w1 ⟨rfl, rfl⟩
      clear HRD
      go_wp2_with fail
      rw [← hr]
      refine (list_any (some ⟨bb, off + j, none⟩) r (c - j) B x (b.drop j) _ HDL.out (by omega) (by unfold maxLen; omega) (BytesAt.drop HAT.out j) hB (by omega) (by omega)).mono ?_
      rintro e w2 ⟨A2, r2, c2, rfl, _, _, _, _, hh2, hb2⟩
      have HH2 := Lib.hid hh2
      have HB2 := Lib.hid hb2
      clear hh2 hb2
      go_wp2_with fail
      go_ret2
      exact ⟨some ⟨w.heap.size, 0, none⟩, x, by rw [Msgs.hashes_len]; rfl, by rw [Msgs.hashes_len]; exact Nat.le_refl _, by unfold maxLen; omega, HH2.out, (fun a ha => by cases ha; exact Nat.le_refl _), HB2.out⟩
end Go.Proofs.YtpacgblddeoheaaDoor.M8
