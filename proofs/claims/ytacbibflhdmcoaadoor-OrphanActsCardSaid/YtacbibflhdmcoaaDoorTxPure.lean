/- Transactions as bytes, in plain Lean: no program in sight. -/
import Derived.Test.YtacbibflhdmcoaaDoorOctetPlain
set_option linter.unusedVariables false
set_option linter.unusedSimpArgs false
namespace Go.Proofs.YtacbibflhdmcoaaDoor.Txs
structure In where
  hash : List UInt8
  n : Nat
  key : List UInt8
structure Out where
  value : Nat
  lock : List UInt8
structure Tx where
  version : Nat
  ins : List In
  outs : List Out
instance : DecidableEq In := fun a b => decidable_of_iff (a.hash = b.hash ∧ a.n = b.n ∧ a.key = b.key) (by cases a; cases b; simp)
instance : DecidableEq Out := fun a b => decidable_of_iff (a.value = b.value ∧ a.lock = b.lock) (by cases a; cases b; simp)
instance : DecidableEq Tx := fun a b => decidable_of_iff (a.version = b.version ∧ a.ins = b.ins ∧ a.outs = b.outs) (by cases a; cases b; simp)
def none : Tx := ⟨0, [], []⟩
/-- what comes of Go's types -/
def In.Ok (x : In) : Prop := x.hash.length = 32 ∧ x.n < 4294967296
def Out.Ok (x : Out) : Prop := x.value < 18446744073709551616 ∧ x.lock.length = 32
def Tx.Ok (t : Tx) : Prop := t.version < 4294967296 ∧ (∀ x ∈ t.ins, x.Ok) ∧ ∀ x ∈ t.outs, x.Ok
def form (t : Tx) : Bool := t.ins.all (fun x => decide (x.key.length ≤ 64)) && (decide (t.ins.length ≤ 8) && decide (t.outs.length ≤ 8))
theorem form_iff {t : Tx} : form t = true ↔ (∀ x ∈ t.ins, x.key.length ≤ 64) ∧ t.ins.length ≤ 8 ∧ t.outs.length ≤ 8 := by simp [form]
/-- how many there are, or how long -/
def one (n : Nat) : List UInt8 := [UInt8.ofNat n]
theorem one_var {n : Nat} (h : n < 253) : Oct.var n = one n := by unfold Oct.var one; rw [if_pos h]
def inB (x : In) : List UInt8 := x.hash ++ (Oct.le x.n 4 ++ (one x.key.length ++ x.key))
def outB (x : Out) : List UInt8 := Oct.le x.value 8 ++ x.lock
def insB (l : List In) : List UInt8 := l.flatMap inB
def outsB (l : List Out) : List UInt8 := l.flatMap outB
def bytes (t : Tx) : List UInt8 := Oct.le t.version 4 ++ (one t.ins.length ++ (insB t.ins ++ (one t.outs.length ++ outsB t.outs)))
theorem inB_len {x : In} (h : x.Ok) : (inB x).length = 37 + x.key.length := by unfold inB one; simp only [List.length_append, Oct.le_length, List.length_cons, List.length_nil, h.1]; omega
theorem outB_len {x : Out} (h : x.Ok) : (outB x).length = 40 := by unfold outB; simp only [List.length_append, Oct.le_length, h.2]
theorem outsB_len {l : List Out} (h : ∀ x ∈ l, x.Ok) : (outsB l).length = 40 * l.length := by
  induction l with
  | nil => rfl
  | cons x l ih =>
    have := ih (fun y hy => h y (by simp [hy]))
    have hx := outB_len (h x (by simp))
    unfold outsB at *
    simp only [List.flatMap_cons, List.length_append, List.length_cons]
    omega
def keys (l : List In) : Nat := (l.map fun x => x.key.length).sum
theorem insB_len {l : List In} (h : ∀ x ∈ l, x.Ok) : (insB l).length = 37 * l.length + keys l := by
  induction l with
  | nil => rfl
  | cons x l ih =>
    have := ih (fun y hy => h y (by simp [hy]))
    have hx := inB_len (h x (by simp))
    unfold insB keys at *
    simp only [List.flatMap_cons, List.length_append, List.length_cons, List.map_cons, List.sum_cons]
    omega
theorem bytes_len {t : Tx} (h : t.Ok) : (bytes t).length = 6 + 37 * t.ins.length + 40 * t.outs.length + keys t.ins := by
  unfold bytes one
  simp only [List.length_append, Oct.le_length, List.length_cons, List.length_nil, insB_len h.2.1, outsB_len h.2.2]
  omega
theorem keys_le {l : List In} (h : ∀ x ∈ l, x.key.length ≤ 64) : keys l ≤ 64 * l.length := by
  induction l with
  | nil => simp [keys]
  | cons x l ih =>
    have := ih (fun y hy => h y (by simp [hy]))
    have hx := h x (by simp)
    unfold keys at *
    simp only [List.map_cons, List.sum_cons, List.length_cons]
    omega
theorem bytes_small {t : Tx} (h : t.Ok) (hf : form t = true) : (bytes t).length ≤ 2000 := by
  obtain ⟨h1, h2, h3⟩ := form_iff.1 hf
  have := keys_le h1
  rw [bytes_len h]
  omega

/-- a count of at most most -/
def count (b : List UInt8) (most : Nat) : Nat × Nat × Int :=
  if (Oct.read b).2.2 ≠ 0 then (0, 0, (Oct.read b).2.2) else if most < (Oct.read b).1 then (0, 0, 5) else Oct.read b
/-- inputs, from a place on: where they end, they, an error's number -/
def getIns (b : List UInt8) : Nat → Nat → List In → Nat × List In × Int
  | 0, p, acc => (p, acc, 0)
  | k + 1, p, acc =>
    if b.length < p + 36 then (0, [], 4)
    else if (count (b.drop (p + 36)) 64).2.2 ≠ 0 then (0, [], (count (b.drop (p + 36)) 64).2.2)
    else if b.length < p + 36 + (count (b.drop (p + 36)) 64).2.1 + (count (b.drop (p + 36)) 64).1 then (0, [], 4)
    else getIns b k (p + 36 + (count (b.drop (p + 36)) 64).2.1 + (count (b.drop (p + 36)) 64).1)
      (acc ++ [⟨(b.drop p).take 32, Oct.val ((b.drop (p + 32)).take 4), (b.drop (p + 36 + (count (b.drop (p + 36)) 64).2.1)).take (count (b.drop (p + 36)) 64).1⟩])
def getOuts (b : List UInt8) : Nat → Nat → List Out → Nat × List Out × Int
  | 0, p, acc => (p, acc, 0)
  | k + 1, p, acc =>
    if b.length < p + 40 then (0, [], 4)
    else getOuts b k (p + 40) (acc ++ [⟨Oct.val ((b.drop p).take 8), (b.drop (p + 8)).take 32⟩])
/-- behind the inputs -/
def getRest (b : List UInt8) (i : Nat × List In × Int) : Tx × Nat × Int :=
  if i.2.2 ≠ 0 then (none, 0, i.2.2)
  else if (count (b.drop i.1) 8).2.2 ≠ 0 then (none, 0, (count (b.drop i.1) 8).2.2)
  else if (getOuts b (count (b.drop i.1) 8).1 (i.1 + (count (b.drop i.1) 8).2.1) []).2.2 ≠ 0 then (none, 0, (getOuts b (count (b.drop i.1) 8).1 (i.1 + (count (b.drop i.1) 8).2.1) []).2.2)
  else (⟨Oct.val (b.take 4), i.2.1, (getOuts b (count (b.drop i.1) 8).1 (i.1 + (count (b.drop i.1) 8).2.1) []).2.1⟩, (getOuts b (count (b.drop i.1) 8).1 (i.1 + (count (b.drop i.1) 8).2.1) []).1, 0)
def get (b : List UInt8) : Tx × Nat × Int :=
  if b.length < 4 then (none, 0, 4)
  else if (count (b.drop 4) 8).2.2 ≠ 0 then (none, 0, (count (b.drop 4) 8).2.2)
  else getRest b (getIns b (count (b.drop 4) 8).1 (4 + (count (b.drop 4) 8).2.1) [])
def whole (b : List UInt8) : Tx × Int :=
  if (get b).2.2 ≠ 0 then (none, (get b).2.2) else if (get b).2.1 ≠ b.length then (none, 5) else ((get b).1, 0)

/-! ### what is put is read -/
theorem read_one {n : Nat} (h : n < 253) (r : List UInt8) : Oct.read (one n ++ r) = (n, 1, 0) := by
  have := Oct.read_var n (by omega) r
  rw [one_var h] at this
  rw [this]
  simp [Oct.size, h]
theorem count_one {n most : Nat} (h : n ≤ most) (hm : most < 253) (r : List UInt8) : count (one n ++ r) most = (n, 1, 0) := by
  unfold count
  rw [read_one (by omega) r]
  simp; omega
theorem count_nil (most : Nat) : count [] most = (0, 0, 4) := by simp [count, Oct.read]
theorem getIns_put (pre rest : List UInt8) : ∀ (l acc : List In), (∀ x ∈ l, x.Ok ∧ x.key.length ≤ 64) →
    getIns (pre ++ (insB l ++ rest)) l.length pre.length acc = (pre.length + (insB l).length, acc ++ l, 0) := by
  intro l
  induction l generalizing pre with
  | nil => intro acc _; simp [getIns, insB]
  | cons x l ih =>
    intro acc h
    obtain ⟨⟨h1, h2⟩, h3⟩ := h x (by simp)
    have hB : pre ++ (insB (x :: l) ++ rest) = (pre ++ inB x) ++ (insB l ++ rest) := by simp [insB, List.append_assoc]
    have hx : (inB x).length = 37 + x.key.length := inB_len ⟨h1, h2⟩
    have hlen : (pre ++ (insB (x :: l) ++ rest)).length = pre.length + 37 + x.key.length + (insB l ++ rest).length := by rw [hB]; simp only [List.length_append] at *; omega
    have d0 : (pre ++ (insB (x :: l) ++ rest)).drop pre.length = x.hash ++ (Oct.le x.n 4 ++ (one x.key.length ++ (x.key ++ (insB l ++ rest)))) := by
      rw [List.drop_left]; simp [insB, inB, List.append_assoc]
    have d32 : (pre ++ (insB (x :: l) ++ rest)).drop (pre.length + 32) = Oct.le x.n 4 ++ (one x.key.length ++ (x.key ++ (insB l ++ rest))) := by
      rw [← List.drop_drop, d0, List.drop_left' h1]
    have d36 : (pre ++ (insB (x :: l) ++ rest)).drop (pre.length + 36) = one x.key.length ++ (x.key ++ (insB l ++ rest)) := by
      rw [show pre.length + 36 = (pre.length + 32) + 4 by omega, ← List.drop_drop, d32, List.drop_left' (Oct.le_length _ _)]
    have d37 : (pre ++ (insB (x :: l) ++ rest)).drop (pre.length + 36 + 1) = x.key ++ (insB l ++ rest) := by
      rw [← List.drop_drop, d36, List.drop_left' (show (one x.key.length).length = 1 from rfl)]
    have hc : count (one x.key.length ++ (x.key ++ (insB l ++ rest))) 64 = (x.key.length, 1, 0) := count_one h3 (by omega) _
    rw [List.length_cons]
    unfold getIns
    rw [d36, hc, d0, d32]
    simp only [d37]
    rw [if_neg (by omega), if_neg (by simp), if_neg (by rw [hlen, List.length_append]; omega)]
    rw [List.take_left' h1, List.take_left' (Oct.le_length _ _), List.take_left' rfl, Oct.val_le, Nat.mod_eq_of_lt (by simpa using h2)]
    have := ih (pre ++ inB x) (acc ++ [x]) (fun y hy => h y (by simp [hy]))
    rw [← hB] at this
    have hp : (pre ++ inB x).length = pre.length + 36 + 1 + x.key.length := by rw [List.length_append, hx]; omega
    rw [hp] at this
    rw [this]
    simp only [insB, List.flatMap_cons, List.length_append, hx, List.append_assoc, List.cons_append, List.nil_append]
    congr 1
    omega
theorem getOuts_put (pre rest : List UInt8) : ∀ (l acc : List Out), (∀ x ∈ l, x.Ok) →
    getOuts (pre ++ (outsB l ++ rest)) l.length pre.length acc = (pre.length + (outsB l).length, acc ++ l, 0) := by
  intro l
  induction l generalizing pre with
  | nil => intro acc _; simp [getOuts, outsB]
  | cons x l ih =>
    intro acc h
    obtain ⟨h1, h2⟩ := h x (by simp)
    have hB : pre ++ (outsB (x :: l) ++ rest) = (pre ++ outB x) ++ (outsB l ++ rest) := by simp [outsB, List.append_assoc]
    have hx : (outB x).length = 40 := outB_len ⟨h1, h2⟩
    have hlen : (pre ++ (outsB (x :: l) ++ rest)).length = pre.length + 40 + (outsB l ++ rest).length := by rw [hB]; simp only [List.length_append] at *; omega
    have d0 : (pre ++ (outsB (x :: l) ++ rest)).drop pre.length = Oct.le x.value 8 ++ (x.lock ++ (outsB l ++ rest)) := by
      rw [List.drop_left]; simp [outsB, outB, List.append_assoc]
    have d8 : (pre ++ (outsB (x :: l) ++ rest)).drop (pre.length + 8) = x.lock ++ (outsB l ++ rest) := by
      rw [← List.drop_drop, d0, List.drop_left' (Oct.le_length _ _)]
    rw [List.length_cons]
    unfold getOuts
    rw [d0, d8, if_neg (by omega)]
    rw [List.take_left' h2, List.take_left' (Oct.le_length _ _), Oct.val_le, Nat.mod_eq_of_lt (by simpa using h1)]
    have := ih (pre ++ outB x) (acc ++ [x]) (fun y hy => h y (by simp [hy]))
    rw [← hB] at this
    have hp : (pre ++ outB x).length = pre.length + 40 := by rw [List.length_append, hx]
    rw [hp] at this
    rw [this]
    simp only [outsB, List.flatMap_cons, List.length_append, hx, List.append_assoc, List.cons_append, List.nil_append]
    congr 1
    omega
theorem get_put {t : Tx} (h : t.Ok) (hf : form t = true) (rest : List UInt8) : get (bytes t ++ rest) = (t, (bytes t).length, 0) := by
  obtain ⟨f1, f2, f3⟩ := form_iff.1 hf
  have hl := bytes_len h
  have e1 : bytes t ++ rest = Oct.le t.version 4 ++ (one t.ins.length ++ (insB t.ins ++ (one t.outs.length ++ (outsB t.outs ++ rest)))) := by simp [bytes, List.append_assoc]
  have e2 : bytes t ++ rest = (Oct.le t.version 4 ++ one t.ins.length) ++ (insB t.ins ++ (one t.outs.length ++ (outsB t.outs ++ rest))) := by simp [bytes, List.append_assoc]
  have e3 : bytes t ++ rest = (Oct.le t.version 4 ++ (one t.ins.length ++ insB t.ins)) ++ (one t.outs.length ++ (outsB t.outs ++ rest)) := by simp [bytes, List.append_assoc]
  have e4 : bytes t ++ rest = (Oct.le t.version 4 ++ (one t.ins.length ++ (insB t.ins ++ one t.outs.length))) ++ (outsB t.outs ++ rest) := by simp [bytes, List.append_assoc]
  have l2 : (Oct.le t.version 4 ++ one t.ins.length).length = 5 := by simp [Oct.le_length, one]
  have l3 : (Oct.le t.version 4 ++ (one t.ins.length ++ insB t.ins)).length = 5 + (insB t.ins).length := by simp only [List.length_append, Oct.le_length, one, List.length_cons, List.length_nil]; omega
  have l4 : (Oct.le t.version 4 ++ (one t.ins.length ++ (insB t.ins ++ one t.outs.length))).length = 5 + (insB t.ins).length + 1 := by simp only [List.length_append, Oct.le_length, one, List.length_cons, List.length_nil]; omega
  have d4 : (bytes t ++ rest).drop 4 = one t.ins.length ++ (insB t.ins ++ (one t.outs.length ++ (outsB t.outs ++ rest))) := by rw [e1, List.drop_left' (Oct.le_length _ _)]
  have t4 : (bytes t ++ rest).take 4 = Oct.le t.version 4 := by rw [e1, List.take_left' (Oct.le_length _ _)]
  have c4 := count_one (most := 8) f2 (by omega) (insB t.ins ++ (one t.outs.length ++ (outsB t.outs ++ rest)))
  have g := getIns_put (Oct.le t.version 4 ++ one t.ins.length) (one t.outs.length ++ (outsB t.outs ++ rest)) t.ins [] (fun x hx => ⟨h.2.1 x hx, f1 x hx⟩)
  rw [← e2, l2] at g
  have d5 : (bytes t ++ rest).drop (5 + (insB t.ins).length) = one t.outs.length ++ (outsB t.outs ++ rest) := by rw [e3, List.drop_left' l3]
  have c5 := count_one (most := 8) f3 (by omega) (outsB t.outs ++ rest)
  have o := getOuts_put (Oct.le t.version 4 ++ (one t.ins.length ++ (insB t.ins ++ one t.outs.length))) rest t.outs [] h.2.2
  rw [← e4, l4] at o
  unfold get
  rw [if_neg (by rw [List.length_append]; omega), d4, c4, if_neg (by simp)]
  simp only [show 4 + 1 = 5 from rfl]
  rw [g]
  unfold getRest
  simp only [d5, c5, o]
  rw [if_neg (by simp), if_neg (by simp), if_neg (by simp), t4, Oct.val_le, Nat.mod_eq_of_lt (by simpa using h.1)]
  obtain ⟨v, i, u⟩ := t
  simp only [List.nil_append, Prod.mk.injEq, and_true, true_and]
  unfold bytes
  simp only [List.length_append, Oct.le_length, one, List.length_cons, List.length_nil]
  omega
theorem bytes_inj {t u : Tx} (h : t.Ok) (hu : u.Ok) (hf : form t = true) (hg : form u = true) (e : bytes t = bytes u) : t = u := by
  have h1 := get_put h hf []
  have h2 := get_put hu hg []
  rw [e, h2] at h1
  exact (congrArg (fun x => x.1) h1).symm
theorem whole_put {t : Tx} (h : t.Ok) (hf : form t = true) : whole (bytes t) = (t, 0) := by
  have g := get_put h hf []
  rw [List.append_nil] at g
  unfold whole
  rw [g]
  simp
theorem whole_more {t : Tx} (h : t.Ok) (hf : form t = true) {rest : List UInt8} (hr : rest ≠ []) : whole (bytes t ++ rest) = (none, 5) := by
  have g := get_put h hf rest
  have hl : 0 < rest.length := List.length_pos_iff.2 hr
  unfold whole
  rw [g, if_neg (by simp), if_pos (by simp only [List.length_append]; omega)]
end Go.Proofs.YtacbibflhdmcoaaDoor.Txs
