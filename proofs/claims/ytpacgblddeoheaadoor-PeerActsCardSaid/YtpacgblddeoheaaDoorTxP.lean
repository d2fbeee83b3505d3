/- TxP, merged: TxPure, TxPure2. -/
import Derived.Test.YtpacgblddeoheaaDoorOctP
/- Transactions as bytes, in plain Lean: no program in sight. -/
set_option linter.unusedVariables false
set_option linter.unusedSimpArgs false
namespace Go.Proofs.YtpacgblddeoheaaDoor.Txs
structure In where
  hash : List UInt8
  n : Nat
  key : List UInt8
structure Out where
  value : Nat
  lock : List UInt8
structure Tx where
  version : Nat
  ins : List In
  outs : List Out
instance : DecidableEq In := fun a b => decidable_of_iff (a.hash = b.hash ∧ a.n = b.n ∧ a.key = b.key) (by cases a; cases b; simp)
instance : DecidableEq Out := fun a b => decidable_of_iff (a.value = b.value ∧ a.lock = b.lock) (by cases a; cases b; simp)
instance : DecidableEq Tx := fun a b => decidable_of_iff (a.version = b.version ∧ a.ins = b.ins ∧ a.outs = b.outs) (by cases a; cases b; simp)
def none : Tx := ⟨0, [], []⟩
/-- what comes of Go's types -/
def In.Ok (x : In) : Prop := x.hash.length = 32 ∧ x.n < 4294967296
def Out.Ok (x : Out) : Prop := x.value < 18446744073709551616 ∧ x.lock.length = 32
def Tx.Ok (t : Tx) : Prop := t.version < 4294967296 ∧ (∀ x ∈ t.ins, x.Ok) ∧ ∀ x ∈ t.outs, x.Ok
def form (t : Tx) : Bool := t.ins.all (fun x => decide (x.key.length ≤ 64)) && (decide (t.ins.length ≤ 8) && decide (t.outs.length ≤ 8))
theorem form_iff {t : Tx} : form t = true ↔ (∀ x ∈ t.ins, x.key.length ≤ 64) ∧ t.ins.length ≤ 8 ∧ t.outs.length ≤ 8 := by simp [form]
/-- how many there are, or how long -/
def one (n : Nat) : List UInt8 := [UInt8.ofNat n]
theorem one_var {n : Nat} (h : n < 253) : Oct.var n = one n := by unfold Oct.var one; rw [if_pos h]
def inB (x : In) : List UInt8 := x.hash ++ (Oct.le x.n 4 ++ (one x.key.length ++ x.key))
def outB (x : Out) : List UInt8 := Oct.le x.value 8 ++ x.lock
def insB (l : List In) : List UInt8 := l.flatMap inB
def outsB (l : List Out) : List UInt8 := l.flatMap outB
def bytes (t : Tx) : List UInt8 := Oct.le t.version 4 ++ (one t.ins.length ++ (insB t.ins ++ (one t.outs.length ++ outsB t.outs)))
theorem inB_len {x : In} (h : x.Ok) : (inB x).length = 37 + x.key.length := by unfold inB one; simp only [List.length_append, Oct.le_length, List.length_cons, List.length_nil, h.1]; omega
theorem outB_len {x : Out} (h : x.Ok) : (outB x).length = 40 := by unfold outB; simp only [List.length_append, Oct.le_length, h.2]
theorem outsB_len {l : List Out} (h : ∀ x ∈ l, x.Ok) : (outsB l).length = 40 * l.length := by
  induction l with
  | nil => rfl
  | cons x l ih =>
    have := ih (fun y hy => h y (by simp [hy]))
    have hx := outB_len (h x (by simp))
    unfold outsB at *
    simp only [List.flatMap_cons, List.length_append, List.length_cons]
    omega
def keys (l : List In) : Nat := (l.map fun x => x.key.length).sum
theorem insB_len {l : List In} (h : ∀ x ∈ l, x.Ok) : (insB l).length = 37 * l.length + keys l := by
  induction l with
  | nil => rfl
  | cons x l ih =>
    have := ih (fun y hy => h y (by simp [hy]))
    have hx := inB_len (h x (by simp))
    unfold insB keys at *
    simp only [List.flatMap_cons, List.length_append, List.length_cons, List.map_cons, List.sum_cons]
    omega
theorem bytes_len {t : Tx} (h : t.Ok) : (bytes t).length = 6 + 37 * t.ins.length + 40 * t.outs.length + keys t.ins := by
  unfold bytes one
  simp only [List.length_append, Oct.le_length, List.length_cons, List.length_nil, insB_len h.2.1, outsB_len h.2.2]
  omega
theorem keys_le {l : List In} (h : ∀ x ∈ l, x.key.length ≤ 64) : keys l ≤ 64 * l.length := by
  induction l with
  | nil => simp [keys]
  | cons x l ih =>
    have := ih (fun y hy => h y (by simp [hy]))
    have hx := h x (by simp)
    unfold keys at *
    simp only [List.map_cons, List.sum_cons, List.length_cons]
    omega
theorem bytes_small {t : Tx} (h : t.Ok) (hf : form t = true) : (bytes t).length ≤ 2000 := by
  obtain ⟨h1, h2, h3⟩ := form_iff.1 hf
  have := keys_le h1
  rw [bytes_len h]
  omega

/-- a count of at most most -/
def count (b : List UInt8) (most : Nat) : Nat × Nat × Int :=
  if (Oct.read b).2.2 ≠ 0 then (0, 0, (Oct.read b).2.2) else if most < (Oct.read b).1 then (0, 0, 5) else Oct.read b
/-- inputs, from a place on: where they end, they, an error's number -/
def getIns (b : List UInt8) : Nat → Nat → List In → Nat × List In × Int
  | 0, p, acc => (p, acc, 0)
  | k + 1, p, acc =>
    if b.length < p + 36 then (0, [], 4)
    else if (count (b.drop (p + 36)) 64).2.2 ≠ 0 then (0, [], (count (b.drop (p + 36)) 64).2.2)
    else if b.length < p + 36 + (count (b.drop (p + 36)) 64).2.1 + (count (b.drop (p + 36)) 64).1 then (0, [], 4)
    else getIns b k (p + 36 + (count (b.drop (p + 36)) 64).2.1 + (count (b.drop (p + 36)) 64).1)
      (acc ++ [⟨(b.drop p).take 32, Oct.val ((b.drop (p + 32)).take 4), (b.drop (p + 36 + (count (b.drop (p + 36)) 64).2.1)).take (count (b.drop (p + 36)) 64).1⟩])
def getOuts (b : List UInt8) : Nat → Nat → List Out → Nat × List Out × Int
  | 0, p, acc => (p, acc, 0)
  | k + 1, p, acc =>
    if b.length < p + 40 then (0, [], 4)
    else getOuts b k (p + 40) (acc ++ [⟨Oct.val ((b.drop p).take 8), (b.drop (p + 8)).take 32⟩])
/-- behind the inputs -/
def getRest (b : List UInt8) (i : Nat × List In × Int) : Tx × Nat × Int :=
  if i.2.2 ≠ 0 then (none, 0, i.2.2)
  else if (count (b.drop i.1) 8).2.2 ≠ 0 then (none, 0, (count (b.drop i.1) 8).2.2)
  else if (getOuts b (count (b.drop i.1) 8).1 (i.1 + (count (b.drop i.1) 8).2.1) []).2.2 ≠ 0 then (none, 0, (getOuts b (count (b.drop i.1) 8).1 (i.1 + (count (b.drop i.1) 8).2.1) []).2.2)
  else (⟨Oct.val (b.take 4), i.2.1, (getOuts b (count (b.drop i.1) 8).1 (i.1 + (count (b.drop i.1) 8).2.1) []).2.1⟩, (getOuts b (count (b.drop i.1) 8).1 (i.1 + (count (b.drop i.1) 8).2.1) []).1, 0)
def get (b : List UInt8) : Tx × Nat × Int :=
  if b.length < 4 then (none, 0, 4)
  else if (count (b.drop 4) 8).2.2 ≠ 0 then (none, 0, (count (b.drop 4) 8).2.2)
  else getRest b (getIns b (count (b.drop 4) 8).1 (4 + (count (b.drop 4) 8).2.1) [])
def whole (b : List UInt8) : Tx × Int :=
  if (get b).2.2 ≠ 0 then (none, (get b).2.2) else if (get b).2.1 ≠ b.length then (none, 5) else ((get b).1, 0)

/-! ### what is put is read -/
theorem read_one {n : Nat} (h : n < 253) (r : List UInt8) : Oct.read (one n ++ r) = (n, 1, 0) := by
  have := Oct.read_var n (by omega) r
  rw [one_var h] at this
  rw [this]
  simp [Oct.size, h]
theorem count_one {n most : Nat} (h : n ≤ most) (hm : most < 253) (r : List UInt8) : count (one n ++ r) most = (n, 1, 0) := by
  unfold count
  rw [read_one (by omega) r]
  simp; omega
theorem count_nil (most : Nat) : count [] most = (0, 0, 4) := by simp [count, Oct.read]
theorem getIns_put (pre rest : List UInt8) : ∀ (l acc : List In), (∀ x ∈ l, x.Ok ∧ x.key.length ≤ 64) →
    getIns (pre ++ (insB l ++ rest)) l.length pre.length acc = (pre.length + (insB l).length, acc ++ l, 0) := by
  intro l
  induction l generalizing pre with
  | nil => intro acc _; simp [getIns, insB]
  | cons x l ih =>
    intro acc h
    obtain ⟨⟨h1, h2⟩, h3⟩ := h x (by simp)
    have hB : pre ++ (insB (x :: l) ++ rest) = (pre ++ inB x) ++ (insB l ++ rest) := by simp [insB, List.append_assoc]
    have hx : (inB x).length = 37 + x.key.length := inB_len ⟨h1, h2⟩
    have hlen : (pre ++ (insB (x :: l) ++ rest)).length = pre.length + 37 + x.key.length + (insB l ++ rest).length := by rw [hB]; simp only [List.length_append] at *; omega
    have d0 : (pre ++ (insB (x :: l) ++ rest)).drop pre.length = x.hash ++ (Oct.le x.n 4 ++ (one x.key.length ++ (x.key ++ (insB l ++ rest)))) := by
      rw [List.drop_left]; simp [insB, inB, List.append_assoc]
    have d32 : (pre ++ (insB (x :: l) ++ rest)).drop (pre.length + 32) = Oct.le x.n 4 ++ (one x.key.length ++ (x.key ++ (insB l ++ rest))) := by
      rw [← List.drop_drop, d0, List.drop_left' h1]
    have d36 : (pre ++ (insB (x :: l) ++ rest)).drop (pre.length + 36) = one x.key.length ++ (x.key ++ (insB l ++ rest)) := by
      rw [show pre.length + 36 = (pre.length + 32) + 4 by omega, ← List.drop_drop, d32, List.drop_left' (Oct.le_length _ _)]
    have d37 : (pre ++ (insB (x :: l) ++ rest)).drop (pre.length + 36 + 1) = x.key ++ (insB l ++ rest) := by
      rw [← List.drop_drop, d36, List.drop_left' (show (one x.key.length).length = 1 from rfl)]
    have hc : count (one x.key.length ++ (x.key ++ (insB l ++ rest))) 64 = (x.key.length, 1, 0) := count_one h3 (by omega) _
    rw [List.length_cons]
    unfold getIns
    rw [d36, hc, d0, d32]
    simp only [d37]
    rw [if_neg (by omega), if_neg (by simp), if_neg (by rw [hlen, List.length_append]; omega)]
    rw [List.take_left' h1, List.take_left' (Oct.le_length _ _), List.take_left' rfl, Oct.val_le, Nat.mod_eq_of_lt (by simpa using h2)]
    have := ih (pre ++ inB x) (acc ++ [x]) (fun y hy => h y (by simp [hy]))
    rw [← hB] at this
    have hp : (pre ++ inB x).length = pre.length + 36 + 1 + x.key.length := by rw [List.length_append, hx]; omega
    rw [hp] at this
    rw [this]
    simp only [insB, List.flatMap_cons, List.length_append, hx, List.append_assoc, List.cons_append, List.nil_append]
    congr 1
    omega
theorem getOuts_put (pre rest : List UInt8) : ∀ (l acc : List Out), (∀ x ∈ l, x.Ok) →
    getOuts (pre ++ (outsB l ++ rest)) l.length pre.length acc = (pre.length + (outsB l).length, acc ++ l, 0) := by
  intro l
  induction l generalizing pre with
  | nil => intro acc _; simp [getOuts, outsB]
  | cons x l ih =>
    intro acc h
    obtain ⟨h1, h2⟩ := h x (by simp)
    have hB : pre ++ (outsB (x :: l) ++ rest) = (pre ++ outB x) ++ (outsB l ++ rest) := by simp [outsB, List.append_assoc]
    have hx : (outB x).length = 40 := outB_len ⟨h1, h2⟩
    have hlen : (pre ++ (outsB (x :: l) ++ rest)).length = pre.length + 40 + (outsB l ++ rest).length := by rw [hB]; simp only [List.length_append] at *; omega
    have d0 : (pre ++ (outsB (x :: l) ++ rest)).drop pre.length = Oct.le x.value 8 ++ (x.lock ++ (outsB l ++ rest)) := by
      rw [List.drop_left]; simp [outsB, outB, List.append_assoc]
    have d8 : (pre ++ (outsB (x :: l) ++ rest)).drop (pre.length + 8) = x.lock ++ (outsB l ++ rest) := by
      rw [← List.drop_drop, d0, List.drop_left' (Oct.le_length _ _)]
    rw [List.length_cons]
    unfold getOuts
    rw [d0, d8, if_neg (by omega)]
    rw [List.take_left' h2, List.take_left' (Oct.le_length _ _), Oct.val_le, Nat.mod_eq_of_lt (by simpa using h1)]
    have := ih (pre ++ outB x) (acc ++ [x]) (fun y hy => h y (by simp [hy]))
    rw [← hB] at this
    have hp : (pre ++ outB x).length = pre.length + 40 := by rw [List.length_append, hx]
    rw [hp] at this
    rw [this]
    simp only [outsB, List.flatMap_cons, List.length_append, hx, List.append_assoc, List.cons_append, List.nil_append]
    congr 1
    omega
theorem get_put {t : Tx} (h : t.Ok) (hf : form t = true) (rest : List UInt8) : get (bytes t ++ rest) = (t, (bytes t).length, 0) := by
  obtain ⟨f1, f2, f3⟩ := form_iff.1 hf
  have hl := bytes_len h
  have e1 : bytes t ++ rest = Oct.le t.version 4 ++ (one t.ins.length ++ (insB t.ins ++ (one t.outs.length ++ (outsB t.outs ++ rest)))) := by simp [bytes, List.append_assoc]
  have e2 : bytes t ++ rest = (Oct.le t.version 4 ++ one t.ins.length) ++ (insB t.ins ++ (one t.outs.length ++ (outsB t.outs ++ rest))) := by simp [bytes, List.append_assoc]
  have e3 : bytes t ++ rest = (Oct.le t.version 4 ++ (one t.ins.length ++ insB t.ins)) ++ (one t.outs.length ++ (outsB t.outs ++ rest)) := by simp [bytes, List.append_assoc]
  have e4 : bytes t ++ rest = (Oct.le t.version 4 ++ (one t.ins.length ++ (insB t.ins ++ one t.outs.length))) ++ (outsB t.outs ++ rest) := by simp [bytes, List.append_assoc]
  have l2 : (Oct.le t.version 4 ++ one t.ins.length).length = 5 := by simp [Oct.le_length, one]
  have l3 : (Oct.le t.version 4 ++ (one t.ins.length ++ insB t.ins)).length = 5 + (insB t.ins).length := by simp only [List.length_append, Oct.le_length, one, List.length_cons, List.length_nil]; omega
  have l4 : (Oct.le t.version 4 ++ (one t.ins.length ++ (insB t.ins ++ one t.outs.length))).length = 5 + (insB t.ins).length + 1 := by simp only [List.length_append, Oct.le_length, one, List.length_cons, List.length_nil]; omega
  have d4 : (bytes t ++ rest).drop 4 = one t.ins.length ++ (insB t.ins ++ (one t.outs.length ++ (outsB t.outs ++ rest))) := by rw [e1, List.drop_left' (Oct.le_length _ _)]
  have t4 : (bytes t ++ rest).take 4 = Oct.le t.version 4 := by rw [e1, List.take_left' (Oct.le_length _ _)]
  have c4 := count_one (most := 8) f2 (by omega) (insB t.ins ++ (one t.outs.length ++ (outsB t.outs ++ rest)))
  have g := getIns_put (Oct.le t.version 4 ++ one t.ins.length) (one t.outs.length ++ (outsB t.outs ++ rest)) t.ins [] (fun x hx => ⟨h.2.1 x hx, f1 x hx⟩)
  rw [← e2, l2] at g
  have d5 : (bytes t ++ rest).drop (5 + (insB t.ins).length) = one t.outs.length ++ (outsB t.outs ++ rest) := by rw [e3, List.drop_left' l3]
  have c5 := count_one (most := 8) f3 (by omega) (outsB t.outs ++ rest)
  have o := getOuts_put (Oct.le t.version 4 ++ (one t.ins.length ++ (insB t.ins ++ one t.outs.length))) rest t.outs [] h.2.2
  rw [← e4, l4] at o
  unfold get
  rw [if_neg (by rw [List.length_append]; omega), d4, c4, if_neg (by simp)]
  simp only [show 4 + 1 = 5 from rfl]
  rw [g]
  unfold getRest
  simp only [d5, c5, o]
  rw [if_neg (by simp), if_neg (by simp), if_neg (by simp), t4, Oct.val_le, Nat.mod_eq_of_lt (by simpa using h.1)]
  obtain ⟨v, i, u⟩ := t
  simp only [List.nil_append, Prod.mk.injEq, and_true, true_and]
  unfold bytes
  simp only [List.length_append, Oct.le_length, one, List.length_cons, List.length_nil]
  omega
theorem bytes_inj {t u : Tx} (h : t.Ok) (hu : u.Ok) (hf : form t = true) (hg : form u = true) (e : bytes t = bytes u) : t = u := by
  have h1 := get_put h hf []
  have h2 := get_put hu hg []
  rw [e, h2] at h1
  exact (congrArg (fun x => x.1) h1).symm
theorem whole_put {t : Tx} (h : t.Ok) (hf : form t = true) : whole (bytes t) = (t, 0) := by
  have g := get_put h hf []
  rw [List.append_nil] at g
  unfold whole
  rw [g]
  simp
theorem whole_more {t : Tx} (h : t.Ok) (hf : form t = true) {rest : List UInt8} (hr : rest ≠ []) : whole (bytes t ++ rest) = (none, 5) := by
  have g := get_put h hf rest
  have hl : 0 < rest.length := List.length_pos_iff.2 hr
  unfold whole
  rw [g, if_neg (by simp), if_pos (by simp only [List.length_append]; omega)]
end Go.Proofs.YtpacgblddeoheaaDoor.Txs
/- Transactions as bytes, in plain Lean: cut off they are too short; what is read was written so. -/
set_option linter.unusedVariables false
set_option linter.unusedSimpArgs false
namespace Go.Proofs.YtpacgblddeoheaaDoor.Txs
theorem take_mid (a b : List UInt8) {k : Nat} (h : a.length ≤ k) : (a ++ b).take k = a ++ b.take (k - a.length) := by
  rw [List.take_append, List.take_of_length_le h]
/-- one input more is read -/
theorem getIns_step (pre rest : List UInt8) {x : In} (h : x.Ok) (h3 : x.key.length ≤ 64) (k : Nat) (acc : List In) :
    getIns (pre ++ (inB x ++ rest)) (k + 1) pre.length acc = getIns (pre ++ (inB x ++ rest)) k (pre ++ inB x).length (acc ++ [x]) := by
  obtain ⟨h1, h2⟩ := h
  have hx : (inB x).length = 37 + x.key.length := inB_len ⟨h1, h2⟩
  have hlen : (pre ++ (inB x ++ rest)).length = pre.length + 37 + x.key.length + rest.length := by simp only [List.length_append] at *; omega
  have d0 : (pre ++ (inB x ++ rest)).drop pre.length = x.hash ++ (Oct.le x.n 4 ++ (one x.key.length ++ (x.key ++ rest))) := by
    rw [List.drop_left]; simp [inB, List.append_assoc]
  have d32 : (pre ++ (inB x ++ rest)).drop (pre.length + 32) = Oct.le x.n 4 ++ (one x.key.length ++ (x.key ++ rest)) := by
    rw [← List.drop_drop, d0, List.drop_left' h1]
  have d36 : (pre ++ (inB x ++ rest)).drop (pre.length + 36) = one x.key.length ++ (x.key ++ rest) := by
    rw [show pre.length + 36 = (pre.length + 32) + 4 by omega, ← List.drop_drop, d32, List.drop_left' (Oct.le_length _ _)]
  have d37 : (pre ++ (inB x ++ rest)).drop (pre.length + 36 + 1) = x.key ++ rest := by
    rw [← List.drop_drop, d36, List.drop_left' (show (one x.key.length).length = 1 from rfl)]
  have hc : count (one x.key.length ++ (x.key ++ rest)) 64 = (x.key.length, 1, 0) := count_one h3 (by omega) _
  rw [getIns]
  rw [d36, hc, d0, d32]
  simp only [d37]
  rw [if_neg (by omega), if_neg (by simp), if_neg (by omega)]
  rw [List.take_left' h1, List.take_left' (Oct.le_length _ _), List.take_left' rfl, Oct.val_le, Nat.mod_eq_of_lt (by simpa using h2)]
  congr 1
  rw [List.length_append, hx]; omega
theorem getIns_short (b : List UInt8) (k p : Nat) (acc : List In) (h : b.length < p + 36) : getIns b (k + 1) p acc = (0, [], 4) := by rw [getIns, if_pos h]
/-- cut off within the inputs -/
theorem getIns_cut (rest : List UInt8) : ∀ (l acc : List In) (pre : List UInt8) (k : Nat), (∀ x ∈ l, x.Ok ∧ x.key.length ≤ 64) → pre.length ≤ k → k < pre.length + (insB l).length →
    getIns ((pre ++ (insB l ++ rest)).take k) l.length pre.length acc = (0, [], 4) := by
  intro l
  induction l with
  | nil => intro acc pre k _ h1 h2; simp [insB] at h2; omega
  | cons x l ih =>
    intro acc pre k h hk1 hk2
    obtain ⟨hx, h3⟩ := h x (by simp)
    have hxl := inB_len hx
    have hB : pre ++ (insB (x :: l) ++ rest) = (pre ++ inB x) ++ (insB l ++ rest) := by simp [insB, List.append_assoc]
    have hlen : (insB (x :: l)).length = (inB x).length + (insB l).length := by simp [insB]
    rw [List.length_cons]
    rcases Nat.lt_or_ge k (pre ++ inB x).length with hlt | hge
    · have hlt' : k < pre.length + 37 + x.key.length := by rw [List.length_append] at hlt; omega
      have htl : ((pre ++ (insB (x :: l) ++ rest)).take k).length = k := by
        rw [List.length_take, hB, List.length_append]; omega
      have hbt : (pre ++ (insB (x :: l) ++ rest)).take k = pre ++ (inB x).take (k - pre.length) := by
        rw [hB, List.append_assoc, take_mid _ _ hk1, List.take_append_of_le_length (by rw [List.length_append] at hlt; omega)]
      rcases Nat.lt_or_ge k (pre.length + 36) with h36 | h36
      · exact getIns_short _ _ _ _ (by omega)
      · rw [getIns, if_neg (by omega)]
        have d36 : ((pre ++ (insB (x :: l) ++ rest)).take k).drop (pre.length + 36) = (one x.key.length ++ x.key).take (k - pre.length - 36) := by
          rw [hbt, ← List.drop_drop, List.drop_left, List.drop_take]
          congr 1
          unfold inB
          rw [show (36 : Nat) = 32 + 4 from rfl, ← List.drop_drop, List.drop_left' hx.1, List.drop_left' (Oct.le_length _ _)]
        rw [d36]
        rcases Nat.eq_or_lt_of_le h36 with e | h37
        · rw [show k - pre.length - 36 = 0 by omega, List.take_zero, count_nil, if_pos (by simp)]
        · have ht : (one x.key.length ++ x.key).take (k - pre.length - 36) = one x.key.length ++ x.key.take (k - pre.length - 37) := by
            rw [take_mid _ _ (by show 1 ≤ _; omega)]; rfl
          rw [ht, count_one h3 (by omega), if_neg (by simp), if_pos (by simp only; omega)]
    · have hst : (pre ++ (insB (x :: l) ++ rest)).take k = pre ++ (inB x ++ (insB l ++ rest).take (k - (pre ++ inB x).length)) := by
        rw [hB, take_mid _ _ hge, List.append_assoc]
      have := ih (acc ++ [x]) (pre ++ inB x) k (fun y hy => h y (by simp [hy])) hge (by rw [List.length_append]; omega)
      rw [hst, getIns_step pre _ hx h3, ← this, take_mid _ _ hge, List.append_assoc]
theorem getOuts_cut (rest : List UInt8) : ∀ (l acc : List Out) (pre : List UInt8) (k : Nat), (∀ x ∈ l, x.Ok) → pre.length ≤ k → k < pre.length + (outsB l).length →
    getOuts ((pre ++ (outsB l ++ rest)).take k) l.length pre.length acc = (0, [], 4) := by
  intro l
  induction l with
  | nil => intro acc pre k _ h1 h2; simp [outsB] at h2; omega
  | cons x l ih =>
    intro acc pre k h hk1 hk2
    have hx := h x (by simp)
    have hxl := outB_len hx
    have hB : pre ++ (outsB (x :: l) ++ rest) = (pre ++ outB x) ++ (outsB l ++ rest) := by simp [outsB, List.append_assoc]
    have hlen : (outsB (x :: l)).length = (outB x).length + (outsB l).length := by simp [outsB]
    have htl : ((pre ++ (outsB (x :: l) ++ rest)).take k).length = k := by
      rw [List.length_take, hB, List.length_append, List.length_append, List.length_append]; omega
    rw [List.length_cons, getOuts]
    rcases Nat.lt_or_ge k (pre.length + 40) with hlt | hge
    · rw [if_pos (by omega)]
    · rw [if_neg (by omega)]
      have hpl : (pre ++ outB x).length = pre.length + 40 := by rw [List.length_append, hxl]
      rw [← hpl, hB]
      exact ih _ (pre ++ outB x) k (fun y hy => h y (by simp [hy])) (by omega) (by omega)
/-- cut off anywhere it is too short -/
theorem get_cut {t : Tx} (h : t.Ok) (hf : form t = true) {k : Nat} (hk : k < (bytes t).length) : get ((bytes t).take k) = (none, 0, 4) := by
  obtain ⟨f1, f2, f3⟩ := form_iff.1 hf
  have hl := bytes_len h
  have il := insB_len h.2.1
  have ol := outsB_len h.2.2
  have htl : ((bytes t).take k).length = k := by rw [List.length_take]; omega
  have l4 := Oct.le_length t.version 4
  have l2 : (Oct.le t.version 4 ++ one t.ins.length).length = 5 := by simp [Oct.le_length, one]
  have l3 : (Oct.le t.version 4 ++ (one t.ins.length ++ insB t.ins)).length = 5 + (insB t.ins).length := by simp only [List.length_append, Oct.le_length, one, List.length_cons, List.length_nil]; omega
  have l5 : (Oct.le t.version 4 ++ (one t.ins.length ++ (insB t.ins ++ one t.outs.length))).length = 5 + (insB t.ins).length + 1 := by simp only [List.length_append, Oct.le_length, one, List.length_cons, List.length_nil]; omega
  have e2 : bytes t = (Oct.le t.version 4 ++ one t.ins.length) ++ (insB t.ins ++ (one t.outs.length ++ outsB t.outs)) := by simp [bytes, List.append_assoc]
  have e3 : bytes t = (Oct.le t.version 4 ++ (one t.ins.length ++ insB t.ins)) ++ (one t.outs.length ++ outsB t.outs) := by simp [bytes, List.append_assoc]
  have e5 : bytes t = (Oct.le t.version 4 ++ (one t.ins.length ++ (insB t.ins ++ one t.outs.length))) ++ (outsB t.outs ++ []) := by simp [bytes, List.append_assoc]
  unfold get
  rcases Nat.lt_or_ge k 4 with k4 | k4
  · rw [if_pos (by omega)]
  rw [if_neg (by omega)]
  have d4 : ((bytes t).take k).drop 4 = (one t.ins.length ++ (insB t.ins ++ (one t.outs.length ++ outsB t.outs))).take (k - 4) := by
    rw [List.drop_take, show (bytes t).drop 4 = one t.ins.length ++ (insB t.ins ++ (one t.outs.length ++ outsB t.outs)) from by unfold bytes; rw [List.drop_left' l4]]
  rw [d4]
  rcases Nat.eq_or_lt_of_le k4 with e | k5
  · rw [show k - 4 = 0 by omega, List.take_zero, count_nil, if_pos (by simp)]
  have ht : (one t.ins.length ++ (insB t.ins ++ (one t.outs.length ++ outsB t.outs))).take (k - 4) = one t.ins.length ++ (insB t.ins ++ (one t.outs.length ++ outsB t.outs)).take (k - 5) := by
    rw [take_mid _ _ (by show 1 ≤ _; omega)]; rfl
  rw [ht, count_one f2 (by omega), if_neg (by simp)]
  simp only [show 4 + 1 = 5 from rfl]
  rcases Nat.lt_or_ge k (5 + (insB t.ins).length) with k6 | k6
  · have := getIns_cut (one t.outs.length ++ outsB t.outs) t.ins [] (Oct.le t.version 4 ++ one t.ins.length) k (fun x hx => ⟨h.2.1 x hx, f1 x hx⟩) (by omega) (by omega)
    rw [← e2, l2] at this
    rw [this]
    rfl
  · have g : getIns ((bytes t).take k) t.ins.length 5 [] = (5 + (insB t.ins).length, t.ins, 0) := by
      have := getIns_put (Oct.le t.version 4 ++ one t.ins.length) ((one t.outs.length ++ outsB t.outs).take (k - (5 + (insB t.ins).length))) t.ins [] (fun x hx => ⟨h.2.1 x hx, f1 x hx⟩)
      rw [l2, List.nil_append] at this
      rw [← this]
      congr 1
      rw [e3, take_mid _ _ (by omega), l3]
      simp [List.append_assoc]
    rw [g]
    unfold getRest
    simp only
    rw [if_neg (by simp)]
    have d5 : ((bytes t).take k).drop (5 + (insB t.ins).length) = (one t.outs.length ++ outsB t.outs).take (k - (5 + (insB t.ins).length)) := by
      rw [List.drop_take]; congr 1; rw [e3, List.drop_left' l3]
    rw [d5]
    rcases Nat.eq_or_lt_of_le k6 with e | k7
    · rw [show k - (5 + (insB t.ins).length) = 0 by omega, List.take_zero, count_nil, if_pos (by simp)]
    have ht2 : (one t.outs.length ++ outsB t.outs).take (k - (5 + (insB t.ins).length)) = one t.outs.length ++ (outsB t.outs).take (k - (5 + (insB t.ins).length) - 1) := by
      rw [take_mid _ _ (by show 1 ≤ _; omega)]; rfl
    rw [ht2, count_one f3 (by omega), if_neg (by simp)]
    have := getOuts_cut [] t.outs [] (Oct.le t.version 4 ++ (one t.ins.length ++ (insB t.ins ++ one t.outs.length))) k h.2.2 (by omega) (by simp only [List.length_append, Oct.le_length, one, List.length_cons, List.length_nil] at *; omega)
    rw [← e5, l5] at this
    simp only [this]
    rw [if_pos (by simp)]
theorem whole_cut {t : Tx} (h : t.Ok) (hf : form t = true) {k : Nat} (hk : k < (bytes t).length) : whole ((bytes t).take k) = (none, 4) := by
  unfold whole
  rw [get_cut h hf hk, if_pos (by simp)]
/-! ### what is read was written so -/
theorem count_back {b : List UInt8} {most : Nat} (hm : most < 253) :
    ((count b most).2.2 ≠ 0 ∧ (count b most).1 = 0 ∧ (count b most).2.1 = 0) ∨ ((count b most).2.2 = 0 ∧ (count b most).1 ≤ most ∧ (count b most).2.1 = 1 ∧ 1 ≤ b.length ∧ one (count b most).1 = b.take 1) := by
  unfold count
  rcases Oct.read_back b with ⟨h1, h2, h3, h4⟩ | ⟨h1, h2, h3, h4, h5⟩
  · left; rw [if_pos h1]; exact ⟨h1, rfl, rfl⟩
  · rw [if_neg (by simp [h1])]
    by_cases h : most < (Oct.read b).1
    · left; rw [if_pos h]; exact ⟨by simp, rfl, rfl⟩
    · right; rw [if_neg h]
      have hs : Oct.size (Oct.read b).1 = 1 := by unfold Oct.size; rw [if_pos (by omega)]
      rw [hs] at h3
      rw [h3] at h4 h5
      exact ⟨h1, by omega, h3, h4, by rw [← h5, one_var (by omega)]⟩
theorem take_parts (b : List UInt8) (m n : Nat) : b.take (m + n) = b.take m ++ (b.drop m).take n := List.take_add ..
theorem getIns_back (b : List UInt8) : ∀ (k p : Nat) (acc : List In), p ≤ b.length → (getIns b k p acc).2.2 = 0 →
    ∃ l, (getIns b k p acc).2.1 = acc ++ l ∧ l.length = k ∧ (∀ x ∈ l, x.Ok ∧ x.key.length ≤ 64) ∧ (getIns b k p acc).1 ≤ b.length ∧ p ≤ (getIns b k p acc).1 ∧ insB l = (b.drop p).take ((getIns b k p acc).1 - p)
  | 0, p, acc, hp, _ => ⟨[], by simp [getIns], rfl, by simp, hp, Nat.le_refl _, by simp [getIns, insB]⟩
  | k + 1, p, acc, hp, h => by
    unfold getIns at h ⊢
    by_cases h1 : b.length < p + 36
    · rw [if_pos h1] at h; simp at h
    rw [if_neg h1] at h ⊢
    rcases count_back (b := b.drop (p + 36)) (most := 64) (by omega) with ⟨c1, _, _⟩ | ⟨c1, c2, c3, c4, c5⟩
    · rw [if_pos c1] at h; simp at h; exact absurd h c1
    rw [if_neg (by simp [c1])] at h ⊢
    rw [List.length_drop] at c4
    rw [c3] at h ⊢
    generalize hs : (count (b.drop (p + 36)) 64).1 = s at *
    by_cases h2 : b.length < p + 36 + 1 + s
    · rw [if_pos h2] at h; simp at h
    rw [if_neg h2] at h ⊢
    obtain ⟨l, k1, k2, k3, k4, k5, k6⟩ := getIns_back b k (p + 36 + 1 + s) _ (by omega) h
    generalize getIns b k (p + 36 + 1 + s) _ = r at *
    have hk : ((b.drop (p + 36 + 1)).take s).length = s := by rw [List.length_take, List.length_drop]; omega
    have hn : ((b.drop (p + 32)).take 4).length = 4 := by rw [List.length_take, List.length_drop]; omega
    have hx : (⟨(b.drop p).take 32, Oct.val ((b.drop (p + 32)).take 4), (b.drop (p + 36 + 1)).take s⟩ : In).Ok := ⟨by show ((b.drop p).take 32).length = 32; rw [List.length_take, List.length_drop]; omega, by have := Oct.val_lt ((b.drop (p + 32)).take 4); rw [hn] at this; exact this⟩
    refine ⟨_ :: l, by rw [k1, List.append_assoc]; rfl, by simp [k2], ?_, k4, by omega, ?_⟩
    · intro x hxm
      rcases List.mem_cons.1 hxm with rfl | hxm
      · exact ⟨hx, by show ((b.drop (p + 36 + 1)).take s).length ≤ 64; omega⟩
      · exact k3 x hxm
    · unfold insB at k6 ⊢
      rw [List.flatMap_cons, k6]
      have e : r.1 - p = 32 + (4 + (1 + (s + (r.1 - (p + 36 + 1 + s))))) := by omega
      rw [e, take_parts, List.drop_drop, take_parts, List.drop_drop, take_parts, List.drop_drop, take_parts, List.drop_drop]
      unfold inB
      simp only [hk]
      have hle : Oct.le (Oct.val ((b.drop (p + 32)).take 4)) 4 = (b.drop (p + 32)).take 4 := by have := Oct.le_val ((b.drop (p + 32)).take 4); rwa [hn] at this
      rw [hle, c5]
      simp only [List.append_assoc, show p + 32 + 4 = p + 36 by omega]
theorem getOuts_back (b : List UInt8) : ∀ (k p : Nat) (acc : List Out), p ≤ b.length → (getOuts b k p acc).2.2 = 0 →
    ∃ l, (getOuts b k p acc).2.1 = acc ++ l ∧ l.length = k ∧ (∀ x ∈ l, x.Ok) ∧ (getOuts b k p acc).1 ≤ b.length ∧ p ≤ (getOuts b k p acc).1 ∧ outsB l = (b.drop p).take ((getOuts b k p acc).1 - p)
  | 0, p, acc, hp, _ => ⟨[], by simp [getOuts], rfl, by simp, hp, Nat.le_refl _, by simp [getOuts, outsB]⟩
  | k + 1, p, acc, hp, h => by
    unfold getOuts at h ⊢
    by_cases h1 : b.length < p + 40
    · rw [if_pos h1] at h; simp at h
    rw [if_neg h1] at h ⊢
    obtain ⟨l, k1, k2, k3, k4, k5, k6⟩ := getOuts_back b k (p + 40) _ (by omega) h
    generalize getOuts b k (p + 40) _ = r at *
    have hn : ((b.drop p).take 8).length = 8 := by rw [List.length_take, List.length_drop]; omega
    have hx : (⟨Oct.val ((b.drop p).take 8), (b.drop (p + 8)).take 32⟩ : Out).Ok := ⟨by have := Oct.val_lt ((b.drop p).take 8); rw [hn] at this; exact this, by show ((b.drop (p + 8)).take 32).length = 32; rw [List.length_take, List.length_drop]; omega⟩
    refine ⟨_ :: l, by rw [k1, List.append_assoc]; rfl, by simp [k2], ?_, k4, by omega, ?_⟩
    · intro x hxm
      rcases List.mem_cons.1 hxm with rfl | hxm
      · exact hx
      · exact k3 x hxm
    · unfold outsB at k6 ⊢
      rw [List.flatMap_cons, k6]
      have e : r.1 - p = 8 + (32 + (r.1 - (p + 40))) := by omega
      rw [e, take_parts, List.drop_drop, take_parts, List.drop_drop]
      unfold outB
      have hle : Oct.le (Oct.val ((b.drop p).take 8)) 8 = (b.drop p).take 8 := by have := Oct.le_val ((b.drop p).take 8); rwa [hn] at this
      rw [hle]
      simp only [List.append_assoc, show p + 8 + 32 = p + 40 by omega]
theorem get_back (b : List UInt8) : ((get b).2.2 ≠ 0 ∧ (get b).1 = none ∧ (get b).2.1 = 0) ∨
    ((get b).2.2 = 0 ∧ (get b).1.Ok ∧ form (get b).1 = true ∧ (get b).2.1 ≤ b.length ∧ bytes (get b).1 = b.take (get b).2.1) := by
  unfold get
  by_cases h4 : b.length < 4
  · left; rw [if_pos h4]; exact ⟨by simp, rfl, rfl⟩
  rw [if_neg h4]
  rcases count_back (b := b.drop 4) (most := 8) (by omega) with ⟨c1, _, _⟩ | ⟨c1, c2, c3, c4, c5⟩
  · left; rw [if_pos c1]; exact ⟨c1, rfl, rfl⟩
  rw [if_neg (by simp [c1]), c3]
  rw [List.length_drop] at c4
  generalize (count (b.drop 4) 8).1 = n1 at *
  unfold getRest
  by_cases h5 : (getIns b n1 (4 + 1) []).2.2 = 0
  · obtain ⟨li, k1, k2, k3, k4, k5, k6⟩ := getIns_back b n1 (4 + 1) [] (by omega) h5
    rw [if_neg (by simp [h5])]
    generalize getIns b n1 (4 + 1) [] = ri at *
    rcases count_back (b := b.drop ri.1) (most := 8) (by omega) with ⟨d1, _, _⟩ | ⟨d1, d2, d3, d4, d5⟩
    · left; rw [if_pos d1]; exact ⟨d1, rfl, rfl⟩
    rw [if_neg (by simp [d1]), d3]
    rw [List.length_drop] at d4
    generalize (count (b.drop ri.1) 8).1 = n2 at *
    by_cases h6 : (getOuts b n2 (ri.1 + 1) []).2.2 = 0
    · obtain ⟨lo, o1, o2, o3, o4, o5, o6⟩ := getOuts_back b n2 (ri.1 + 1) [] (by omega) h6
      rw [if_neg (by simp [h6])]
      generalize getOuts b n2 (ri.1 + 1) [] = ro at *
      right
      have h4l : (b.take 4).length = 4 := by rw [List.length_take]; omega
      rw [List.nil_append] at k1 o1
      refine ⟨rfl, ⟨by have := Oct.val_lt (b.take 4); rw [h4l] at this; exact this, fun x hx => (k3 x (by rw [← k1]; exact hx)).1, fun x hx => o3 x (by rw [← o1]; exact hx)⟩, ?_, o4, ?_⟩
      · exact form_iff.2 ⟨fun x hx => (k3 x (by rw [← k1]; exact hx)).2, by show ri.2.1.length ≤ 8; rw [k1]; omega, by show ro.2.1.length ≤ 8; rw [o1]; omega⟩
      · unfold bytes
        simp only
        rw [k1, o1, k2, o2, k6, o6, c5, d5]
        have hle : Oct.le (Oct.val (b.take 4)) 4 = b.take 4 := by have := Oct.le_val (b.take 4); rwa [h4l] at this
        rw [hle]
        have e : ro.1 = 4 + (1 + ((ri.1 - (4 + 1)) + (1 + (ro.1 - (ri.1 + 1))))) := by omega
        rw [show b.take ro.1 = b.take (4 + (1 + ((ri.1 - (4 + 1)) + (1 + (ro.1 - (ri.1 + 1)))))) from by rw [← e], take_parts, take_parts, List.drop_drop, take_parts, List.drop_drop, take_parts, List.drop_drop]
        rw [show 4 + 1 + (ri.1 - (4 + 1)) = ri.1 by omega]
    · left; rw [if_pos (by simp [h6])]; exact ⟨h6, rfl, rfl⟩
  · left; rw [if_pos (by simp [h5])]; exact ⟨h5, rfl, rfl⟩
/-- with a byte changed, if it is still read, it is another one -/
theorem get_other {t : Tx} (h : t.Ok) (hf : form t = true) {b : List UInt8} (hl : b.length = (bytes t).length) (hne : b ≠ bytes t) (he : (get b).2.2 = 0) : (get b).1 ≠ t := by
  intro e
  rcases get_back b with ⟨h1, _⟩ | ⟨_, _, _, h4, h5⟩
  · exact h1 he
  · rw [e] at h5
    have := congrArg List.length h5
    rw [List.length_take] at this
    rw [List.take_of_length_le (by omega)] at h5
    exact hne h5.symm
end Go.Proofs.YtpacgblddeoheaaDoor.Txs
