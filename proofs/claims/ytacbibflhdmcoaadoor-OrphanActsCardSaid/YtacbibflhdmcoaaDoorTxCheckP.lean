/- What may not be of a transaction, in plain Lean. -/
import Derived.Test.YtacbibflhdmcoaaDoorTxPure2
set_option linter.unusedVariables false
set_option linter.unusedSimpArgs false
namespace Go.Proofs.YtacbibflhdmcoaaDoor.Txs
def mostMoney : Nat := 1125899906842624
def total (l : List Out) : Nat := (l.map fun x => x.value).sum
def money (l : List Out) : Bool := l.all (fun x => decide (0 < x.value)) && decide (total l ≤ mostMoney)
def pts (l : List In) : List (List UInt8 × Nat) := l.map fun x => (x.hash, x.n)
def apart (l : List In) : Bool := decide (pts l).Nodup
def check (t : Tx) : Int := if form t = true then (if t.ins.length = 0 ∨ t.outs.length = 0 then 9 else if money t.outs = true then (if apart t.ins = true then 0 else 12) else 11) else 5
theorem total_snoc {l : List Out} {k : Nat} (h : k < l.length) : total (l.take (k + 1)) = total (l.take k) + l[k].value := by
  unfold total; rw [List.take_succ_eq_append_getElem h, List.map_append, List.sum_append]; simp
theorem total_take_le (l : List Out) (k : Nat) : total (l.take k) ≤ total l := by
  have : total l = total (l.take k) + total (l.drop k) := by unfold total; rw [← List.sum_append, ← List.map_append, List.take_append_drop]
  omega
theorem value_le {l : List Out} {k : Nat} (h : k < l.length) : l[k].value ≤ total l := by
  have h1 := total_snoc h
  have h2 := total_take_le l (k + 1)
  omega
theorem money_zero {l : List Out} {k : Nat} (h : k < l.length) (hz : l[k].value = 0) : money l = false := by
  unfold money
  rw [Bool.and_eq_false_iff]; left
  rw [List.all_eq_false]
  exact ⟨l[k], List.getElem_mem h, by simp [hz]⟩
theorem money_over {l : List Out} {k : Nat} (h : mostMoney < total (l.take k)) : money l = false := by
  have := total_take_le l k
  unfold money
  rw [Bool.and_eq_false_iff]; right
  rw [decide_eq_false_iff_not]; omega
theorem money_big {l : List Out} {k : Nat} (h : k < l.length) (hz : mostMoney < l[k].value) : money l = false :=
  money_over (k := k + 1) (by have := total_snoc h; omega)
theorem money_yes {l : List Out} (h : ∀ i (hi : i < l.length), 0 < l[i].value) (ht : total l ≤ mostMoney) : money l = true := by
  unfold money
  rw [Bool.and_eq_true, List.all_eq_true]
  refine ⟨fun x hx => ?_, decide_eq_true ht⟩
  obtain ⟨i, hi, rfl⟩ := List.getElem_of_mem hx
  exact decide_eq_true (h i hi)
theorem total_bound (m : Nat) : ∀ (l : List Out), (∀ i (hi : i < l.length), l[i].value ≤ m) → total l ≤ l.length * m
  | [], _ => by simp [total]
  | x :: l, h => by
    have h0 := h 0 (by simp)
    have := total_bound m l fun i hi => h (i + 1) (Nat.succ_lt_succ hi)
    unfold total at *
    simp only [List.map_cons, List.sum_cons, List.length_cons, Nat.add_mul, List.getElem_cons_zero] at *
    omega
theorem pts_len (l : List In) : (pts l).length = l.length := by unfold pts; simp
theorem pts_get {l : List In} {i : Nat} (hi : i < l.length) : (pts l)[i]'(by rw [pts_len]; exact hi) = (l[i].hash, l[i].n) := by unfold pts; simp
theorem apart_no {l : List In} {i j : Nat} (hij : i < j) (hj : j < l.length) (e1 : l[i].hash = l[j].hash) (e2 : l[i].n = l[j].n) : apart l = false := by
  unfold apart
  rw [decide_eq_false_iff_not]
  intro hn
  have := (List.nodup_iff_pairwise_ne.1 hn)
  rw [List.pairwise_iff_getElem] at this
  exact this i j (by rw [pts_len]; omega) (by rw [pts_len]; omega) hij (by rw [pts_get (show i < l.length by omega), pts_get hj, e1, e2])
theorem apart_snoc {l : List In} {k : Nat} (hk : k < l.length) (h : apart (l.take k) = true) (hne : ∀ i (hi : i < k), ¬ (l[i].hash = l[k].hash ∧ l[i].n = l[k].n)) : apart (l.take (k + 1)) = true := by
  unfold apart at *
  rw [decide_eq_true_iff] at *
  rw [List.take_succ_eq_append_getElem hk]
  have e : pts (l.take k ++ [l[k]]) = pts (l.take k) ++ [(l[k].hash, l[k].n)] := by unfold pts; rw [List.map_append]; rfl
  rw [e, List.nodup_append]
  refine ⟨h, by simp, ?_⟩
  intro a ha b hb
  rw [List.mem_singleton] at hb
  subst hb
  intro hc
  subst hc
  obtain ⟨i, hi, he⟩ := List.getElem_of_mem ha
  have hi' : i < k := by rw [pts_len, List.length_take] at hi; omega
  rw [pts_get (by rw [List.length_take]; omega)] at he
  simp only [List.getElem_take, Prod.mk.injEq] at he
  exact hne i hi' he
theorem apart_nil : apart ([] : List In) = true := by decide
theorem apart_cons_of_snoc (l : List In) (x : In) : apart (l ++ [x]) = (apart l && !(pts l).any (fun q => decide (q = (x.hash, x.n)))) := by
  unfold apart
  have e : pts (l ++ [x]) = pts l ++ [(x.hash, x.n)] := by unfold pts; simp
  rw [Bool.eq_iff_iff, Bool.and_eq_true, decide_eq_true_iff, decide_eq_true_iff, e, List.nodup_append]
  simp only [Bool.not_eq_true', List.any_eq_false, decide_eq_true_eq]
  constructor
  · rintro ⟨h1, _, h3⟩
    exact ⟨h1, fun q hq he => h3 q hq _ (List.mem_singleton.2 rfl) he⟩
  · rintro ⟨h1, h2⟩
    refine ⟨h1, by simp, fun a ha b hb => ?_⟩
    rw [List.mem_singleton] at hb
    subst hb
    exact h2 a ha
/-! ### what Check says of a transaction with an input more -/
theorem check_ok {t : Tx} (h : check t = 0) : form t = true ∧ t.ins.length ≠ 0 ∧ t.outs.length ≠ 0 ∧ money t.outs = true ∧ apart t.ins = true := by
  unfold check at h
  split at h
  · rename_i hf
    split at h
    · cases h
    · rename_i h0
      split at h
      · rename_i hm
        split at h
        · rename_i ha
          exact ⟨hf, by omega, by omega, hm, ha⟩
        · cases h
      · cases h
  · cases h
theorem check_again {t : Tx} (h : check t = 0) {k : Nat} (hk : k < t.ins.length) (y : In) (e1 : y.hash = t.ins[k].hash) (e2 : y.n = t.ins[k].n) (hy : y.key.length = 1) :
    check ⟨t.version, t.ins ++ [y], t.outs⟩ = if 8 ≤ t.ins.length then 5 else 12 := by
  obtain ⟨hf, hi, ho, hm, ha⟩ := check_ok h
  obtain ⟨f1, f2, f3⟩ := form_iff.1 hf
  by_cases h8 : 8 ≤ t.ins.length
  · rw [if_pos h8]
    unfold check
    rw [if_neg]
    intro hc
    have := (form_iff.1 hc).2.1
    simp at this
    omega
  · rw [if_neg h8]
    unfold check
    rw [if_pos, if_neg (by simp; intro hh; exact ho (by simp [hh])), if_pos hm, if_neg]
    · have : apart (t.ins ++ [y]) = false := by
        refine apart_no (i := k) (j := t.ins.length) hk (by simp) ?_ ?_
        · rw [List.getElem_append_left hk, List.getElem_append_right (Nat.le_refl _)]; simp [e1]
        · rw [List.getElem_append_left hk, List.getElem_append_right (Nat.le_refl _)]; simp [e2]
      simp [this]
    · rw [form_iff]
      refine ⟨fun x hx => ?_, by simp; omega, f3⟩
      rcases List.mem_append.1 hx with hx | hx
      · exact f1 x hx
      · rw [List.mem_singleton.1 hx, hy]; omega
end Go.Proofs.YtacbibflhdmcoaaDoor.Txs
