/- The document's frames: heads. -/
import Derived.Test.YteebehmmfkapgaaDoorRef05
import Derived.Test.YteebehmmfkapgaaDoorFrameLaws
set_option linter.unusedVariables false
set_option linter.unusedSimpArgs false
namespace Go.Proofs.YteebehmmfkapgaaDoor.Frm
/-- the letters up to the first nought, if noughts alone stand behind it -/
def cut0 (l : List UInt8) : List UInt8 := l.takeWhile (· != 0)
def refName (l : List UInt8) : List UInt8 := if (l.drop (cut0 l).length).all (· == 0) && named (cut0 l) then cut0 l else []
theorem letter_zero : letter 0 = false := by decide
theorem all_letter_ne {l : List UInt8} (h : l.all letter = true) : ∀ x ∈ l, (x != 0) = true := by
  intro x hx
  have := List.all_eq_true.1 h x hx
  rw [bne_iff_ne]
  rintro rfl
  rw [letter_zero] at this; cases this
theorem cut0_zeros {s : List UInt8} (h : s.all letter = true) (n : Nat) : cut0 (s ++ List.replicate n 0) = s := by
  unfold cut0
  rw [List.takeWhile_append_of_pos (all_letter_ne h)]
  cases n with
  | zero => simp
  | succ n => rw [List.replicate_succ, List.takeWhile_cons_of_neg (by decide), List.append_nil]
theorem strip_split (l : List UInt8) : ∃ n, l = strip l ++ List.replicate n 0 := by
  refine ⟨(l.reverse.takeWhile (· == 0)).length, ?_⟩
  have h := List.takeWhile_append_dropWhile (p := (· == (0 : UInt8))) (l := l.reverse)
  have h2 : l = (l.reverse.dropWhile (· == 0)).reverse ++ (l.reverse.takeWhile (· == 0)).reverse := by
    rw [← List.reverse_append, h, List.reverse_reverse]
  have h3 : (l.reverse.takeWhile (· == 0)).reverse = List.replicate (l.reverse.takeWhile (· == 0)).length 0 := by
    rw [List.eq_replicate_iff]
    refine ⟨by simp, fun x hx => ?_⟩
    have h4 := List.mem_reverse.1 hx
    have h5 := List.all_eq_true.1 (List.all_takeWhile (p := (· == (0 : UInt8))) (l := l.reverse)) x h4
    simpa using h5
  rw [← h3]
  exact h2
theorem name_ref (l : List UInt8) (hl : l.length ≤ 12) : refName l = name l := by
  obtain ⟨n, hn⟩ := strip_split l
  unfold name
  by_cases h0 : strip l = []
  · rw [if_pos h0]
    rw [h0, List.nil_append] at hn
    unfold refName
    have hc : cut0 l = [] := by
      rw [hn]
      have := cut0_zeros (s := []) rfl n
      simpa using this
    rw [hc]; simp
  · rw [if_neg h0]
    by_cases ha : (strip l).all letter = true
    · rw [if_pos ha]
      have hc : cut0 l = strip l := by
        have := cut0_zeros ha n
        rw [← hn] at this
        exact this
      unfold refName
      have hsl : (strip l).length ≤ l.length := by
        have h := congrArg List.length hn
        rw [List.length_append] at h
        omega
      have hz : (l.drop (strip l).length).all (· == 0) = true := by
        have : l.drop (strip l).length = List.replicate n 0 := by
          have h := congrArg (List.drop (strip l).length) hn
          rw [List.drop_left] at h
          exact h
        rw [this]; simp
      have hnm : named (strip l) = true := by
        unfold named; rw [ha]; simp [h0]; omega
      rw [hc, hz, hnm]; rfl
    · rw [if_neg ha]
      unfold refName
      rw [if_neg]
      intro h
      rw [Bool.and_eq_true] at h
      obtain ⟨h1, h2⟩ := h
      obtain ⟨k0, _, k2⟩ := named_len h2
      apply ha
      have hsp := List.takeWhile_append_dropWhile (p := (· != (0 : UInt8))) (l := l)
      have hd : l.drop (cut0 l).length = List.replicate (l.drop (cut0 l).length).length 0 := by
        rw [List.eq_replicate_iff]
        refine ⟨rfl, fun x hx => ?_⟩
        simpa using List.all_eq_true.1 h1 x hx
      have hl2 : l = cut0 l ++ List.replicate (l.drop (cut0 l).length).length 0 := by
        have h3 : l.take (cut0 l).length = cut0 l := by
          have h4 := congrArg (List.take (cut0 l).length) hsp
          unfold cut0
          rw [show (List.take (List.takeWhile (· != (0 : UInt8)) l).length l) = List.take (List.takeWhile (· != (0 : UInt8)) l).length (List.takeWhile (· != 0) l ++ List.dropWhile (· != 0) l) from by rw [hsp]]
          rw [List.take_left']
          rfl
        have h5 := (List.take_append_drop (cut0 l).length l).symm
        rw [h3, hd] at h5
        simpa using h5
      have hst : strip l = cut0 l := by
        have h6 := strip_zeros (cut0 l) (l.drop (cut0 l).length).length (named_last h2)
        rw [← hl2] at h6
        exact h6
      rw [hst]; exact k2
end Go.Proofs.YteebehmmfkapgaaDoor.Frm
