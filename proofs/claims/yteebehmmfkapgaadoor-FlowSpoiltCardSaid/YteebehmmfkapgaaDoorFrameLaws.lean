/- Frames in plain Lean: what is put is got; cut off it is too short. -/
import Derived.Test.YteebehmmfkapgaaDoorFrameOut
set_option linter.unusedVariables false
set_option linter.unusedSimpArgs false
namespace Go.Proofs.YteebehmmfkapgaaDoor.Frm
theorem strip_zeros (l : List UInt8) (n : Nat) (h : l = [] ∨ ∃ h : l.length - 1 < l.length, l[l.length - 1] ≠ 0) : strip (l ++ List.replicate n 0) = l := by
  rw [strip_of (l ++ List.replicate n 0) l.length (by simp)]
  · simp
  · intro i hi hk
    rw [List.getElem_append_right hk, List.getElem_replicate]
  · rcases h with rfl | ⟨hlt, hne⟩
    · exact .inl rfl
    · refine .inr ⟨by rw [List.length_append]; omega, ?_⟩
      rw [List.getElem_append_left hlt]
      exact hne
theorem named_last {l : List UInt8} (h : named l = true) : l = [] ∨ ∃ h : l.length - 1 < l.length, l[l.length - 1] ≠ 0 := by
  obtain ⟨h0, _, ha⟩ := named_len h
  have hl : 0 < l.length := List.length_pos_iff.2 h0
  refine .inr ⟨by omega, fun e => ?_⟩
  have := List.all_eq_true.1 ha _ (List.getElem_mem (show l.length - 1 < l.length by omega))
  rw [e] at this
  exact absurd this (by decide)
theorem name_zeros {l : List UInt8} (n : Nat) (h : named l = true) : name (l ++ List.replicate n 0) = l := by
  obtain ⟨h0, _, ha⟩ := named_len h
  unfold name
  rw [strip_zeros l n (named_last h), if_neg h0, if_pos ha]
def headOf (cmd : List UInt8) (n s : Nat) : List UInt8 := magic ++ cmd ++ List.replicate (12 - cmd.length) 0 ++ Oct.le n 4 ++ Oct.le s 4
theorem headOf_len {cmd : List UInt8} (h : cmd.length ≤ 12) (n s : Nat) : (headOf cmd n s).length = 24 := by
  simp only [headOf, List.length_append, List.length_replicate, Oct.le_length]
  show 4 + _ + _ + 4 + 4 = 24
  omega
theorem put_head (cmd body : List UInt8) : put cmd body = headOf cmd body.length (Sha.check body).toNat ++ body := rfl
theorem head_of {cmd : List UInt8} (h : named cmd = true) (n s : Nat) (hn : n < 4294967296) (hs : s < 4294967296) :
    head (headOf cmd n s) = if 2048 < n then (⟨[], 0, 0⟩, 5) else (⟨cmd, n, s⟩, 0) := by
  obtain ⟨_, h12, _⟩ := named_len h
  have hl := headOf_len h12 n s
  have e4 : (headOf cmd n s).take 4 = magic := by
    simp only [headOf, List.append_assoc]; exact List.take_left' rfl
  have p16 : (magic ++ cmd ++ List.replicate (12 - cmd.length) (0 : UInt8)).length = 16 := by
    simp only [List.length_append, List.length_replicate]; show 4 + _ + _ = 16; omega
  have e16 : (headOf cmd n s).drop 16 = Oct.le n 4 ++ Oct.le s 4 := by
    unfold headOf; rw [List.append_assoc, List.drop_left' p16]
  have e16' : ((headOf cmd n s).drop 16).take 4 = Oct.le n 4 := by rw [e16]; exact List.take_left' (Oct.le_length _ _)
  have e20 : (headOf cmd n s).drop 20 = Oct.le s 4 := by
    rw [show 20 = 16 + 4 from rfl, ← List.drop_drop, e16]; exact List.drop_left' (Oct.le_length _ _)
  have e412 : ((headOf cmd n s).drop 4).take 12 = cmd ++ List.replicate (12 - cmd.length) 0 := by
    simp only [headOf, List.append_assoc]
    rw [List.drop_left' (show magic.length = 4 from rfl), ← List.append_assoc]
    exact List.take_left' (by rw [List.length_append, List.length_replicate]; omega)
  have vn : Oct.val (Oct.le n 4) = n := by rw [Oct.val_le]; exact Nat.mod_eq_of_lt hn
  have vs : Oct.val (Oct.le s 4) = s := by rw [Oct.val_le]; exact Nat.mod_eq_of_lt hs
  unfold head
  rw [if_neg (by rw [hl]; simp), if_neg (by rw [e4]; simp), e16', e20, e412, vn, vs, name_zeros _ h]
theorem get_put {cmd body : List UInt8} (h : named cmd = true) (hb : body.length ≤ 2048) (rest : List UInt8) : get (put cmd body ++ rest) = (cmd, body, 24 + body.length, 0) := by
  obtain ⟨h0, h12, _⟩ := named_len h
  have hs := (Sha.check body).toNat_lt
  have hl := headOf_len h12 body.length (Sha.check body).toNat
  have hh := head_of h body.length (Sha.check body).toNat (by omega) hs
  rw [if_neg (by omega)] at hh
  rw [put_head, List.append_assoc]
  unfold get
  rw [if_neg (by rw [List.length_append, hl]; omega), List.take_left' hl, hh]
  simp only [ne_eq, not_true_eq_false, if_false]
  rw [if_neg (by rw [List.length_append, hl, List.length_append]; omega), if_neg h0, List.drop_left' hl, List.take_left' rfl]
  simp
theorem get_cut {cmd body : List UInt8} (h : named cmd = true) (hb : body.length ≤ 2048) (k : Nat) (hk : k < (put cmd body).length) : get ((put cmd body).take k) = ([], [], 0, 4) := by
  obtain ⟨h0, h12, _⟩ := named_len h
  have hs := (Sha.check body).toNat_lt
  have hl := headOf_len h12 body.length (Sha.check body).toNat
  have hh := head_of h body.length (Sha.check body).toNat (by omega) hs
  rw [if_neg (by omega)] at hh
  rw [put_head, List.length_append, hl] at hk
  have hlk : ((put cmd body).take k).length = k := by rw [List.length_take, put_head, List.length_append, hl]; omega
  unfold get
  rw [hlk]
  by_cases h24 : k < 24
  · rw [if_pos h24]
  · have et : ((put cmd body).take k).take 24 = headOf cmd body.length (Sha.check body).toNat := by
      rw [List.take_take, Nat.min_eq_left (by omega), put_head, List.take_left' hl]
    rw [if_neg h24, et, hh]
    simp only [ne_eq, not_true_eq_false, if_false]
    rw [if_pos (by omega)]
theorem put_len {cmd : List UInt8} (h : named cmd = true) (body : List UInt8) : (put cmd body).length = 24 + body.length := by
  obtain ⟨_, h12, _⟩ := named_len h
  rw [put_head, List.length_append, headOf_len h12]
end Go.Proofs.YteebehmmfkapgaaDoor.Frm
