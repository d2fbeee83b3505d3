/- What is packed is unpacked: plain Lean. -/
import Derived.Test.YtfmbigokdeplmaaOctetPlain
namespace Go.Proofs.Ytfmbigokdeplmaa.Oct

def flat (ls : List (List UInt8)) : List UInt8 := ls.flatMap fun p => var p.length ++ p
theorem pack_flat (ls : List (List UInt8)) : pack ls = var ls.length ++ flat ls := rfl
theorem flat_cons (p : List UInt8) (ls : List (List UInt8)) : flat (p :: ls) = var p.length ++ (p ++ flat ls) := by unfold flat; rw [List.flatMap_cons, List.append_assoc]
theorem flat_pos {ls : List (List UInt8)} (h : ls ≠ []) : 1 ≤ (flat ls).length := by
  cases ls with
  | nil => exact absurd rfl h
  | cons p l =>
    rw [flat_cons, List.length_append, var_length]
    have := (size_pos p.length).1
    omega
theorem cut_append (a b : List UInt8) (h : 1 ≤ b.length) : (a ++ b).take ((a ++ b).length - 1) = a ++ b.take (b.length - 1) := by
  rw [List.length_append, show a.length + b.length - 1 = a.length + (b.length - 1) by omega, List.take_length_add_append]
theorem unpack_of {n : Nat} {most : Int} (hn : n < 18446744073709551616) (b : List UInt8) (hm : (n : Int) ≤ most) : unpack (var n ++ b) most = takeApart n b [] := by
  unfold unpack
  rw [read_var n hn]
  simp only
  rw [if_neg (fun h => h rfl), if_neg (by omega), ← var_length, List.drop_left]
theorem unpack_pack (ls : List (List UInt8)) (hn : ls.length < 18446744073709551616) (h : ∀ p ∈ ls, p.length < 18446744073709551616) : unpack (pack ls) (ls.length : Int) = (ls, 0) := by
  have := takeApart_pack ls [] [] h
  rw [pack_flat, unpack_of hn _ (Int.le_refl _)]
  rw [List.append_nil] at this
  exact this
theorem unpack_more (ls : List (List UInt8)) (c : UInt8) (hn : ls.length < 18446744073709551616) (h : ∀ p ∈ ls, p.length < 18446744073709551616) : unpack (pack ls ++ [c]) (ls.length : Int) = ([], 5) := by
  have := takeApart_pack ls [c] [] h
  rw [pack_flat, List.append_assoc, unpack_of hn _ (Int.le_refl _)]
  exact this
theorem takeApart_cut : ∀ (ls : List (List UInt8)) (acc : List (List UInt8)), ls ≠ [] → (∀ p ∈ ls, p.length < 18446744073709551616) →
    takeApart ls.length ((flat ls).take ((flat ls).length - 1)) acc = ([], 4)
  | [], _, h, _ => absurd rfl h
  | p :: ls, acc, _, h => by
    have hp := h p (by simp)
    rw [flat_cons, List.length_cons]
    by_cases hl : ls = []
    · subst hl
      rw [show flat [] = [] from rfl, List.append_nil]
      by_cases hp0 : p = []
      · subst hp0
        rw [List.append_nil]
        have hv := (var_length ([] : List UInt8).length)
        have hs := (size_pos ([] : List UInt8).length).1
        have hr := read_cut ([] : List UInt8).length ((var ([] : List UInt8).length).length - 1) (by omega)
        rw [takeApart, hr]
        simp
      · have hp1 : 1 ≤ p.length := by cases p with
          | nil => exact absurd rfl hp0
          | cons c r => simp
        rw [cut_append _ _ hp1, takeApart, read_var p.length hp]
        simp only
        rw [if_neg (fun h => h rfl), ← var_length, List.drop_left, if_pos (by rw [List.length_take]; omega)]
    · have h1 := flat_pos hl
      rw [cut_append _ _ (by rw [List.length_append]; omega), cut_append _ _ h1, takeApart, read_var p.length hp]
      simp only
      rw [if_neg (fun h => h rfl), ← var_length, List.drop_left, if_neg (by rw [List.length_append]; omega), List.drop_left, List.take_left]
      exact takeApart_cut ls _ hl (fun q hq => h q (by simp [hq]))
theorem unpack_cut (ls : List (List UInt8)) (hn : ls.length < 18446744073709551616) (h : ∀ p ∈ ls, p.length < 18446744073709551616) : unpack ((pack ls).take ((pack ls).length - 1)) (ls.length : Int) = ([], 4) := by
  by_cases hl : ls = []
  · subst hl; decide
  · rw [pack_flat, cut_append _ _ (flat_pos hl), unpack_of hn _ (Int.le_refl _)]
    exact takeApart_cut ls [] hl h
theorem unpack_fewer (ls : List (List UInt8)) (hn : ls.length < 18446744073709551616) : unpack (pack ls) ((ls.length : Int) - 1) = ([], 5) := by
  rw [pack_flat]
  unfold unpack
  rw [read_var _ hn]
  simp only
  rw [if_neg (fun h => h rfl), if_pos (by omega)]
theorem pack_pos (ls : List (List UInt8)) : 1 ≤ (pack ls).length := by
  rw [pack_flat, List.length_append, var_length]
  have := (size_pos ls.length).1
  omega
end Go.Proofs.Ytfmbigokdeplmaa.Oct
