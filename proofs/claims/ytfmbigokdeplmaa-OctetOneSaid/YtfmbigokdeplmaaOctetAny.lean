/- What Put and Get answer to any arguments: the program's and the document's alike. -/
import Derived.Test.YtfmbigokdeplmaaOctetAlive
namespace Go.Proofs.Ytfmbigokdeplmaa
open Go.RowKit Go.Deep
set_option linter.unusedVariables false
set_option maxRecDepth 100000

def Oct.okw (n : Int) : Prop := n = 1 ∨ n = 2 ∨ n = 4 ∨ n = 8
instance (n : Int) : Decidable (Oct.okw n) := by unfold Oct.okw; infer_instance
def Oct.put (x : Nat) (n : Int) : List UInt8 × Int := if Oct.okw n then (if x < 256 ^ n.toNat then (Oct.le x n.toNat, 0) else ([], 3)) else ([], 2)
def Oct.get (l : List UInt8) : Nat × Int := if Oct.okw (l.length : Int) then (Oct.val l, 0) else (0, 2)

theorem okw_nat {n : Int} (h : Oct.okw n) : ∃ m : Nat, n = (m : Int) ∧ n.toNat = m ∧ (m = 1 ∨ m = 2 ∨ m = 4 ∨ m = 8) := ⟨n.toNat, by unfold Oct.okw at h; omega, rfl, by unfold Oct.okw at h; omega⟩
/-- a row and a number, as Put hands them -/
def PutOut (w w' : World) (p : List UInt8 × Int) (r : Ending) : Prop :=
  ∃ A cap, r = .returned (.tuple #[.slice A p.1.length cap, .int .i64 p.2]) ∧ p.1.length ≤ cap ∧ cap ≤ maxLen ∧ BytesAt w' w'.heap.size A p.1 ∧ Below w.heap.size w w'
theorem PutOut.none {w : World} {e : Int} : PutOut w w ([], e) (.returned (.tuple #[.slice none 0 0, .int .i64 e])) := ⟨Option.none, 0, rfl, Nat.le_refl _, by simp [maxLen], bytes_nil _ _ _, Below.refl _ _⟩
theorem oput_any (x : Nat) (n : Int) (hx : U64 x) (w : World) : Calls Try.prog 12 #[.int .u64 (x : Int), .int .i64 n] w fun r w' => PutOut w w' (Oct.put x n) r := by
  by_cases hn : Oct.okw n
  · obtain ⟨m, rfl, hm, h4⟩ := okw_nat hn
    have hp : Oct.put x m = if x < 256 ^ m then (Oct.le x m, 0) else ([], 3) := by unfold Oct.put; rw [if_pos hn, hm]
    rw [hp]
    by_cases hlt : x < 256 ^ m
    · rw [if_pos hlt]
      refine (oput_fits x m hx h4 (fun _ => hlt) w).mono ?_
      rintro r w' ⟨v, rfl, hv, hb⟩
      obtain ⟨A, cap, rfl, h1, h2, h3, _⟩ := hv.at_
      exact ⟨A, cap, rfl, h1, h2, h3, hb⟩
    · rw [if_neg hlt]
      have h3 : m = 1 ∨ m = 2 ∨ m = 4 := by
        rcases h4 with h | h | h | rfl
        · exact .inl h
        · exact .inr (.inl h)
        · exact .inr (.inr h)
        · exact absurd hx (by unfold U64; omega)
      refine (oput_great x m h3 (by omega) w).mono ?_
      rintro r w' ⟨rfl, rfl⟩
      exact PutOut.none
  · have hp : Oct.put x n = ([], 2) := by unfold Oct.put; rw [if_neg hn]
    rw [hp]
    refine (oput_no x n hn w).mono ?_
    rintro r w' ⟨rfl, rfl⟩
    exact PutOut.none
theorem rput_any (x : Nat) (n : Int) (hx : U64 x) (w : World) : Calls Try.prog 13 #[.int .u64 (x : Int), .int .i64 n] w fun r w' => PutOut w w' (Oct.put x n) r := by
  by_cases hn : Oct.okw n
  · obtain ⟨m, rfl, hm, h4⟩ := okw_nat hn
    have hp : Oct.put x m = if x < 256 ^ m then (Oct.le x m, 0) else ([], 3) := by unfold Oct.put; rw [if_pos hn, hm]
    rw [hp]
    refine (rput_yes x m hx h4 w).mono ?_
    rintro r w' ⟨v, e, rfl, h1, h2, hb⟩
    by_cases hlt : x < 256 ^ m
    · rw [if_pos hlt]
      obtain ⟨hv, rfl⟩ := h2 hlt
      obtain ⟨A, cap, rfl, h1, h2, h3, _⟩ := hv.at_
      exact ⟨A, cap, rfl, h1, h2, h3, hb⟩
    · rw [if_neg hlt]
      obtain ⟨rfl, rfl⟩ := h1 (by omega)
      exact ⟨none, 0, rfl, Nat.le_refl _, by simp [maxLen], bytes_nil _ _ _, hb⟩
  · have hp : Oct.put x n = ([], 2) := by unfold Oct.put; rw [if_neg hn]
    rw [hp]
    refine (rput_no x n hn w).mono ?_
    rintro r w' ⟨rfl, rfl⟩
    exact PutOut.none
theorem oget_any (A : Option Addr) (n cap B : Nat) (l : List UInt8) (w : World) (hl : l.length = n) (h : BytesAt w B A l) :
    Calls Try.prog 14 #[.slice A n cap] w fun r w' => r = .returned (.tuple #[.int .u64 ((Oct.get l).1 : Nat), .int .i64 (Oct.get l).2]) ∧ w = w' := by
  subst hl
  unfold Oct.get
  by_cases hn : Oct.okw (l.length : Int)
  · rw [if_pos hn]
    exact oget_yes A cap B l (by unfold Oct.okw at hn; omega) w h
  · rw [if_neg hn]
    exact oget_no A l.length cap (by unfold Oct.okw at hn; omega) w
theorem rget_any (A : Option Addr) (n cap B : Nat) (l : List UInt8) (w : World) (hl : l.length = n) (h : BytesAt w B A l) :
    Calls Try.prog 15 #[.slice A n cap] w fun r w' => r = .returned (.tuple #[.int .u64 ((Oct.get l).1 : Nat), .int .i64 (Oct.get l).2]) ∧ w = w' := by
  subst hl
  unfold Oct.get
  by_cases hn : Oct.okw (l.length : Int)
  · rw [if_pos hn]
    exact rget_yes A cap B l (by unfold Oct.okw at hn; omega) w h
  · rw [if_neg hn]
    exact rget_no A l.length cap (by unfold Oct.okw at hn; omega) w
end Go.Proofs.Ytfmbigokdeplmaa
