/- A bit of bytes of one's own turned. -/
import Derived.Test.YteebehmmfkapgaaDoorBase
import Derived.Laws.OwnMore
namespace Go.Proofs.YteebehmmfkapgaaDoor
open Go.RowKit Go.Deep
set_option linter.unusedVariables false
set_option linter.unusedSimpArgs false
theorem tbits_u8_xor (a b : Nat) (ha : a < 256) (hb : b < 256) : bits .xor .u8 (a : Int) (b : Int) = ((a ^^^ b : Nat) : Int) := by
  have h : a ^^^ b < 256 := Nat.xor_lt_two_pow (n := 8) ha hb
  have e1 : a % 2 ^ IntKind.u8.bits = a := Nat.mod_eq_of_lt ha
  have e2 : b % 2 ^ IntKind.u8.bits = b := Nat.mod_eq_of_lt hb
  simp only [bits, BitVec.ofInt_natCast, BitVec.toNat_xor, BitVec.toNat_ofNat, e1, e2]
  rw [IntKind.wrap_u8]
  omega
theorem tturn_bit (x : UInt8) (m : Nat) (hm : m < 8) : ∃ y : UInt8, bits .xor .u8 (x.toNat : Int) ((2 : Int) ^ m % 256) = (y.toNat : Int) ∧ y ≠ x := by
  have hp : (2 : Int) ^ m % 256 = ((2 ^ m : Nat) : Int) := by
    have : m = 0 ∨ m = 1 ∨ m = 2 ∨ m = 3 ∨ m = 4 ∨ m = 5 ∨ m = 6 ∨ m = 7 := by omega
    rcases this with rfl | rfl | rfl | rfl | rfl | rfl | rfl | rfl <;> rfl
  have hlt : 2 ^ m < 256 := by
    have : 2 ^ m < 2 ^ 8 := Nat.pow_lt_pow_right (by decide) hm
    simpa using this
  have hx := x.toNat_lt
  rw [hp, tbits_u8_xor _ _ hx hlt]
  have h8 : x.toNat ^^^ 2 ^ m < 256 := Nat.xor_lt_two_pow (n := 8) hx hlt
  refine ⟨UInt8.ofNat (x.toNat ^^^ 2 ^ m), by rw [UInt8.toNat_ofNat_of_lt' h8], fun e => ?_⟩
  have h1 := congrArg UInt8.toNat e
  rw [UInt8.toNat_ofNat_of_lt' h8] at h1
  have h2 : x.toNat ^^^ (x.toNat ^^^ 2 ^ m) = x.toNat ^^^ x.toNat := by rw [h1]
  rw [← Nat.xor_assoc, Nat.xor_self, Nat.zero_xor] at h2
  exact absurd h2 (Nat.pos_iff_ne_zero.1 (Nat.pow_pos (by decide)))
theorem tset_ne {l : List UInt8} {i : Nat} {x y : UInt8} (hi : l[i]? = some x) (hy : y ≠ x) : l.set i y ≠ l := by
  intro e
  have hl : i < l.length := (List.getElem?_eq_some_iff.1 hi).1
  have h : (l.set i y)[i]? = some y := by rw [List.getElem?_set_self hl]
  rw [e, hi] at h
  exact hy (Option.some.inj h).symm
theorem own_cell {w : World} {base g n c : Nat} {p : List UInt8} (h : w.ownsRow base 5 1 (.slice (some ⟨g, 0, none⟩) n c) n (p.map byteV)) (hn : p.length = n) {i : Nat} {x : UInt8} (hx : p[i]? = some x) :
    w.cell? ⟨g, i, none⟩ = some (.int .u8 (x.toNat : Int)) ∧ w.frozen? ⟨g, i, none⟩ = false := by
  have hi : i < p.length := (List.getElem?_eq_some_iff.1 hx).1
  refine ⟨?_, h.frozenAt i⟩
  rw [h.cellAt i (by omega), List.getElem?_map, hx]; rfl
theorem own_set {w : World} {base g n c : Nat} {p : List UInt8} (h : w.ownsRow base 5 1 (.slice (some ⟨g, 0, none⟩) n c) n (p.map byteV)) (hn : p.length = n) (i : Nat) (y : UInt8) :
    OwnB (w.setCell ⟨g, i, none⟩ (.int .u8 (y.toNat : Int))) base (.slice (some ⟨g, 0, none⟩) n c) (p.set i y) := by
  have := (h.stored i (byteV y)).1
  unfold OwnB
  rw [List.length_set, hn, List.map_set]
  exact this
end Go.Proofs.YteebehmmfkapgaaDoor
