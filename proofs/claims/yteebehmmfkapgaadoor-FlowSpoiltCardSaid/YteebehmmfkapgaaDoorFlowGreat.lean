/- Are pieces more than are looked at? -/
import Derived.Test.YteebehmmfkapgaaDoorFlowAlive
namespace Go.Proofs.YteebehmmfkapgaaDoor
open Go.RowKit Go.Deep
set_option linter.unusedVariables false
set_option linter.unusedSimpArgs false
set_option maxRecDepth 100000
attribute [local go_sem ↓] Go.wp_at_zero Go.wp_at_succ

/-- great's answer -/
def GreatOut (n : Nat) (ls : List (List UInt8)) (w : World) (e : Ending) (w' : World) : Prop := ∃ g : Bool, e = .returned (.bool g) ∧ w' = w ∧ (g = false → n ≤ 300 ∧ ∀ p ∈ ls, p.length ≤ 20000)
set_option maxHeartbeats 1000000 in
theorem great_any (A : Option Addr) (n c B : Nat) (ls : List (List UInt8)) (w : World) (hl : ls.length = n) (h : PartsAt w B A ls) :
    Calls Tryd.prog 11 #[.slice A n c] w fun e w' => GreatOut n ls w e w' := by
  have HL := Lib.hid hl
  have HH := Lib.hid h
  clear hl h
  by_cases hn : 300 < n
  · have hn' : (300 : Int) < (n : Int) := by omega
    go_enter Tryd.func11, Tryd.ntmps11
    go_wp2_with fail
    go_ret
    exact ⟨true, rfl, rfl, fun h => (by cases h)⟩
  · have hn' : ¬ (300 : Int) < (n : Int) := by omega
    go_enter Tryd.func11, Tryd.ntmps11
    go_wp2_with fail
    go_loopw [3, 11] (fun s i wr => ∃ k m : Nat, k ≤ n ∧ m ≤ 20000 ∧ i = .int .i64 (k : Int) ∧ s = .int .i64 (m : Int) ∧ wr = w ∧ Hid (∀ p ∈ ls.take k, p.length ≤ 20000)) (fun _ i _ => n - (intOf i).toNat)
    case atStart => exact ⟨0, 0, Nat.zero_le _, Nat.zero_le _, rfl, rfl, rfl, Lib.hid (by simp)⟩
    case round =>
      obtain ⟨k, m, hk, hm, rfl, rfl, rfl, HP⟩ := hrel
      by_cases hkn : k < n
      · obtain ⟨b, off, A', c', rfl, _, d0, _, _, _⟩ := HH.out.cell (i := k) (by rw [HL.out]; exact hkn)
        obtain ⟨p, hp⟩ : ∃ p, p = ls[k]'(by rw [HL.out]; exact hkn) := ⟨_, rfl⟩
        rw [← hp] at d0
        have HP0 := Lib.hid hp
        clear hp
        have i1 : (0 : Int) ≤ (k : Int) := by omega
        have i2 : (k : Int) < (n : Int) := by omega
        by_cases h1 : 20001 < p.length
        · have h1' : (20001 : Int) < (p.length : Int) := by omega
          have h2 : (20000 : Int) < (m : Int) + 20001 := by omega
          go_wp2_with fail
          go_ret
          exact ⟨true, rfl, rfl, fun h => (by cases h)⟩
        · have h1' : ¬ (20001 : Int) < (p.length : Int) := by omega
          by_cases h2 : 20000 < m + p.length
          · have h2' : (20000 : Int) < (m : Int) + (p.length : Int) := by omega
            go_wp2_with fail
            go_ret
            exact ⟨true, rfl, rfl, fun h => (by cases h)⟩
          · have h2' : ¬ (20000 : Int) < (m : Int) + (p.length : Int) := by omega
            go_wp2_with fail
            go_roundw
            case rel =>
              refine ⟨k + 1, m + p.length, by omega, by omega, by go_num, by go_num, by first | rfl | trivial, Lib.hid ?_⟩
              intro x hx
              rw [List.take_add_one, List.mem_append] at hx
              rcases hx with hx | hx
              · exact HP.out x hx
              · rw [List.getElem?_eq_getElem (by rw [HL.out]; exact hkn)] at hx
                have : x = ls[k]'(by rw [HL.out]; exact hkn) := by simpa using hx
                rw [this, ← HP0.out]; omega
            case measure => simp [intOf]; omega
      · have hkn' : ¬ (k : Int) < (n : Int) := by omega
        go_wp2_with fail
        go_ret
        have hp := HP.out
        rw [List.take_of_length_le (by rw [HL.out]; omega)] at hp
        exact ⟨false, rfl, rfl, fun _ => ⟨by omega, hp⟩⟩
end Go.Proofs.YteebehmmfkapgaaDoor
