/- The document's frames: names, what is put. -/
import Derived.Test.YteebehmmfkapgaaDoorFrameOut
import Derived.Test.YteebehmmfkapgaaDoorRefSum2
import Derived.Test.YteebehmmfkapgaaDoorRef02G
import Derived.Lib.AppendStr
namespace Go.Proofs.YteebehmmfkapgaaDoor
open Go.RowKit Go.Deep
set_option linter.unusedVariables false
set_option linter.unusedSimpArgs false
set_option maxRecDepth 100000
attribute [local go_sem ↓] Go.wp_at_zero Go.wp_at_succ
theorem take_all_next (s : ByteArray) {k : Nat} (h : k < s.size) : (s.data.toList.take (k + 1)).all Frm.letter = ((s.data.toList.take k).all Frm.letter && Frm.letter s[k]) := by
  have h' : k < s.data.toList.length := by rw [str_len]; exact h
  rw [List.take_succ_eq_append_getElem h', List.all_append]
  simp only [List.all_cons, List.all_nil, Bool.and_true]
  rfl
theorem not_letter (s : ByteArray) {k : Nat} (h : k < s.size) (hn : Frm.letter s[k] = false) : Frm.named s.data.toList = false := by
  have h' : k < s.data.toList.length := by rw [str_len]; exact h
  have : s.data.toList.all Frm.letter = false := by
    rw [List.all_eq_false]
    exact ⟨s.data.toList[k], List.getElem_mem h', by rw [show s.data.toList[k] = s[k] from rfl, hn]; simp⟩
  unfold Frm.named
  rw [this, Bool.and_false]
theorem named_all (s : ByteArray) (h : s.data.toList.all Frm.letter = true) : Frm.named s.data.toList = (decide (1 ≤ s.size) && decide (s.size ≤ 12)) := by
  unfold Frm.named
  rw [h, Bool.and_true, str_len]
  congr 1
  by_cases h0 : s.data.toList = []
  · have : s.size = 0 := by rw [← str_len, h0]; rfl
    simp [h0, this]
  · have : 0 < s.size := by rw [← str_len]; exact List.length_pos_iff.2 h0
    simp [h0]; omega
theorem named_ref (s : ByteArray) (w : World) (hs : s.size ≤ 9223372036854775807) : Calls Tryd.prog 38 #[.string s] w fun e w' => e = .returned (.bool (Frm.named s.data.toList)) ∧ w = w' := by
  go_enter Tryd.func38, Tryd.ntmps38
  go_wp2_with fail
  go_loop [6] (fun i => ∃ k : Nat, k ≤ s.size ∧ i = .int .i64 (k : Int) ∧ Hid ((s.data.toList.take k).all Frm.letter = true)) (fun i => s.size - (intOf i).toNat)
  case atStart => exact ⟨0, Nat.zero_le _, rfl, Lib.hid rfl⟩
  case round =>
    obtain ⟨k, hk, rfl, ha⟩ := hrel
    by_cases hlt : k < s.size
    · have hlt' : (k : Int) < (s.size : Int) := by omega
      have HT := Lib.hid (take_all_next s hlt)
      have HLT := Lib.hid (show Frm.letter s[k] = decide (97 ≤ s[k].toNat ∧ s[k].toNat ≤ 122) from rfl)
      have HNL := Lib.hid (not_letter s hlt)
      by_cases g1 : s[k].toNat < 97
      · have g1' : (s[k].toNat : Int) < 97 := by omega
        go_wp2_with fail
        go_ret
        exact ⟨ret_bool (HNL.out (by rw [HLT.out]; exact decide_eq_false (by omega))).symm, rfl⟩
      · have g1' : ¬ (s[k].toNat : Int) < 97 := by omega
        by_cases g2 : 122 < s[k].toNat
        · have g2' : (122 : Int) < (s[k].toNat : Int) := by omega
          go_wp2_with fail
          go_ret
          exact ⟨ret_bool (HNL.out (by rw [HLT.out]; exact decide_eq_false (by omega))).symm, rfl⟩
        · have g2' : ¬ (122 : Int) < (s[k].toNat : Int) := by omega
          go_wp2_with fail
          go_round
          case rel => exact ⟨k + 1, by omega, by go_num, Lib.hid (by rw [HT.out, ha.out, HLT.out]; simp; omega)⟩
          case measure => simp [intOf]; omega
    · have hlt' : ¬ (k : Int) < (s.size : Int) := by omega
      have HNA := Lib.hid (named_all s (by have := ha.out; rwa [show k = s.data.toList.length by rw [str_len]; omega, List.take_length] at this))
      clear ha
      by_cases h1 : 1 ≤ s.size
      · have h1' : (1 : Int) ≤ (s.size : Int) := by omega
        by_cases h12 : s.size ≤ 12
        · have h12' : (s.size : Int) ≤ 12 := by omega
          go_wp2_with fail
          go_ret
          exact ⟨ret_bool (by rw [HNA.out]; simp [h1, h12]), rfl⟩
        · have h12' : ¬ (s.size : Int) ≤ 12 := by omega
          go_wp2_with fail
          go_ret
          exact ⟨ret_bool (by rw [HNA.out]; simp [h12]), rfl⟩
      · have h1' : ¬ (1 : Int) ≤ (s.size : Int) := by omega
        go_wp2_with fail
        go_ret
        exact ⟨ret_bool (by rw [HNA.out]; simp [h1]), rfl⟩
theorem magic_ref (w : World) : Calls Tryd.prog 36 #[] w fun e w' => ∃ g, e = .returned (.slice (some ⟨g, 0, none⟩) 4 4) ∧ w.heap.size ≤ g ∧ Bk w' g 5 (bytesArr Frm.magic) ∧ Below w.heap.size w w' := by
  go_enter Tryd.func36, Tryd.ntmps36
  go_wp2
  go_ret
  exact ⟨_, rfl, Nat.le_refl _, Bk.new _ _ _, Joins.below_alloc1 _ _⟩
end Go.Proofs.YteebehmmfkapgaaDoor
