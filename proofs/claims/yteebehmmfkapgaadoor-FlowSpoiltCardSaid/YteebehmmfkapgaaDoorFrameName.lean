/- Package frame: the name that stands in twelve bytes. -/
import Derived.Test.YteebehmmfkapgaaDoorFramePut
import Derived.Laws.IdiomStrings
namespace Go.Proofs.YteebehmmfkapgaaDoor
open Go.RowKit Go.Deep
set_option linter.unusedVariables false
set_option linter.unusedSimpArgs false
set_option maxRecDepth 100000
attribute [local go_sem ↓] Go.wp_at_zero Go.wp_at_succ

theorem strip_of (l : List UInt8) (k : Nat) (hk : k ≤ l.length) (h0 : ∀ i (h : i < l.length), k ≤ i → l[i] = 0) (h1 : k = 0 ∨ ∃ h : k - 1 < l.length, l[k - 1] ≠ 0) : Frm.strip l = l.take k := by
  have e : l = l.take k ++ List.replicate (l.length - k) 0 := by
    apply List.ext_getElem
    · simp; omega
    · intro i hi hi'
      rcases Nat.lt_or_ge i k with h | h
      · rw [List.getElem_append_left (by rw [List.length_take]; omega)]; simp
      · rw [List.getElem_append_right (by rw [List.length_take]; omega), List.getElem_replicate]
        exact h0 i hi h
  unfold Frm.strip
  rw [e, List.reverse_append, List.reverse_replicate, List.dropWhile_append]
  have hr : (List.replicate (l.length - k) (0 : UInt8)).dropWhile (· == 0) = [] := by
    simp
  rw [hr]
  simp only [List.isEmpty_nil, if_true]
  rw [← e]
  rcases h1 with h1 | ⟨hlt, hne⟩
  · subst h1; simp
  · have hk0 : k ≠ 0 := by
      rintro rfl
      exact hne (h0 _ hlt (Nat.zero_le _))
    have : (l.take k).reverse = l[k - 1] :: (l.take (k - 1)).reverse := by
      have : l.take k = l.take (k - 1) ++ [l[k - 1]] := by
        conv => lhs; rw [show k = k - 1 + 1 by omega]
        exact List.take_succ_eq_append_getElem hlt
      rw [this, List.reverse_append]; rfl
    rw [this, List.dropWhile_cons_of_neg (by simpa using hne), ← this, List.reverse_reverse]
set_option maxHeartbeats 400000 in
theorem name_any (q off c B : Nat) (l : List UInt8) (n : Nat) (w : World) (hl : l.length = n) (hn : n ≤ 1000) (hc : n ≤ c) (h : BytesAt w B (some ⟨q, off, none⟩) l) :
    Calls Tryd.prog 30 #[.slice (some ⟨q, off, none⟩) n c] w fun e w' => e = .returned (.string ⟨(Frm.name l).toArray⟩) ∧ w = w' := by
  have HH := Lib.hid h
  have HLN := Lib.hid hl
  clear h hl
  go_enter Tryd.func30, Tryd.ntmps30
  go_wp2_with fail
  go_loop [3] (fun i => ∃ k : Nat, k ≤ n ∧ i = .int .i64 (k : Int) ∧ Hid (∀ i (h : i < l.length), k ≤ i → l[i] = 0)) (fun i => (intOf i).toNat)
  case atStart => exact ⟨n, Nat.le_refl _, rfl, Lib.hid fun i h hi => by have := HLN.out; omega⟩
  case round =>
    obtain ⟨k, hk, rfl, hz⟩ := hrel
    rcases Nat.eq_zero_or_pos k with h0 | h0
    · subst h0
      have HF := Lib.hid (show Frm.name l = [] by unfold Frm.name; rw [strip_of l 0 (Nat.zero_le _) (fun i h hi => hz.out i h hi) (.inl rfl)]; simp)
      clear hz
      go_wp2_with fail
      go_ret
      exact ⟨by rw [HF.out]; rfl, rfl⟩
    · have hkl : k - 1 < l.length := by have := HLN.out; omega
      obtain ⟨q', off', hA, _, hcell⟩ := HH.out.cell hkl
      cases hA
      have hk1 : ((k : Int) - 1) = ((k - 1 : Nat) : Int) := by omega
      by_cases hb : l[k - 1] = 0
      · rw [hb] at hcell
        have HZ := Lib.hid (show ∀ i (h : i < l.length), k - 1 ≤ i → l[i] = 0 from fun i h hi => by
          rcases Nat.lt_or_ge i k with h' | h'
          · obtain rfl : i = k - 1 := by omega
            exact hb
          · exact hz.out i h h')
        clear hb hz
        go_wp2_with fail
        go_round
        case rel => exact ⟨k - 1, by omega, rfl, HZ⟩
        case measure => simp [intOf]; omega
      · have hk' : k ≤ n := hk
        have hst := strip_of l k (by have := HLN.out; omega) (fun i h hi => hz.out i h hi) (.inr ⟨hkl, hb⟩)
        have hne : ((l[k - 1].toNat : Int) == 0) = false := by
          rw [beq_eq_false_iff_ne]
          intro e
          apply hb
          apply UInt8.toNat_inj.1
          show l[k - 1].toNat = 0
          omega
        have htl : (l.take k).length = k := by rw [List.length_take]; have := HLN.out; omega
        have hbt := BytesAt.take HH.out k
        have HLT := Lib.hid (letters_any (some ⟨q, off, none⟩) k c B (l.take k) w htl (by omega) hbt)
        have hcb := run_convert_bytes_back (P := Tryd.prog) w 28 9 5 ⟨q, off, none⟩ c (l.take k) Tryd.underlying28 Tryd.underlying5 Tryd.underlying9 (fun j hj => by
          obtain ⟨q2, off2, hA2, _, hc2⟩ := hbt.cell hj
          cases hA2
          have e : (⟨q, off, none⟩ : Addr).add j = ⟨q, off + j, none⟩ := by unfold Addr.add; split <;> simp_all
          rw [e]; exact hc2)
        rw [htl] at hcb
        have hk0n : ¬ (k = 0) := by omega
        have hk0 : ((k : Int) == 0) = false := by rw [beq_eq_false_iff_ne]; omega
        have HS := Lib.hid hst
        have hkc : k ≤ c := by omega
        generalize hx : l[k - 1] = x at *
        cases hall : (l.take k).all Frm.letter with
        | true =>
          rw [hall] at HLT
          have HF := Lib.hid (show Frm.name l = l.take k by unfold Frm.name; rw [HS.out, hall, if_neg (by intro e; rw [e] at htl; simp at htl; omega), if_pos rfl])
          generalize hts : (l.take k) = ts at *
          clear hall hz hb hst htl hbt hx hts
          go_wp2_with fail
          refine HLT.out.mono ?_
          rintro e w1 ⟨rfl, rfl⟩
          go_wp2_with fail
          go_ret
          exact ⟨by rw [HF.out]; rfl, rfl⟩
        | false =>
          rw [hall] at HLT
          have HF := Lib.hid (show Frm.name l = [] by unfold Frm.name; rw [HS.out, hall, if_neg (by intro e; rw [e] at htl; simp at htl; omega), if_neg (by simp)])
          generalize hts : (l.take k) = ts at *
          clear hall hz hb hst htl hbt hx hts hcb
          go_wp2_with fail
          refine HLT.out.mono ?_
          rintro e w1 ⟨rfl, rfl⟩
          go_wp2_with fail
          go_ret
          exact ⟨by rw [HF.out]; rfl, rfl⟩
end Go.Proofs.YteebehmmfkapgaaDoor
