/- A frame that is cut off anywhere is too short. -/
import Derived.Test.YtaiblalebeldgaaDoorFrameLaws
namespace Go.Proofs.YtaiblalebeldgaaDoor
open Go.RowKit Go.Deep
set_option linter.unusedVariables false
set_option linter.unusedSimpArgs false
set_option maxRecDepth 100000
attribute [local go_sem ↓] Go.wp_at_zero Go.wp_at_succ
theorem frameShort_walk (w : World) (hlay : Laid w) (s : ByteArray) (hs : s.size ≤ 9223372036854775807) (A : Option Addr) (n c : Nat) (body : List UInt8) (hl : body.length = n) (hc : n ≤ c) (hm : c ≤ maxLen) (hat : BytesAt w w.heap.size A body) (z : Int) (hz : (Lit.int .u16 z).wf = true) :
    Calls Tryd.prog 7 #[.string s, .slice A n c, .int .u16 z] w fun e w' => e = .returned (.bool true) ∧ Below w.heap.size w w' := by
  subst hl
  have hz := wf_u16 hz
  cases hn : Frm.named s.data.toList with
  | false =>
    have HP := fun W => Lib.hid (put_unnamed s A body.length c W hs hn)
    have HA := Lib.hid (frame_alive w hlay)
    clear hn hat hlay
    go_enter Tryd.func7, Tryd.ntmps7
    go_wp2_with fail
    refine HA.out.mono ?_
    rintro e w1 ⟨rfl, hb1⟩
    have HB1 := Lib.hid hb1
    clear hb1
    go_wp2_with fail
    refine (HP _).out.mono ?_
    rintro e w2 ⟨rfl, hb2⟩
    have HB2 := Lib.hid (HB1.out.trans (hb2.mono HB1.out.size))
    clear hb2
    go_wp2_with fail
    go_ret
    exact ⟨rfl, HB2.out⟩
  | true =>
    by_cases hb : body.length ≤ 2048
    · have HP := fun W h1 h2 h3 => Lib.hid (put_yes s A c w.heap.size body W h1 hs hn hb h2 h3 hc hm)
      have HA := Lib.hid (frame_alive w hlay)
      have HL := Lib.hid hlay
      have HAT := Lib.hid hat
      have hpl := Frm.put_len hn body
      have HCUT := Lib.hid (fun k hk => Frm.get_cut (body := body) hn hb k hk)
      obtain ⟨p, hp⟩ : ∃ p, p = Frm.put s.data.toList body := ⟨_, rfl⟩
      rw [← hp] at hpl HCUT
      have HPE := Lib.hid hp
      have hp24 : 24 ≤ p.length ∧ p.length ≤ 2072 := by omega
      obtain ⟨hp1, hp2⟩ := hp24
      clear hn hat hlay hp hpl
      go_enter Tryd.func7, Tryd.ntmps7
      go_wp2_with fail
      refine HA.out.mono ?_
      rintro e w1 ⟨rfl, hb1⟩
      have HB1 := Lib.hid hb1
      clear hb1
      go_wp2_with fail
      refine (HP _ (HL.out.below HB1.out) (HAT.out.below HB1.out) HB1.out.size).out.mono ?_
      rintro e w2 ⟨v, rfl, ho2, hb2⟩
      rw [← HPE.out] at ho2
      have HB2 := Lib.hid (HB1.out.trans (hb2.mono HB1.out.size))
      obtain ⟨A2, c2, rfl, hc2, hm2, hat2, _⟩ := ho2.at_
      have HAT2 := Lib.hid hat2
      have HM2 := Lib.hid hm2
      obtain ⟨k, hk⟩ : ∃ k : Nat, z % (p.length : Int) = (k : Int) := ⟨(z % (p.length : Int)).toNat, by rw [Int.toNat_of_nonneg (Int.emod_nonneg _ (by omega))]⟩
      have hkl : k < p.length := by have := Int.emod_lt_of_pos z (show (0 : Int) < (p.length : Int) by omega); omega
      have HG := Lib.hid (get_any A2 c2 _ k (p.take k) w2 (HL.out.below HB2.out) (by rw [List.length_take]; omega) (by omega) hm2 (by omega) (BytesAt.take hat2 k) (Nat.le_refl _))
      rw [HCUT.out k hkl] at HG
      have hkc : k ≤ c2 := by omega
      clear hb2 ho2 hat2 hm2 HP HA
      go_wp2_with fail
      refine HG.out.mono ?_
      rintro e w3 ⟨v3, rfl, ho3, hb3⟩
      obtain ⟨A3, c3, rfl, _, _, _, _⟩ := own_form ho3
      have HB3 := Lib.hid (HB2.out.trans (hb3.mono HB2.out.size))
      clear ho3 hb3
      go_wp2_with fail
      go_ret
      exact ⟨rfl, HB3.out⟩
    · have HP := fun W => Lib.hid (put_long s A body.length c W hs hn (by omega))
      have HA := Lib.hid (frame_alive w hlay)
      clear hn hat hlay
      go_enter Tryd.func7, Tryd.ntmps7
      go_wp2_with fail
      refine HA.out.mono ?_
      rintro e w1 ⟨rfl, hb1⟩
      have HB1 := Lib.hid hb1
      clear hb1
      go_wp2_with fail
      refine (HP _).out.mono ?_
      rintro e w2 ⟨rfl, hb2⟩
      have HB2 := Lib.hid (HB1.out.trans (hb2.mono HB1.out.size))
      clear hb2
      go_wp2_with fail
      go_ret
      exact ⟨rfl, HB2.out⟩
end Go.Proofs.YtaiblalebeldgaaDoor
