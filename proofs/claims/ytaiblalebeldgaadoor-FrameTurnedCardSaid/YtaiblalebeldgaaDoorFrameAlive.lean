/- Package frame: the fixed trials. -/
import Derived.Test.YtaiblalebeldgaaDoorFrameGet
namespace Go.Proofs.YtaiblalebeldgaaDoor
open Go.RowKit Go.Deep
set_option linter.unusedVariables false
set_option linter.unusedSimpArgs false
set_option maxRecDepth 100000
attribute [local go_sem ↓] Go.wp_at_zero Go.wp_at_succ

def verackFrame : List UInt8 := [0xc4, 0xf0, 0x7a, 0x1e, 118, 101, 114, 97, 99, 107, 0, 0, 0, 0, 0, 0, 0, 0, 0, 0, 0x5d, 0xf6, 0xe0, 0xe2]
theorem verack_put : Frm.put [118, 101, 114, 97, 99, 107] [] = verackFrame := by decide +kernel
theorem verack_get : Frm.get verackFrame = ([118, 101, 114, 97, 99, 107], [], 24, 0) := by decide +kernel
theorem frame_alive (w : World) (hl : Laid w) : Calls Tryd.prog 11 #[] w fun r w' => r = .returned (.bool true) ∧ Below w.heap.size w w' := by
  have HL := Lib.hid hl
  have HP := Lib.hid (put_yes ⟨#[118, 101, 114, 97, 99, 107]⟩ none 0 0 [] w hl (by decide) (by decide) (by simp) (fun i hi => by simp at hi) (Nat.zero_le _) (Nat.le_refl _) (by simp [maxLen]))
  rw [show Frm.put (⟨#[118, 101, 114, 97, 99, 107]⟩ : ByteArray).data.toList [] = verackFrame from verack_put] at HP
  clear hl
  go_enter Tryd.func11, Tryd.ntmps11
  go_wp2_with fail
  refine HP.out.mono ?_
  rintro e w1 ⟨v1, rfl, ho1, hb1⟩
  obtain ⟨A1, c1, rfl, hc1, hm1, hat1, _⟩ := ho1.at_
  go_wp2_with fail
  have hz1 := hb1.size
  have hbA := Joins.below_alloc1 w1 (.cells #[.int .u8 196, .int .u8 240, .int .u8 122, .int .u8 30, .int .u8 118, .int .u8 101, .int .u8 114, .int .u8 97, .int .u8 99, .int .u8 107, .int .u8 0, .int .u8 0, .int .u8 0, .int .u8 0, .int .u8 0, .int .u8 0, .int .u8 0, .int .u8 0, .int .u8 0, .int .u8 0, .int .u8 93, .int .u8 246, .int .u8 224, .int .u8 226] 5)
  have hatW := sha_bytes_new w1 5 #[.int .u8 196, .int .u8 240, .int .u8 122, .int .u8 30, .int .u8 118, .int .u8 101, .int .u8 114, .int .u8 97, .int .u8 99, .int .u8 107, .int .u8 0, .int .u8 0, .int .u8 0, .int .u8 0, .int .u8 0, .int .u8 0, .int .u8 0, .int .u8 0, .int .u8 0, .int .u8 0, .int .u8 93, .int .u8 246, .int .u8 224, .int .u8 226] verackFrame w1.heap.size (w1.heap.size + 1) rfl rfl (by omega)
  have HAT1 := Lib.hid (At.below hat1 hbA)
  have HG := Lib.hid (get_any (some ⟨w1.heap.size, 0, none⟩) 24 _ 24 verackFrame _ (HL.out.below (hb1.trans (hbA.mono hz1))) rfl (Nat.le_refl _) (by simp [maxLen]) (by omega) hatW (by simp))
  rw [verack_get] at HG
  have HB1 := Lib.hid (hb1.trans (hbA.mono hz1))
  have HW := Lib.hid hatW
  clear hbA hatW hat1 ho1 hb1 hc1 hm1
  refine HG.out.mono ?_
  rintro e w2 ⟨v2, rfl, ho2, hb2⟩
  obtain ⟨A2, c2, rfl, _, _, _, _⟩ := own_form ho2
  have hz2 := hb2.size
  have HB2 := Lib.hid (HB1.out.trans (hb2.mono HB1.out.size))
  have HS := Lib.hid (same_yes A1 (some ⟨w1.heap.size, 0, none⟩) 24 24 c1 24 verackFrame w2 _ _ rfl rfl (by omega) (At.below HAT1.out (hb2.mono (by simp))) (At.below HW.out (hb2.mono (by simp))))
  clear hb2 ho2 HG hz2
  go_wp2_with fail
  refine HS.out.mono ?_
  rintro e w3 ⟨rfl, hb3⟩
  have HB3 := Lib.hid (HB2.out.trans (hb3.mono HB2.out.size))
  clear hb3 HS
  go_wp2_with fail
  go_ret
  exact ⟨rfl, HB3.out⟩
end Go.Proofs.YtaiblalebeldgaaDoor
