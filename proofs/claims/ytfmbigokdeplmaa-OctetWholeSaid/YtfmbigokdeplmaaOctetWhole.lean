/- OctetWhole: the law's own walk. -/
import Derived.Test.YtfmbigokdeplmaaOctetUnpack
namespace Go.Proofs.Ytfmbigokdeplmaa
open Go.RowKit Go.Deep
set_option linter.unusedVariables false
set_option maxRecDepth 100000
attribute [local go_sem ↓] Go.wp_at_zero Go.wp_at_succ

set_option maxHeartbeats 1000000 in
theorem octetWhole_walk (w : World) (A : Option Addr) (n c : Nat) (b : List UInt8) (hl : b.length = n) (hc : n ≤ c) (hm : c ≤ maxLen) (hat : BytesAt w w.heap.size A b) (most : Int) (hmo : (Lit.int .i64 most).wf = true) :
    Calls Try.prog 10 #[.slice A n c, .int .i64 most] w fun r w' => r = .returned (.bool true) ∧ Below w.heap.size w w' := by
  subst hl
  have hmost := (wf_i64 hmo).2
  clear hmo
  by_cases hlen : 100000 < b.length
  · have hli : (100000 : Int) < (b.length : Int) := by omega
    clear hlen
    go_enter Try.func10, Try.ntmps10
    go_wp2_with fail
    refine (alive_any _).mono ?_
    rintro r w1 ⟨rfl, hb1⟩
    go_wp2
    go_ret
    exact ⟨rfl, hb1⟩
  · have hli : ¬ ((100000 : Int) < (b.length : Int)) := by omega
    have hback := Oct.unpack_back b most
    generalize hu : Oct.unpack b most = p at *
    have HU := Lib.hid hu
    clear hu
    obtain ⟨l, e⟩ := p
    rcases hback with ⟨he, hnil⟩ | ⟨he, hle, hpk⟩
    · have he' : (e != 0) = true := by rw [bne_iff_ne]; exact he
      obtain rfl : l = [] := hnil
      clear he
      go_enter Try.func10, Try.ntmps10
      go_wp2_with fail
      refine (alive_any _).mono ?_
      rintro r w1 ⟨rfl, hb1⟩
      go_wp2_with fail
      refine (ounpack_any A _ c b most _ rfl (by omega) hc hm hmost (At.mono (At.below hat hb1) hb1.size)).mono ?_
      rw [HU.out]
      rintro r w2 ⟨A2, c2, rfl, _, _, _, hb2⟩
      have b2 := hb1.trans (hb2.mono hb1.size)
      go_wp2
      go_ret
      exact ⟨rfl, b2⟩
    · obtain rfl : e = 0 := he
      have hle' : ((l.length : Int) ≤ most) := hle
      have hpk' : Oct.pack l = b := hpk
      have HP := Lib.hid hpk'
      have hplen : (Oct.pack l).length ≤ 140737488355328 := by rw [hpk']; omega
      have HPL := Lib.hid hplen
      clear hle hpk hpk' hplen
      go_enter Try.func10, Try.ntmps10
      go_wp2_with fail
      refine (alive_any _).mono ?_
      rintro r w1 ⟨rfl, hb1⟩
      go_wp2_with fail
      refine (ounpack_any A _ c b most _ rfl (by omega) hc hm hmost (At.mono (At.below hat hb1) hb1.size)).mono ?_
      rw [HU.out]
      rintro r w2 ⟨A2, c2, rfl, hc2, hm2, hat2, hb2⟩
      have b2 := hb1.trans (hb2.mono hb1.size)
      have hc2' : l.length ≤ c2 := hc2
      go_wp2_with fail
      refine (opack_any A2 _ c2 _ l _ rfl (Nat.le_refl _) HPL.out hat2).mono ?_
      rw [HP.out]
      rintro r w3 ⟨v3, rfl, hv3, hb3⟩
      obtain ⟨A3, c3, rfl, hc3, hm3, hat3, _⟩ := hv3.at_
      have b3 := b2.trans (hb3.mono b2.size)
      go_wp2_with fail
      refine (same_yes _ _ _ _ _ _ b _ _ _ rfl rfl (by omega) hat3 (At.below hat b3)).mono ?_
      rintro r w4 ⟨rfl, hb4⟩
      have b4 := b3.trans (hb4.mono b3.size)
      go_wp2
      go_ret
      exact ⟨rfl, b4⟩
end Go.Proofs.Ytfmbigokdeplmaa
