/- OctetParts: the law's own walk. -/
import Derived.Test.YtfmbigokdeplmaaOctetUnpackRef
import Derived.Test.YtfmbigokdeplmaaOctetPackRef
import Derived.Test.YtfmbigokdeplmaaOctetAll
namespace Go.Proofs.Ytfmbigokdeplmaa
open Go.RowKit Go.Deep
set_option linter.unusedVariables false
set_option maxRecDepth 100000
attribute [local go_sem ↓] Go.wp_at_zero Go.wp_at_succ

set_option maxHeartbeats 1000000 in
theorem octetParts_walk (w : World) (A : Option Addr) (n c : Nat) (ls : List (List UInt8)) (hl : ls.length = n) (hc : n ≤ c) (hm : c ≤ maxLen) (hat : PartsAt w w.heap.size A ls)
    (A' : Option Addr) (n' c' : Nat) (b : List UInt8) (hl' : b.length = n') (hc' : n' ≤ c') (hm' : c' ≤ maxLen) (hat' : BytesAt w w.heap.size A' b) (most : Int) (hmo : (Lit.int .i64 most).wf = true) :
    Calls Try.prog 8 #[.slice A n c, .slice A' n' c', .int .i64 most] w fun r w' => r = .returned (.bool true) ∧ Below w.heap.size w w' := by
  subst hl; subst hl'
  have hmost := (wf_i64 hmo).2
  clear hmo
  by_cases hlen : 100000 < b.length
  · have hli : (100000 : Int) < (b.length : Int) := by omega
    clear hlen
    go_enter Try.func8, Try.ntmps8
    go_wp2_with fail
    refine (alive_any _).mono ?_
    rintro r w1 ⟨rfl, hb1⟩
    go_wp2_with fail
    refine (heavy_any A _ c _ ls _ rfl (hat.below hb1)).mono ?_
    rintro r w2 (⟨rfl, rfl, h1000, htot⟩ | ⟨rfl, rfl⟩)
    · go_wp2
      go_ret
      exact ⟨rfl, hb1⟩
    · go_wp2
      go_ret
      exact ⟨rfl, hb1⟩
  · have hli : ¬ ((100000 : Int) < (b.length : Int)) := by omega
    generalize hu : Oct.unpack b most = p at *
    have HU := Lib.hid hu
    clear hu
    obtain ⟨l, e⟩ := p
    go_enter Try.func8, Try.ntmps8
    go_wp2_with fail
    refine (alive_any _).mono ?_
    rintro r w1 ⟨rfl, hb1⟩
    go_wp2_with fail
    refine (heavy_any A _ c _ ls _ rfl (hat.below hb1)).mono ?_
    rintro r w2 (⟨rfl, rfl, h1000, htot⟩ | ⟨rfl, rfl⟩)
    · have hplen : (Oct.pack ls).length ≤ 140737488355328 := by have := pack_tot ls; omega
      have HPL := Lib.hid hplen
      clear hplen htot h1000
      go_wp2_with fail
      refine (ounpack_any A' _ c' b most _ rfl (by omega) hc' hm' hmost (At.mono (At.below hat' hb1) hb1.size)).mono ?_
      rw [HU.out]
      rintro r w2 ⟨A2, c2, rfl, hc2, hm2, hat2, hb2⟩
      have b2 := hb1.trans (hb2.mono hb1.size)
      have hc2' : l.length ≤ c2 := hc2
      have hat2' : PartsAt w2 w2.heap.size A2 l := hat2
      clear hc2 hat2
      go_wp2_with fail
      refine (runpack_any A' _ c' b most _ rfl (by omega) hc' hm' hmost (At.mono (At.below hat' b2) b2.size)).mono ?_
      rw [HU.out]
      rintro r w3 ⟨A3, c3, rfl, hc3, hm3, hat3, hb3⟩
      have b3 := b2.trans (hb3.mono b2.size)
      have hc3' : l.length ≤ c3 := hc3
      have hat3' : PartsAt w3 w3.heap.size A3 l := hat3
      have hat23 := PartsAt.mono (hat2'.below hb3) hb3.size
      clear hc3 hat3 hat2'
      go_wp2_with fail
      refine (opack_any A _ c _ ls _ rfl b3.size HPL.out (hat.below b3)).mono ?_
      rintro r w4 ⟨v4, rfl, hv4, hb4⟩
      obtain ⟨A4, c4, rfl, hc4, hm4, hat4, _⟩ := hv4.at_
      have b4 := b3.trans (hb4.mono b3.size)
      have hat24 := PartsAt.mono (hat23.below hb4) hb4.size
      have hat34 := PartsAt.mono (hat3'.below hb4) hb4.size
      clear hat23 hat3' hv4
      go_wp2_with fail
      refine (rpack_any A _ c _ ls _ rfl b4.size HPL.out (hat.below b4)).mono ?_
      rintro r w5 ⟨v5, rfl, hv5, hb5⟩
      obtain ⟨A5, c5, rfl, hc5, hm5, hat5, _⟩ := hv5.at_
      have b5 := b4.trans (hb5.mono b4.size)
      have hat25 := PartsAt.mono (hat24.below hb5) hb5.size
      have hat35 := PartsAt.mono (hat34.below hb5) hb5.size
      have hat45 := At.mono (At.below hat4 hb5) hb5.size
      clear hat24 hat34 hat4 hv5
      unfold maxLen at hm4 hm2
      generalize Oct.pack ls = pk at *
      go_wp2_with fail
      refine (same_yes _ _ _ _ _ _ pk _ _ _ rfl rfl (by omega) hat45 hat5).mono ?_
      rintro r w6 ⟨rfl, hb6⟩
      have b6 := b5.trans (hb6.mono b5.size)
      go_wp2_with fail
      refine (sameAll_yes A2 A3 _ _ c2 c3 _ _ l _ rfl rfl (by omega) hb6.size hb6.size (hat25.below hb6) (hat35.below hb6)).mono ?_
      rintro r w7 ⟨rfl, hb7⟩
      have b7 := b6.trans (hb7.mono b6.size)
      go_wp2
      go_ret
      exact ⟨rfl, b7⟩
    · go_wp2
      go_ret
      exact ⟨rfl, hb1⟩
end Go.Proofs.Ytfmbigokdeplmaa
