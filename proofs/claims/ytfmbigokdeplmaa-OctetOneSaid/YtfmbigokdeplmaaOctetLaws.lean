/- OctetPuts: the law's own walk. -/
import Derived.Test.YtfmbigokdeplmaaOctetAny
namespace Go.Proofs.Ytfmbigokdeplmaa
open Go.RowKit Go.Deep
set_option linter.unusedVariables false
set_option maxRecDepth 100000
attribute [local go_sem ↓] Go.wp_at_zero Go.wp_at_succ

theorem u64_nat {a : Int} (h : (Lit.int .u64 a).wf = true) : ∃ x : Nat, a = (x : Int) ∧ U64 x := by
  obtain ⟨h0, h1⟩ := wf_u64 h
  exact ⟨a.toNat, by omega, by unfold U64; omega⟩
set_option maxHeartbeats 1000000 in
theorem octetPuts_walk (w : World) (a : Int) (ha : (Lit.int .u64 a).wf = true) (n : Int) (hn : (Lit.int .i64 n).wf = true)
    (A : Option Addr) (m c : Nat) (l : List UInt8) (hl : l.length = m) (hc : m ≤ c) (hm : c ≤ maxLen) (hat : BytesAt w w.heap.size A l) :
    Calls Try.prog 3 #[.int .u64 a, .int .i64 n, .slice A m c] w fun r w' => r = .returned (.bool true) ∧ Below w.heap.size w w' := by
  obtain ⟨x, rfl, hx⟩ := u64_nat ha
  clear ha hn
  generalize hp : Oct.put x n = p at *
  have HP := Lib.hid hp
  clear hp
  generalize hg : Oct.get l = g at *
  have HG := Lib.hid hg
  clear hg
  obtain ⟨p, e⟩ := p
  obtain ⟨g, h⟩ := g
  go_enter Try.func3, Try.ntmps3
  go_wp2_with fail
  refine (alive_any _).mono ?_
  rintro r w1 ⟨rfl, hb1⟩
  go_wp2_with fail
  refine (oput_any x n hx _).mono ?_
  rw [HP.out]
  rintro r w2 ⟨A2, c2, rfl, h2, hm2, hat2, hb2⟩
  have b2 := hb1.trans (hb2.mono hb1.size)
  go_wp2_with fail
  refine (rput_any x n hx _).mono ?_
  rw [HP.out]
  rintro r w3 ⟨A3, c3, rfl, h3, hm3, hat3, hb3⟩
  have b3 := b2.trans (hb3.mono b2.size)
  have hat23 := At.below hat2 hb3
  go_wp2_with fail
  refine (oget_any A m c _ l _ hl (At.below hat b3)).mono ?_
  rw [HG.out]
  rintro r w4 ⟨rfl, rfl⟩
  go_wp2_with fail
  refine (rget_any A m c _ l _ hl (At.below hat b3)).mono ?_
  rw [HG.out]
  rintro r w4 ⟨rfl, rfl⟩
  unfold maxLen at hm2 hm3
  go_wp2_with fail
  refine (same_yes _ _ _ _ _ _ p _ _ _ rfl rfl (by omega) hat23 hat3).mono ?_
  rintro r w5 ⟨rfl, hb5⟩
  have b5 := b3.trans (hb5.mono b3.size)
  go_wp2
  go_ret
  exact ⟨rfl, b5⟩
end Go.Proofs.Ytfmbigokdeplmaa
