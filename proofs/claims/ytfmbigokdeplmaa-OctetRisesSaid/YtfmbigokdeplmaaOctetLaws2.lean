/- OctetReads, OctetBack, OctetRises: the laws' own walks. -/
import Derived.Test.YtfmbigokdeplmaaOctetLaws
namespace Go.Proofs.Ytfmbigokdeplmaa
open Go.RowKit Go.Deep
set_option linter.unusedVariables false
set_option maxRecDepth 100000
attribute [local go_sem ↓] Go.wp_at_zero Go.wp_at_succ

set_option maxHeartbeats 1000000 in
theorem octetReads_walk (w : World) (a : Int) (ha : (Lit.int .u64 a).wf = true)
    (A : Option Addr) (m c : Nat) (l : List UInt8) (hl : l.length = m) (hc : m ≤ c) (hm : c ≤ maxLen) (hat : BytesAt w w.heap.size A l) :
    Calls Try.prog 4 #[.int .u64 a, .slice A m c] w fun r w' => r = .returned (.bool true) ∧ Below w.heap.size w w' := by
  obtain ⟨x, rfl, hx⟩ := u64_nat ha
  clear ha
  have hvl := Oct.var_length x
  generalize hp : Oct.var x = p at *
  have HP := Lib.hid hp
  have HV := Lib.hid hvl
  clear hp hvl
  generalize hg : Oct.read l = g at *
  obtain ⟨g, h, e⟩ := g
  have hr := readV_of hg
  have HR := Lib.hid hr
  clear hg hr
  go_enter Try.func4, Try.ntmps4
  go_wp2_with fail
  refine (alive_any _).mono ?_
  rintro r w1 ⟨rfl, hb1⟩
  go_wp2_with fail
  refine (ovar_any x hx _).mono ?_
  rw [HP.out]
  rintro r w2 ⟨v2, rfl, hv2, hb2⟩
  obtain ⟨A2, c2, rfl, h2, hm2, hat2, _⟩ := hv2.at_
  have b2 := hb1.trans (hb2.mono hb1.size)
  go_wp2_with fail
  refine (oread_any A m c _ l _ hl hc hm (At.below hat b2)).mono ?_
  rw [HR.out]
  rintro r w3 ⟨rfl, rfl⟩
  go_wp2_with fail
  refine (rread_any A m c _ l _ hl hc hm b2.size (At.below hat b2)).mono ?_
  rw [HR.out]
  rintro r w4 ⟨rfl, hb4⟩
  have b4 := b2.trans (hb4.mono b2.size)
  have hat24 := At.below hat2 hb4
  go_wp2_with fail
  refine (rvar_any x hx _).mono ?_
  rw [HP.out]
  rintro r w5 ⟨v5, rfl, hv5, hb5⟩
  obtain ⟨A5, c5, rfl, h5, hm5, hat5, _⟩ := hv5.at_
  have b5 := b4.trans (hb5.mono b4.size)
  have hat25 := At.below hat24 (hb5.mono hb4.size)
  unfold maxLen at hm2 hm5
  go_wp2_with fail
  refine (same_yes _ _ _ _ _ _ p _ _ _ rfl rfl (by omega) hat25 hat5).mono ?_
  rintro r w6 ⟨rfl, hb6⟩
  have b6 := b5.trans (hb6.mono b5.size)
  go_wp2_with fail
  refine (osize_any x _).mono ?_
  rw [← HV.out]
  rintro e w' ⟨rfl, rfl⟩
  go_wp2
  go_ret
  exact ⟨rfl, b6⟩

theorem size_rises (x y : Nat) (h : x ≤ y) : Oct.size x ≤ Oct.size y := by
  unfold Oct.size; (repeat' split) <;> omega
theorem octetRises_walk (w : World) (a : Int) (ha : (Lit.int .u64 a).wf = true) (b : Int) (hb : (Lit.int .u64 b).wf = true) :
    Calls Try.prog 7 #[.int .u64 a, .int .u64 b] w fun r w' => r = .returned (.bool true) ∧ Below w.heap.size w w' := by
  obtain ⟨x, rfl, hx⟩ := u64_nat ha
  obtain ⟨y, rfl, hy⟩ := u64_nat hb
  clear ha hb hx hy
  rcases Nat.lt_or_ge y x with h | h
  · have hi : ((y : Int) < (x : Int)) := by omega
    have hs := size_rises y x (by omega)
    have h1 := Oct.size_pos y
    have h2 := Oct.size_pos x
    have k1 : (1 : Int) ≤ (Oct.size y : Int) := by omega
    have k2 : (Oct.size y : Int) ≤ (Oct.size x : Int) := by omega
    have k3 : (Oct.size x : Int) ≤ 9 := by omega
    clear hs h1 h2 h
    go_enter Try.func7, Try.ntmps7
    go_wp2_with fail
    refine (alive_any _).mono ?_
    rintro r w1 ⟨rfl, hb1⟩
    go_wp2_with fail
    refine (osize_any y _).mono ?_
    rintro e w' ⟨rfl, rfl⟩
    go_wp2_with fail
    refine (osize_any y _).mono ?_
    rintro e w' ⟨rfl, rfl⟩
    go_wp2_with fail
    refine (osize_any x _).mono ?_
    rintro e w' ⟨rfl, rfl⟩
    go_wp2_with fail
    refine (osize_any x _).mono ?_
    rintro e w' ⟨rfl, rfl⟩
    go_wp2
    go_ret
    exact ⟨rfl, hb1⟩
  · have hi : ¬ ((y : Int) < (x : Int)) := by omega
    have hs := size_rises x y h
    have h1 := Oct.size_pos y
    have h2 := Oct.size_pos x
    have k1 : (1 : Int) ≤ (Oct.size x : Int) := by omega
    have k2 : (Oct.size x : Int) ≤ (Oct.size y : Int) := by omega
    have k3 : (Oct.size y : Int) ≤ 9 := by omega
    clear hs h1 h2 h
    go_enter Try.func7, Try.ntmps7
    go_wp2_with fail
    refine (alive_any _).mono ?_
    rintro r w1 ⟨rfl, hb1⟩
    go_wp2_with fail
    refine (osize_any x _).mono ?_
    rintro e w' ⟨rfl, rfl⟩
    go_wp2_with fail
    refine (osize_any x _).mono ?_
    rintro e w' ⟨rfl, rfl⟩
    go_wp2_with fail
    refine (osize_any y _).mono ?_
    rintro e w' ⟨rfl, rfl⟩
    go_wp2_with fail
    refine (osize_any y _).mono ?_
    rintro e w' ⟨rfl, rfl⟩
    go_wp2
    go_ret
    exact ⟨rfl, hb1⟩
end Go.Proofs.Ytfmbigokdeplmaa
