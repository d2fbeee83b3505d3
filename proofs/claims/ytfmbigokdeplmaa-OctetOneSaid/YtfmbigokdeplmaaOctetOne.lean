/- OctetOne: the law's own walk. -/
import Derived.Test.YtfmbigokdeplmaaOctetLaws
import Derived.Test.YtfmbigokdeplmaaOctetPlain
import Derived.Deep.RegionHeld3
namespace Go.Proofs.Ytfmbigokdeplmaa
open Go.RowKit Go.Deep
set_option linter.unusedVariables false
set_option maxRecDepth 100000
attribute [local go_sem ↓] Go.wp_at_zero Go.wp_at_succ

/-- what stays over the law's last statement -/
structure KB (B : Nat) (A : Option Addr) (t : List UInt8) (w : World) : Prop where
  at_ : BytesAt w B A t
  size : B ≤ w.heap.size
theorem KB.keep {B : Nat} {A : Option Addr} {t : List UInt8} {w w' : World} (h : KB B A t w) (hb : Below w.heap.size w w') : KB B A t w' := ⟨At.below h.at_ (hb.mono h.size), Nat.le_trans h.size hb.size⟩
theorem KB.drew {B : Nat} {A : Option Addr} {t : List UInt8} {w : World} (h : KB B A t w) : KB B A t w.drew := ⟨At.below h.at_ (Below.refl _ _).drew, h.size⟩
set_option maxHeartbeats 2000000 in
theorem octetOne_walk (w : World) (a : Int) (ha : (Lit.int .u64 a).wf = true) (A : Option Addr) (n c : Nat) (b : List UInt8) (hl : b.length = n) (hc : n ≤ c) (hm : c ≤ maxLen) (hat : BytesAt w w.heap.size A b) :
    Calls Try.prog 6 #[.int .u64 a, .slice A n c] w fun r w' => r = .returned (.bool true) ∧ Below w.heap.size w w' := by
  subst hl
  obtain ⟨x, rfl, hx⟩ := u64_nat ha
  clear ha
  by_cases hlen : 100000 < b.length
  · have hli : (100000 : Int) < (b.length : Int) := by omega
    clear hlen
    go_enter Try.func6, Try.ntmps6
    go_wp2_with fail
    refine (alive_any _).mono ?_
    rintro r w1 ⟨rfl, hb1⟩
    go_wp2
    go_ret
    exact ⟨rfl, hb1⟩
  · have hli : ¬ ((100000 : Int) < (b.length : Int)) := by omega
    obtain ⟨i0, hi, hz0, hz1, hz2⟩ := info_parts byte_info
    have Hi := Lib.hid hi
    have Hz := Lib.hid hz0
    have Hz1 := Lib.hid hz1
    have Hz2 := Lib.hid hz2
    clear hi hz0 hz1 hz2
    have hvl : (Oct.var x).length ≤ 9 := by rw [Oct.var_length]; exact (Oct.size_pos x).2
    have HV := Lib.hid (Oct.var_length x)
    have hr0 := readV_of (Oct.read_var x hx b)
    rw [← Oct.var_length] at hr0
    have HR := Lib.hid hr0
    clear hr0
    have HC := Lib.hid (Oct.read_cut x)
    have HB := Lib.hid (Oct.read_back b)
    generalize hp : Oct.var x = v at *
    have HP := Lib.hid hp
    clear hp
    go_enter Try.func6, Try.ntmps6
    go_wp2_with fail
    refine (alive_any _).mono ?_
    rintro r w1 ⟨rfl, hb1⟩
    go_wp2_with fail
    refine (ovar_any x hx _).mono ?_
    rw [HP.out]
    rintro r w3 ⟨v2, rfl, hv2, hb2⟩
    obtain ⟨A2, c2, rfl, hc2, hm2, hat2, _⟩ := hv2.at_
    have b3 := hb1.trans (hb2.mono hb1.size)
    have b3s := b3.size
    have hown : OwnB (w3.alloc (.cells #[] 5)) w3.heap.size (.slice (some ⟨w3.heap.size, 0, none⟩) 0 0) [] := Bk.own (bs := []) (Bk.new _ _ _) (Nat.le_refl _) (by simp [maxLen])
    have hsrc := BytesAt.src (At.below hat2 (Joins.below_alloc1 w3 (.cells #[] 5)))
    have hsrc2 := BytesAt.src (At.below hat b3)
    clear hv2
    go_wp2_with (first
      | (at_builtin; refine wpList_app _ rfl (.tmp 24) (.tmp 25) _ rfl w3.heap.size 5 i0 _ 1 1 Try.underlying23 Hi.out Hz.out Hz1.out Hz2.out rfl (by decide) (.slice (some ⟨w3.heap.size, 0, none⟩) 0 0) 0 [] rfl hown A2 v.length c2 (v.map byteV) rfl (by rw [List.length_map, Nat.mul_one]) hsrc (oneCell_bytes _) (by unfold maxLen; omega) (by omega) (by simp) ?_; intro v4 w4 hrow4 hg4 hat4; have b34 : Below w3.heap.size w3 w4 := (Joins.below_alloc1 _ _).trans (hg4.below_of_own hown (Nat.le_refl _) (by simp)); have hsrc3 := BytesAt.src (At.below hat (b3.trans (b34.mono b3.size))); have b34s := b34.size)
      | (at_builtin; refine wpList_app _ rfl (.tmp 26) (.tmp 27) _ rfl w3.heap.size 5 i0 _ 1 1 Try.underlying23 Hi.out Hz.out Hz1.out Hz2.out rfl (by decide) v4 (0 + v.length) _ rfl hrow4 A b.length c (b.map byteV) rfl (by rw [List.length_map, Nat.mul_one]) hsrc3 (oneCell_bytes _) (by unfold maxLen; omega) (by omega) (by omega) ?_; intro v5 w5 hrow5 hg5 hat5))
    have hrow5' : OwnB w5 w3.heap.size v5 (v ++ b) := by
      unfold OwnB
      rw [List.length_append, List.map_append]
      simpa using hrow5
    have b35 : Below w3.heap.size w3 w5 := b34.trans (hg5.below_of_own hrow4 (Nat.le_refl _) b34s)
    obtain ⟨A5, c5, rfl, hc5, hm5, hat5', _⟩ := hrow5'.at_
    have b5 := b3.trans (b35.mono b3.size)
    have hat25 := At.mono (At.below hat2 b35) b35.size
    clear hown hsrc hsrc2 hsrc3 hrow4 hg4 hat4 hrow5 hg5 hat5 hrow5' b34 b34s b35 hat2
    refine (oread_any A5 _ c5 _ (v ++ b) _ rfl hc5 hm5 hat5').mono ?_
    rw [HR.out]
    rintro r w6 ⟨rfl, rfl⟩
    have hatb := At.below hat b5
    have b5s := b5.size
    clear hat5' b3 hb1 hb2
    go_wp2_with fail
    go_loopw [9, 10, 11, 12, 48] (fun _ _ _ _ i wr => ∃ k : Nat, k ≤ v.length ∧ i = .int .i64 k ∧ wr = w5) (fun _ _ _ _ i _ => v.length - (intOf i).toNat)
    case atStart => exact ⟨0, Nat.zero_le _, rfl, rfl⟩
    case round =>
      obtain ⟨k, hk', rfl, rfl⟩ := hrel
      by_cases hk : k < v.length
      · have hcut := readV_of (HC.out k hk)
        have HCU := Lib.hid hcut
        have hkl : (v.take k).length = k := by rw [List.length_take]; omega
        have HKL := Lib.hid hkl
        have i0' : (0 : Int) ≤ (k : Int) := by omega
        have i1 : (k : Int) ≤ (c2 : Int) := by omega
        clear hcut hkl
        go_wp2_with fail
        refine (oread_any A2 k c2 _ (v.take k) _ HKL.out (by omega) hm2 (BytesAt.take hat25 k)).mono ?_
        rw [HCU.out]
        rintro r w6 ⟨rfl, rfl⟩
        go_wp2_with fail
        go_roundw
        case rel => exact ⟨k + 1, hk, by go_num, trivial⟩
        case measure => simp [intOf]; omega
      · rcases HB.out with ⟨h1, h2, h3, h4⟩ | ⟨h1, h2, h3, h4, h5⟩
        · have hv : readV b = .tuple #[.int .u64 0, .int .i64 0, .int .i64 (Oct.read b).2.2] := by unfold readV; rw [h2, h3]; rfl
          have hne : ((Oct.read b).2.2 != 0) = true := by rw [bne_iff_ne]; exact h1
          have HVV := Lib.hid hv
          clear hv h1 h2 h3 h4
          generalize (Oct.read b).2.2 = e at *
          go_wp2_with fail
          refine (oread_any A _ c _ b _ rfl hc hm hatb).mono ?_
          rw [HVV.out]
          rintro r w6 ⟨rfl, rfl⟩
          go_wp2
          go_ret
          exact ⟨rfl, b5⟩
        · have hv := readV_of (show Oct.read b = ((Oct.read b).1, (Oct.read b).2.1, (0 : Int)) by rw [← h1])
          have HVV := Lib.hid hv
          have H5 := Lib.hid h5
          have htl : (b.take (Oct.read b).2.1).length = (Oct.read b).2.1 := by rw [List.length_take]; omega
          have HTL := Lib.hid htl
          have hz64 : U64 (Oct.read b).1 := h2
          have htk := BytesAt.take hatb (Oct.read b).2.1
          have ht9 : (b.take (Oct.read b).2.1).length ≤ 100000 := by rw [List.length_take]; omega
          clear hv h1 h2 h3 h5 htl
          generalize b.take (Oct.read b).2.1 = t at *
          generalize (Oct.read b).1 = z at *
          generalize (Oct.read b).2.1 = m1 at *
          have m1a : (0 : Int) ≤ (m1 : Int) := by omega
          have m1b : (m1 : Int) ≤ (b.length : Int) := by omega
          have m1c : (m1 : Int) ≤ (c : Int) := by omega
          go_wp2_with fail
          refine (oread_any A _ c _ b _ rfl hc hm hatb).mono ?_
          rw [HVV.out]
          rintro r w6 ⟨rfl, rfl⟩
          go_wp2_with fail
          clear hat25 hatb HC HR HV HP HB HVV Hi Hz Hz1 Hz2 hat hlen hk hk' hc5 hm5 hc2 hm2 hvl m1a
          have hm1c : m1 ≤ c := by omega
          have hS0 : KB w.heap.size A t wr := ⟨htk, b5s⟩
          go_region_held3 (fun w' => KB w.heap.size A t w')
            (first | exact hS0.drew | assumption | exact KB.keep (by assumption) (by assumption))
            (first
              | (go_at_call 17; refine (ovar_any z hz64 _).mono ?_; rw [H5.out]; rintro e w7 ⟨v7, rfl, hv7, hb7⟩; obtain ⟨A7, c7, rfl, _, hm7, hat7, _⟩ := hv7.at_)
              | (go_at_call 16; refine (same_yes A7 A _ _ c7 c t w7 _ _ rfl HTL.out (by omega) hat7 (KB.at_ (by assumption))).mono ?_; rintro e w8 ⟨rfl, hb8⟩))
          have b7 : Below w.heap.size w w7 := b5.drew.trans (hb7.mono b5s)
          have b8 := b7.trans (hb8.mono b7.size)
          go_wp2_with fail
          go_ret
          exact ⟨rfl, b8⟩
end Go.Proofs.Ytfmbigokdeplmaa
