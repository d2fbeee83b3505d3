/- The document's numbers as short as may be. -/
import Derived.Test.YtpacgblddeoheaaDoorRef02
import Derived.Test.YtpacgblddeoheaaDoorOctP
namespace Go.Proofs.YtpacgblddeoheaaDoor
open Go.RowKit Go.Deep
set_option linter.unusedVariables false
set_option linter.unusedSimpArgs false
set_option maxRecDepth 100000
attribute [local go_sem ↓] Go.wp_at_zero Go.wp_at_succ

set_option maxHeartbeats 400000 in
theorem wide_any (c : Nat) (hx : c < 256) (w : World) : Calls Tryd.prog 81 #[.int .u8 (c : Int)] w fun r w' => r = .returned (.int .i64 (Oct.wide c : Nat)) ∧ w = w' := by
  go_enter Tryd.func81, Tryd.ntmps81
  go_wp2
  all_goals
    go_ret
    refine ⟨congrArg (fun x => Ending.returned (.int .i64 x)) ?_, rfl⟩
    try simp only [beq_iff_eq, beq_eq_false_iff_ne] at *
    unfold Oct.wide
    (repeat' split) <;> first | rfl | omega
theorem own_one (w : World) (c : UInt8) : OwnB (w.alloc (.cells #[byteV c] 5)) w.heap.size (.slice (some ⟨w.heap.size, 0, none⟩) 1 1) [c] :=
  (Bk.new w 5 (bytesArr [c])).own (Nat.le_refl _) (by simp [maxLen])
theorem var_one (w w1 : World) (f : UInt8) (hb : Below w.heap.size w w1) {cs : Array Value} (h : cs = bytesArr [f]) :
    (w1.alloc (.cells cs 5)).ownsRow w.heap.size 5 1 (.slice (some ⟨w1.heap.size, 0, none⟩) 1 1) 1 [byteV f] := by
  subst h; exact own_mono (own_one w1 f) hb.size
set_option maxHeartbeats 1000000 in
theorem rvar_any (x : Nat) (hx : U64 x) (w : World) :
    Calls Tryd.prog 82 #[.int .u64 (x : Int)] w fun r w' => ∃ v, r = .returned v ∧ OwnB w' w.heap.size v (Oct.var x) ∧ Below w.heap.size w w' := by
  rcases Nat.lt_or_ge x 253 with h | h
  · have ev : Oct.var x = [UInt8.ofNat x] := by unfold Oct.var; rw [if_pos h]
    rw [ev]
    clear ev
    go_enter Tryd.func82, Tryd.ntmps82
    go_wp2
    go_ret
    refine ⟨_, rfl, ?_, (Below.refl _ _).alloc (Nat.le_refl _) _⟩
    have hown := own_one w (UInt8.ofNat x)
    rw [← byteV_nat] at hown
    first | exact hown | (rw [show ((x : Int) % 256) = (x : Int) by omega] at hown; exact hown)
  · obtain ⟨i0, hi, hz0, hz1, hz2⟩ := info_parts byte_info
    have Hi := Lib.hid hi
    have Hz := Lib.hid hz0
    have Hz1 := Lib.hid hz1
    have Hz2 := Lib.hid hz2
    clear hi hz0 hz1 hz2
    have H : ∃ (c n : Nat) (f : UInt8), c = f.toNat ∧ Oct.wide c = n ∧ (n = 1 ∨ n = 2 ∨ n = 4 ∨ n = 8) ∧ x < 256 ^ n ∧ Oct.var x = f :: Oct.le x n ∧
        ((c = 253 ∧ x ≤ 65535) ∨ (c = 254 ∧ 65535 < x ∧ x ≤ 4294967295) ∨ (c = 255 ∧ 4294967295 < x)) := by
      unfold U64 at hx
      have e0 : ¬ x < 253 := by omega
      by_cases h1 : x < 65536
      · exact ⟨253, 2, 253, rfl, rfl, by omega, by omega, by simp [Oct.var, Oct.size, e0, h1, Oct.first], .inl ⟨rfl, by omega⟩⟩
      · by_cases h2 : x < 4294967296
        · exact ⟨254, 4, 254, rfl, rfl, by omega, by omega, by simp [Oct.var, Oct.size, e0, h1, h2, Oct.first], .inr (.inl ⟨rfl, by omega, by omega⟩)⟩
        · exact ⟨255, 8, 255, rfl, rfl, by omega, by omega, by simp [Oct.var, Oct.size, e0, h1, h2, Oct.first], .inr (.inr ⟨rfl, by omega⟩)⟩
    obtain ⟨c, n, f, hc, hw, hn, hf, hv, hcase⟩ := H
    have hwide := fun w => wide_any c (by have := f.toNat_lt; omega) w
    rw [hw] at hwide
    have hput := fun w => rput_fits x n hx hn hf w
    have HW := Lib.hid hwide
    have HP := Lib.hid hput
    have Hc := Lib.hid hc
    have Hv := Lib.hid hv
    have hn8 : n ≤ 8 := by omega
    clear hwide hput hw hn hf hc hv hx
    rcases hcase with ⟨h0, h1⟩ | ⟨h0, h1, h2⟩ | ⟨h0, h1⟩
    · subst h0
      have ef : #[Value.int .u8 253] = bytesArr [f] := by
        have := Hc.out
        simp only [bytesArr, List.map_cons, List.map_nil, byteV, ← this]
        rfl
      have Ef := Lib.hid ef
      clear ef
      go_enter Tryd.func82, Tryd.ntmps82
      go_wp2_with (first
        | (go_at_call 81; refine (HW.out _).mono ?_; rintro e w' ⟨rfl, rfl⟩)
        | fail)
      refine (HP.out _).mono ?_
      rintro e w1 ⟨A, cap, rfl, hcap, ha, hb⟩
      have hone := var_one w w1 f hb Ef.out
      have hsrc := BytesAt.src (ha.below ((Below.refl _ w1).alloc (Nat.le_refl _) (.cells #[Value.int .u8 253] 5)))
      have hsz := hb.size
      go_wp2_with (first
        | (at_builtin; refine wpList_app _ rfl (.tmp 23) (.tmp 24) _ rfl w.heap.size 5 i0 _ 1 1 Tryd.underlying22 Hi.out Hz.out Hz1.out Hz2.out rfl (by decide) _ 1 [byteV f] rfl hone A n cap ((Oct.le x n).map byteV) rfl (by rw [List.length_map, Oct.le_length, Nat.mul_one]) hsrc (oneCell_bytes _) (by unfold maxLen; omega) (by omega) (by simp; omega) ?_; intro v' w2 hrow2 hg2 _))
      go_ret
      refine ⟨v', rfl, ?_, (hb.alloc hsz _).grown hg2 (by simp; omega) (fun j hj => (hone.lt j hj).1)⟩
      rw [Hv.out]
      unfold OwnB
      rw [List.length_cons, Oct.le_length, Nat.add_comm]
      exact hrow2
    · subst h0
      have ef : #[Value.int .u8 254] = bytesArr [f] := by
        have := Hc.out
        simp only [bytesArr, List.map_cons, List.map_nil, byteV, ← this]
        rfl
      have Ef := Lib.hid ef
      clear ef
      go_enter Tryd.func82, Tryd.ntmps82
      go_wp2_with (first
        | (go_at_call 81; refine (HW.out _).mono ?_; rintro e w' ⟨rfl, rfl⟩)
        | fail)
      refine (HP.out _).mono ?_
      rintro e w1 ⟨A, cap, rfl, hcap, ha, hb⟩
      have hone := var_one w w1 f hb Ef.out
      have hsrc := BytesAt.src (ha.below ((Below.refl _ w1).alloc (Nat.le_refl _) (.cells #[Value.int .u8 254] 5)))
      have hsz := hb.size
      go_wp2_with (first
        | (at_builtin; refine wpList_app _ rfl (.tmp 23) (.tmp 24) _ rfl w.heap.size 5 i0 _ 1 1 Tryd.underlying22 Hi.out Hz.out Hz1.out Hz2.out rfl (by decide) _ 1 [byteV f] rfl hone A n cap ((Oct.le x n).map byteV) rfl (by rw [List.length_map, Oct.le_length, Nat.mul_one]) hsrc (oneCell_bytes _) (by unfold maxLen; omega) (by omega) (by simp; omega) ?_; intro v' w2 hrow2 hg2 _))
      go_ret
      refine ⟨v', rfl, ?_, (hb.alloc hsz _).grown hg2 (by simp; omega) (fun j hj => (hone.lt j hj).1)⟩
      rw [Hv.out]
      unfold OwnB
      rw [List.length_cons, Oct.le_length, Nat.add_comm]
      exact hrow2
    · subst h0
      have ef : #[Value.int .u8 255] = bytesArr [f] := by
        have := Hc.out
        simp only [bytesArr, List.map_cons, List.map_nil, byteV, ← this]
        rfl
      have Ef := Lib.hid ef
      clear ef
      go_enter Tryd.func82, Tryd.ntmps82
      go_wp2_with (first
        | (go_at_call 81; refine (HW.out _).mono ?_; rintro e w' ⟨rfl, rfl⟩)
        | fail)
      refine (HP.out _).mono ?_
      rintro e w1 ⟨A, cap, rfl, hcap, ha, hb⟩
      have hone := var_one w w1 f hb Ef.out
      have hsrc := BytesAt.src (ha.below ((Below.refl _ w1).alloc (Nat.le_refl _) (.cells #[Value.int .u8 255] 5)))
      have hsz := hb.size
      go_wp2_with (first
        | (at_builtin; refine wpList_app _ rfl (.tmp 23) (.tmp 24) _ rfl w.heap.size 5 i0 _ 1 1 Tryd.underlying22 Hi.out Hz.out Hz1.out Hz2.out rfl (by decide) _ 1 [byteV f] rfl hone A n cap ((Oct.le x n).map byteV) rfl (by rw [List.length_map, Oct.le_length, Nat.mul_one]) hsrc (oneCell_bytes _) (by unfold maxLen; omega) (by omega) (by simp; omega) ?_; intro v' w2 hrow2 hg2 _))
      go_ret
      refine ⟨v', rfl, ?_, (hb.alloc hsz _).grown hg2 (by simp; omega) (fun j hj => (hone.lt j hj).1)⟩
      rw [Hv.out]
      unfold OwnB
      rw [List.length_cons, Oct.le_length, Nat.add_comm]
      exact hrow2

end Go.Proofs.YtpacgblddeoheaaDoor
