/- What is put is got, whatever stands behind it. -/
import Derived.Test.YtaiblalebeldgaaDoorFrameShort
namespace Go.Proofs.YtaiblalebeldgaaDoor
open Go.RowKit Go.Deep
set_option linter.unusedVariables false
set_option linter.unusedSimpArgs false
set_option maxRecDepth 100000
attribute [local go_sem ↓] Go.wp_at_zero Go.wp_at_succ
theorem str_back (s : ByteArray) : (⟨s.data.toList.toArray⟩ : ByteArray) = s := by obtain ⟨d⟩ := s; simp
theorem frameBack_great (w : World) (hlay : Laid w) (s : ByteArray) (A : Option Addr) (n c : Nat) (A' : Option Addr) (n' c' : Nat) (hr : 10000 < n') :
    Calls Tryd.prog 6 #[.string s, .slice A n c, .slice A' n' c'] w fun e w' => e = .returned (.bool true) ∧ Below w.heap.size w w' := by
  have hr' : (10000 : Int) < (n' : Int) := by omega
  have HA := Lib.hid (frame_alive w hlay)
  clear hlay
  go_enter Tryd.func6, Tryd.ntmps6
  go_wp2_with fail
  refine HA.out.mono ?_
  rintro e w1 ⟨rfl, hb1⟩
  go_wp2_with fail
  go_ret
  exact ⟨rfl, hb1⟩
theorem frameBack_not (w : World) (hlay : Laid w) (s : ByteArray) (hs : s.size ≤ 9223372036854775807) (hn : Frm.named s.data.toList = false) (A : Option Addr) (n c : Nat) (A' : Option Addr) (n' c' : Nat) (hr : n' ≤ 10000) :
    Calls Tryd.prog 6 #[.string s, .slice A n c, .slice A' n' c'] w fun e w' => e = .returned (.bool true) ∧ Below w.heap.size w w' := by
  have hr' : ¬ (10000 : Int) < (n' : Int) := by omega
  have HA := Lib.hid (frame_alive w hlay)
  have HP := fun W => Lib.hid (put_unnamed s A n c W hs hn)
  have hN := fun W => named_any s W hs
  rw [hn] at hN
  have HN := Lib.hid hN
  clear hlay hn hN
  go_enter Tryd.func6, Tryd.ntmps6
  go_wp2_with fail
  refine HA.out.mono ?_
  rintro e w1 ⟨rfl, hb1⟩
  have HB1 := Lib.hid hb1
  clear hb1
  go_wp2_with fail
  refine (HP _).out.mono ?_
  rintro e w2 ⟨rfl, hb2⟩
  have HB2 := Lib.hid (HB1.out.trans (hb2.mono HB1.out.size))
  clear hb2
  go_wp2_with fail
  refine (HN.out _).mono ?_
  rintro e w3 ⟨rfl, hb3⟩
  have HB3 := Lib.hid (HB2.out.trans (hb3.mono HB2.out.size))
  clear hb3
  go_wp2_with fail
  go_ret
  exact ⟨rfl, HB3.out⟩
theorem frameBack_long (w : World) (hlay : Laid w) (s : ByteArray) (hs : s.size ≤ 9223372036854775807) (hn : Frm.named s.data.toList = true) (A : Option Addr) (n c : Nat) (hl : 2048 < n) (A' : Option Addr) (n' c' : Nat) (hr : n' ≤ 10000) :
    Calls Tryd.prog 6 #[.string s, .slice A n c, .slice A' n' c'] w fun e w' => e = .returned (.bool true) ∧ Below w.heap.size w w' := by
  have hr' : ¬ (10000 : Int) < (n' : Int) := by omega
  have hl' : (2048 : Int) < (n : Int) := by omega
  have HA := Lib.hid (frame_alive w hlay)
  have HP := fun W => Lib.hid (put_long s A n c W hs hn hl)
  have hN := fun W => named_any s W hs
  rw [hn] at hN
  have HN := Lib.hid hN
  clear hlay hn hN
  go_enter Tryd.func6, Tryd.ntmps6
  go_wp2_with fail
  refine HA.out.mono ?_
  rintro e w1 ⟨rfl, hb1⟩
  have HB1 := Lib.hid hb1
  clear hb1
  go_wp2_with fail
  refine (HP _).out.mono ?_
  rintro e w2 ⟨rfl, hb2⟩
  have HB2 := Lib.hid (HB1.out.trans (hb2.mono HB1.out.size))
  clear hb2
  go_wp2_with fail
  refine (HN.out _).mono ?_
  rintro e w3 ⟨rfl, hb3⟩
  have HB3 := Lib.hid (HB2.out.trans (hb3.mono HB2.out.size))
  clear hb3
  go_wp2_with fail
  go_ret
  exact ⟨rfl, HB3.out⟩
/-- what grows a row of one's own leaves what lies under it -/
theorem own_low {w w' : World} {B base : Nat} {e : TypeId} {size : Nat} {v : Value} {n : Nat} {xs : List Value} (hg : w.grownBy w' v.ownBlock) (h : w.ownsRow base e size v n xs) (hB : B ≤ base) (hs : B ≤ w.heap.size) : Below B w w' :=
  ⟨hg.os, hg.tape, hg.output, hg.size, fun i hi => hg.block i (by omega) (fun e => by have := (h.lt i e.symm).1; omega)⟩
set_option maxHeartbeats 1000000 in
theorem frameBack_yes (w : World) (hlay : Laid w) (s : ByteArray) (hs : s.size ≤ 9223372036854775807) (hn : Frm.named s.data.toList = true) (A : Option Addr) (c : Nat) (body : List UInt8) (hl : body.length ≤ 2048) (hc : body.length ≤ c) (hm : c ≤ maxLen) (hat : BytesAt w w.heap.size A body)
    (A' : Option Addr) (c' : Nat) (rest : List UInt8) (hr : rest.length ≤ 10000) (hat' : BytesAt w w.heap.size A' rest) :
    Calls Tryd.prog 6 #[.string s, .slice A body.length c, .slice A' rest.length c'] w fun e w' => e = .returned (.bool true) ∧ Below w.heap.size w w' := by
  have hr' : ¬ (10000 : Int) < (rest.length : Int) := by omega
  obtain ⟨i0, hi, hz0, hz1, hz2⟩ := info_parts byte_info
  have Hi := Lib.hid hi
  have Hz := Lib.hid hz0
  have Hz1 := Lib.hid hz1
  have Hz2 := Lib.hid hz2
  clear hi hz0 hz1 hz2
  have HA := Lib.hid (frame_alive w hlay)
  have HP := fun W h1 h2 h3 => Lib.hid (put_yes s A c w.heap.size body W h1 hs hn hl h2 h3 hc hm)
  have HL := Lib.hid hlay
  have HAT := Lib.hid hat
  have HRT := Lib.hid hat'
  have hpl := Frm.put_len hn body
  have hg := Frm.get_put hn hl rest
  obtain ⟨p, hp⟩ : ∃ p, p = Frm.put s.data.toList body := ⟨_, rfl⟩
  rw [← hp] at hpl hg
  have hp1 : 24 ≤ p.length ∧ p.length ≤ 2072 := by omega
  obtain ⟨hp1, hp2⟩ := hp1
  have HPE := Lib.hid hp
  have HPL := Lib.hid hpl
  have HG := Lib.hid hg
  clear hlay hat hat' hpl hg hp hn
  go_enter Tryd.func6, Tryd.ntmps6
  go_wp2_with fail
  refine HA.out.mono ?_
  rintro e w1 ⟨rfl, hb1⟩
  have HB1 := Lib.hid hb1
  clear hb1
  go_wp2_with fail
  refine (HP _ (HL.out.below HB1.out) (HAT.out.below HB1.out) HB1.out.size).out.mono ?_
  rintro e w2 ⟨v, rfl, ho2, hb2⟩
  rw [← HPE.out] at ho2
  have HB2 := Lib.hid (HB1.out.trans (hb2.mono HB1.out.size))
  obtain ⟨A2, c2, rfl, hc2, hm2, hat2, _⟩ := ho2.at_
  have HAT2 := Lib.hid hat2
  have hz2 := HB2.out.size
  have hown : OwnB (w2.alloc (.cells #[] 5)) w2.heap.size (.slice (some ⟨w2.heap.size, 0, none⟩) 0 0) [] := Bk.own (bs := []) (Bk.new _ _ _) (Nat.le_refl _) (by simp [maxLen])
  have HO := Lib.hid hown
  have HS2 := Lib.hid (BytesAt.src (At.below hat2 (Joins.below_alloc1 w2 (.cells #[] 5))))
  clear hb2 ho2 hat2 hown HP HA hm2
  go_wp2_with (first
    | (at_builtin; refine wpList_app _ rfl (.tmp 52) (.tmp 53) _ rfl w2.heap.size 5 i0 _ 1 1 Tryd.underlying22 Hi.out Hz.out Hz1.out Hz2.out rfl (by decide) (.slice (some ⟨w2.heap.size, 0, none⟩) 0 0) 0 [] rfl HO.out A2 p.length c2 (p.map byteV) rfl (by rw [List.length_map, Nat.mul_one]) HS2.out (oneCell_bytes _) (by unfold maxLen; omega) (by omega) (by simp) ?_; intro v4 w4 hrow4 hg4 hat4; have b24 : Below w2.heap.size w2 w4 := (Joins.below_alloc1 _ _).trans (own_low hg4 HO.out (Nat.le_refl _) (by simp)); have b24s := b24.size; have hsrc3 := BytesAt.src (At.below HRT.out (HB2.out.trans (b24.mono HB2.out.size))))
    | (at_builtin; refine wpList_app _ rfl (.tmp 54) (.tmp 55) _ rfl w2.heap.size 5 i0 _ 1 1 Tryd.underlying22 Hi.out Hz.out Hz1.out Hz2.out rfl (by decide) v4 (0 + p.length) _ rfl hrow4 A' rest.length c' (rest.map byteV) rfl (by rw [List.length_map, Nat.mul_one]) hsrc3 (oneCell_bytes _) (by unfold maxLen; omega) (by omega) (by omega) ?_; intro v5 w5 hrow5 hg5 hat5))
  have hrow5' : OwnB w5 w2.heap.size v5 (p ++ rest) := by
    unfold OwnB
    rw [List.length_append, List.map_append]
    simpa using hrow5
  have b25 : Below w2.heap.size w2 w5 := b24.trans (own_low hg5 hrow4 (Nat.le_refl _) b24s)
  obtain ⟨A5, c5, rfl, hc5, hm5, hat5', _⟩ := hrow5'.at_
  have HB5 := Lib.hid (HB2.out.trans (b25.mono HB2.out.size))
  have hl5 : (p ++ rest).length ≤ 140737488351232 := by rw [List.length_append]; omega
  have hG := get_any A5 c5 _ _ (p ++ rest) w5 (HL.out.below HB5.out) rfl hc5 hm5 hl5 hat5' (Nat.le_refl _)
  rw [HG.out] at hG
  have HGG := Lib.hid hG
  clear hG hrow4 hg4 hat4 hrow5 hg5 hat5 hrow5' hat5' b24 b24s hsrc3 HG HO HS2
  refine HGG.out.mono ?_
  rintro e w6 ⟨v6, rfl, ho6, hb6⟩
  have HB6 := Lib.hid (HB5.out.trans (hb6.mono HB5.out.size))
  obtain ⟨A6, c6, rfl, _, _, hat6, _⟩ := ho6.at_
  have hS := same_yes A6 A body.length body.length c6 c body w6 _ _ rfl rfl (by omega) hat6 (HAT.out.below HB6.out)
  have HS := Lib.hid hS
  have hsb := str_back s
  have hnl2 : (p.length : Int) = 24 + (body.length : Int) := by rw [HPL.out]; omega
  clear hb6 ho6 hat6 hS b25 HGG
  rw [hsb]
  go_wp2_with fail
  refine HS.out.mono ?_
  rintro e w7 ⟨rfl, hb7⟩
  have HB7 := Lib.hid (HB6.out.trans (hb7.mono HB6.out.size))
  clear hb7
  go_wp2_with fail
  go_ret
  exact ⟨rfl, HB7.out⟩
theorem frameBack_walk (w : World) (hlay : Laid w) (s : ByteArray) (hs : s.size ≤ 9223372036854775807) (A : Option Addr) (n c : Nat) (body : List UInt8) (hl : body.length = n) (hc : n ≤ c) (hm : c ≤ maxLen) (hat : BytesAt w w.heap.size A body)
    (A' : Option Addr) (n' c' : Nat) (rest : List UInt8) (hl' : rest.length = n') (hc' : n' ≤ c') (hm' : c' ≤ maxLen) (hat' : BytesAt w w.heap.size A' rest) :
    Calls Tryd.prog 6 #[.string s, .slice A n c, .slice A' n' c'] w fun e w' => e = .returned (.bool true) ∧ Below w.heap.size w w' := by
  subst hl hl'
  by_cases hr : rest.length ≤ 10000
  · cases hn : Frm.named s.data.toList with
    | false => exact frameBack_not w hlay s hs hn A _ c A' _ c' hr
    | true =>
      by_cases hb : body.length ≤ 2048
      · exact frameBack_yes w hlay s hs hn A c body hb hc hm hat A' c' rest hr hat'
      · exact frameBack_long w hlay s hs hn A _ c (by omega) A' _ c' hr
  · exact frameBack_great w hlay s A _ c A' _ c' (by omega)
end Go.Proofs.YtaiblalebeldgaaDoor
