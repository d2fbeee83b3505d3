/- A message's frame, read, is the message again. -/
import Derived.Test.YtanjlgkbjcienaaDoorMsgF
import Derived.Test.YtanjlgkbjcienaaDoorFrameR
namespace Go.Proofs.YtanjlgkbjcienaaDoor.M8
open Go.RowKit Go.Deep T7
set_option linter.unusedVariables false
set_option linter.unusedSimpArgs false
set_option maxRecDepth 100000
attribute [local go_sem ↓] Go.wp_at_zero Go.wp_at_succ

theorem empty_own8 (w : World) : OwnB (w.alloc (.cells #[] 5)) w.heap.size (.slice (some ⟨w.heap.size, 0, none⟩) 0 0) [] := Bk.own (bs := []) (Bk.new _ _ _) (Nat.le_refl _) (by simp [maxLen])
set_option maxHeartbeats 8000000 in
theorem msgFrames_walk (w : World) (hlay : Laid w) (m : Msgs.Msg) (A : Option Addr) (c : Nat) (A1 : Option Addr) (c1 : Nat) (A2 : Option Addr) (c2 : Nat) (h : MsgAt w w.heap.size m A c A1 c1 A2 c2) (A3 : Option Addr) (n3 c3 : Nat) (rl : List UInt8) (hl3 : rl.length = n3) (hc3 : n3 ≤ c3) (hm3 : c3 ≤ maxLen) (hat3 : BytesAt w w.heap.size A3 rl) :
    Calls Tryd.prog 5 #[msgV m A c A1 c1 A2 c2, .slice A3 n3 c3] w fun e w' => e = .returned (.bool true) ∧ Below w.heap.size w w' := by
  obtain ⟨i0, hi, hz0, hz1, hz2⟩ := info_parts byte_info
  have Hi := Lib.hid hi
  have Hz := Lib.hid hz0
  have Hz1 := Lib.hid hz1
  have Hz2 := Lib.hid hz2
  clear hi hz0 hz1 hz2
  have HL3 := Lib.hid hl3
  have HA3 := Lib.hid hat3
  have HM3 := Lib.hid hm3
  have HLAY := Lib.hid hlay
  obtain ⟨cmd, hcmd⟩ : ∃ cmd, cmd = (Msgs.put m).1 := ⟨_, rfl⟩
  obtain ⟨body, hbody⟩ : ∃ body, body = (Msgs.put m).2.1 := ⟨_, rfl⟩
  obtain ⟨er, her⟩ : ∃ er, er = (Msgs.put m).2.2 := ⟨_, rfl⟩
  have hp : Msgs.put m = (cmd, body, er) := by rw [hcmd, hbody, her]
  have HPE := Lib.hid hp
  clear hcmd hbody her hp hl3 hat3 hlay hm3
  obtain ⟨w1, ms, hms, hv, hms7, hw1, hb1, hz1, hk1⟩ := msg_box w m A A1 A2 c c1 c2
  have HB1 := Lib.hid hb1
  have HZ1 := Lib.hid hz1
  have HK1 := Lib.hid hk1
  have HM7 := Lib.hid hms7
  have HMS := Lib.hid hms
  have HV := Lib.hid hv
  have HT := Lib.hid h
  have HGR := Lib.hid (fun W (hb : Below w.heap.size w W) => great_any m A A1 A2 c c1 c2 _ W (h.below hb) hb.size)
  have HPU := Lib.hid (fun W (hb : Below w.heap.size w W) => mput_any m A A1 A2 c c1 c2 _ W (h.below hb) hb.size)
  have HOK := Lib.hid h.ok
  rw [hv] at HGR HPU ⊢
  have HNO := Lib.hid (fun W (hb : Below w.heap.size w W) => mframe_no m A A1 A2 c c1 c2 w.heap.size W (h.below hb) hb.size)
  have HYES := Lib.hid (fun W (hb : Below w.heap.size w W) => mframe_yes m A A1 A2 c c1 c2 w.heap.size W (h.below hb) hb.size)
  have HS := Lib.hid (fun W (hb : Below w.heap.size w W) B' A' A1' A2' c' c1' c2' hh hle => msame_self m A' A1' A2' A A1 A2 c' c1' c2' c c1 c2 B' w.heap.size W hh (h.below hb) hle hb.size)
  rw [hv] at HNO HYES HS
  clear HPU hb1 hz1 hk1 hms7 hms hv h
  go_enter Tryd.func5, Tryd.ntmps5
  go_upto_region 1 with (fail)
  rw [← hw1]
  clear hw1
  go_wp2_with fail
  refine (alive_any w1).mono ?_
  rintro e w2 ⟨rfl, hb2⟩
  have HB2 := Lib.hid (HB1.out.trans (hb2.mono HB1.out.size))
  have HK2 := Lib.hid (HK1.out.below hb2 HK1.out.lt)
  have hz2 : w.heap.size + 1 ≤ w2.heap.size := by rw [← HZ1.out]; exact hb2.size
  clear hb2
  go_wp2_with (refine wpList_load_row rfl 30 (.tmp 2) rfl w.heap.size (by rfl) 30 ms (0, 0) _ HK2.out Tryd.underlying30 rfl (by rw [HM7.out]; exact size_msg) ?_)
  refine (HGR.out w2 HB2.out).mono ?_
  rintro e w3 ⟨⟨v3, rfl⟩, hb3⟩
  have HB3 := Lib.hid (HB2.out.trans (hb3.mono HB2.out.size))
  have HK3 := Lib.hid (HK2.out.below hb3 (by omega))
  have hz3 : w.heap.size + 1 ≤ w3.heap.size := by have := hb3.size; omega
  clear hb3 HGR
  cases v3 with
  | true =>
    go_wp2_with fail
    go_ret
    exact ⟨rfl, HB3.out⟩
  | false =>
    by_cases h3 : (3000 : Int) < (n3 : Int)
    · go_wp2_with fail
      go_ret
      exact ⟨rfl, HB3.out⟩
    by_cases he : er = 0
    · subst he
      have HGET := Lib.hid (Msgs.get_put HOK.out HPE.out)
      have HLN := Lib.hid (put_len8 HOK.out HPE.out)
      have HNM := Lib.hid (put_named HPE.out)
      have HFR := Lib.hid (HYES.out w3 HB3.out cmd body HPE.out (HLAY.out.below HB3.out))
      clear HYES HNO
      go_wp2_with (refine wpList_load_row rfl 30 (.tmp 2) rfl w.heap.size (by rfl) 30 ms (0, 0) _ HK3.out Tryd.underlying30 rfl (by rw [HM7.out]; exact size_msg) ?_)
      refine HFR.out.mono ?_
      rintro e w4 ⟨v4, rfl, ho4, hb4⟩
      obtain ⟨fb, hfb⟩ : ∃ fb, fb = Frm.put cmd body := ⟨_, rfl⟩
      rw [← hfb] at ho4
      obtain ⟨A4, c4, rfl, hc4, hm4, hat4, -⟩ := ho4.at_
      have HB4 := Lib.hid (HB3.out.trans (hb4.mono HB3.out.size))
      have HK4 := Lib.hid (HK3.out.below hb4 (by omega))
      have hz4 : w.heap.size + 1 ≤ w4.heap.size := by have := hb4.size; omega
      have HA4 := Lib.hid hat4
      have hfl : fb.length = 24 + body.length := by rw [hfb]; exact Frm.put_len HNM.out body
      obtain ⟨nb, hn⟩ : ∃ nb, nb = fb.length := ⟨_, rfl⟩
      have hnb : nb = 24 + body.length := by rw [hn]; exact hfl
      have hn2 : nb ≤ 2024 := by have := HLN.out; omega
      rw [← hn] at hc4 ⊢
      have HN := Lib.hid hn
      have HFG := Lib.hid (Frm.get_put (body := body) HNM.out (by have := HLN.out; omega) rl)
      rw [← hfb, ← hnb] at HFG
      have HO := Lib.hid (empty_own8 w4)
      have HS4 := Lib.hid (BytesAt.src (At.below HA4.out (Joins.below_alloc1 w4 (.cells #[] 5))))
      unfold maxLen at hm4
      clear hn hfb hfl hnb hb4 ho4 hat4 HFR
      go_wp2_with (first
        | (at_builtin; refine wpList_app _ rfl (.tmp 33) (.tmp 34) _ rfl w4.heap.size 5 i0 _ 1 1 Tryd.underlying33 Hi.out Hz.out Hz1.out Hz2.out rfl (by decide) (.slice (some ⟨w4.heap.size, 0, none⟩) 0 0) 0 [] rfl HO.out A4 nb c4 (fb.map byteV) rfl (by rw [List.length_map, HN.out, Nat.mul_one]) HS4.out (oneCell_bytes _) (by unfold maxLen; omega) (by omega) (by simp) ?_; intro v5 w5 hrow5 hg5 hat5; have b45 : Below w4.heap.size w4 w5 := (Joins.below_alloc1 w4 (.cells #[] 5)).trans (own_low hg5 HO.out (Nat.le_refl _) (by simp)); have b45s : w4.heap.size ≤ w5.heap.size := b45.size; have hsrc5 := BytesAt.src (At.below HA3.out (HB4.out.trans (b45.mono HB4.out.size))))
        | (at_builtin; refine wpList_app _ rfl (.tmp 35) (.tmp 36) _ rfl w4.heap.size 5 i0 _ 1 1 Tryd.underlying33 Hi.out Hz.out Hz1.out Hz2.out rfl (by decide) v5 (0 + nb) _ rfl hrow5 A3 n3 c3 (rl.map byteV) rfl (by rw [List.length_map, HL3.out, Nat.mul_one]) hsrc5 (oneCell_bytes _) (by unfold maxLen; omega) (by omega) (by omega) ?_; intro v6 w6 hrow6 hg6 hat6))
      have b46 : Below w4.heap.size w4 w6 := b45.trans (own_low hg6 hrow5 (Nat.le_refl _) b45s)
      have hrow6' : OwnB w6 w4.heap.size v6 (fb ++ rl) := by
        unfold OwnB
        rw [List.length_append, List.map_append, ← HN.out, HL3.out]
        simpa using hrow6
      obtain ⟨A6, c6, rfl, hc6, hm6, hat6', -⟩ := hrow6'.at_
      have HB6 := Lib.hid (HB4.out.trans (b46.mono HB4.out.size))
      have HK6 := Lib.hid (HK4.out.below b46 (by omega))
      have hz6 : w.heap.size + 1 ≤ w6.heap.size := by have := b46.size; omega
      have hl6 : (fb ++ rl).length ≤ 140737488351232 := by rw [List.length_append, ← HN.out, HL3.out]; omega
      have HGG := Lib.hid (Go.Proofs.YtanjlgkbjcienaaDoor.get_any A6 c6 _ (fb ++ rl).length (fb ++ rl) w6 (HLAY.out.below HB6.out) rfl hc6 hm6 hl6 hat6' (Nat.le_refl _))
      rw [HFG.out] at HGG
      clear hrow5 hg5 hat5 hrow6 hg6 hat6 hrow6' hat6' b45 b45s hsrc5 b46 HO HS4 hc6 hm6 hl6
      refine HGG.out.mono ?_
      rintro e w7 ⟨v7, rfl, ho7, hb7⟩
      simp only at ho7 ⊢
      obtain ⟨A7, c7, rfl, hc7, hm7, hat7, -⟩ := ho7.at_
      have HB7 := Lib.hid (HB6.out.trans (hb7.mono HB6.out.size))
      have HK7 := Lib.hid (HK6.out.below hb7 (by omega))
      have hz7 : w.heap.size + 1 ≤ w7.heap.size := by have := hb7.size; omega
      have HG := Lib.hid (get_any ⟨cmd.toArray⟩ A7 body.length c7 w7.heap.size body w7 rfl hc7 hm7 (by have := HLN.out; omega) hat7 (Nat.le_refl _))
      rw [data_of8, HGET.out] at HG
      clear ho7 hb7 hc7 hm7 hat7 HGG HGET
      go_wp2_with fail
      refine HG.out.mono ?_
      rintro e w8 ⟨A8, c8, A9, c9, A10, c10, rfl, hn8, hb8⟩
      simp only at hn8 ⊢
      have HB8 := Lib.hid (HB7.out.trans (hb8.mono HB7.out.size))
      have HK8 := Lib.hid (HK7.out.below hb8 (by omega))
      have hz8 : w.heap.size + 1 ≤ w8.heap.size := by have := hb8.size; omega
      have HN8 := Lib.hid hn8
      clear hb8 hn8 HG
      unfold msgV
      go_upto_region 12 with (fail)
      obtain ⟨w9, mt, hmt, hvt, hmt7, hw9, hb9, hz9, hk9⟩ := msg_box w8 m A8 A9 A10 c8 c9 c10
      have HVT := Lib.hid hvt
      have HMT7 := Lib.hid hmt7
      rw [hmt] at hw9
      rw [← hw9]
      have HB9 := Lib.hid (HB8.out.trans (hb9.mono HB8.out.size))
      have HK9 := Lib.hid (HK8.out.below hb9 (by omega))
      have HL9 := Lib.hid hk9
      have HN9 := Lib.hid ((HN8.out.below hb9).mono hb9.size)
      clear hw9 hb9 hk9 hmt hvt hmt7 hz9
      have HS9 := Lib.hid (HS.out w9 HB9.out w9.heap.size A8 A9 A10 c8 c9 c10 HN9.out (Nat.le_refl _))
      rw [HVT.out] at HS9
      clear HS
      go_wp2_with (first | (refine wpList_load_row_g (by rfl) 30 (.tmp 11) rfl w8.heap.size (by rfl) 30 mt (0, 0) _ HL9.out Tryd.underlying30 rfl (by rw [HMT7.out]; exact size_msg) ?_) | (refine wpList_load_row_g (by rfl) 30 (.tmp 2) rfl w.heap.size (by rfl) 30 ms (0, 0) _ HK9.out Tryd.underlying30 rfl (by rw [HM7.out]; exact size_msg) ?_))
      refine HS9.out.mono ?_
      rintro e w10 ⟨rfl, hb10⟩
      have HB10 := Lib.hid (HB9.out.trans (hb10.mono HB9.out.size))
      clear hb10 HS9
      go_wp2_with fail
      go_ret
      exact ⟨rfl, HB10.out⟩
    · have e1 : (er != 0) = true := by rw [bne_iff_ne]; exact he
      have HNO3 := Lib.hid (HNO.out w3 HB3.out cmd body er HPE.out he)
      clear he HNO HYES
      go_wp2_with (refine wpList_load_row rfl 30 (.tmp 2) rfl w.heap.size (by rfl) 30 ms (0, 0) _ HK3.out Tryd.underlying30 rfl (by rw [HM7.out]; exact size_msg) ?_)
      refine HNO3.out.mono ?_
      rintro e w4 ⟨rfl, hb4⟩
      have HB4 := Lib.hid (HB3.out.trans (hb4.mono HB3.out.size))
      clear hb4 HNO3
      go_wp2_with fail
      go_ret
      exact ⟨rfl, HB4.out⟩
end Go.Proofs.YtanjlgkbjcienaaDoor.M8
