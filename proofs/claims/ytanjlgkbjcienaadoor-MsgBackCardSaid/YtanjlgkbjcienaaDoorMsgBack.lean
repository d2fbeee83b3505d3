/- What a message is put to, read again, is the message. -/
import Derived.Test.YtanjlgkbjcienaaDoorMsgF
namespace Go.Proofs.YtanjlgkbjcienaaDoor.M8
open Go.RowKit Go.Deep T7
set_option linter.unusedVariables false
set_option linter.unusedSimpArgs false
set_option maxRecDepth 100000
attribute [local go_sem ↓] Go.wp_at_zero Go.wp_at_succ

set_option maxHeartbeats 8000000 in
theorem msgBack_walk (w : World) (hlay : Laid w) (m : Msgs.Msg) (A : Option Addr) (c : Nat) (A1 : Option Addr) (c1 : Nat) (A2 : Option Addr) (c2 : Nat) (h : MsgAt w w.heap.size m A c A1 c1 A2 c2) :
    Calls Tryd.prog 3 #[msgV m A c A1 c1 A2 c2] w fun e w' => e = .returned (.bool true) ∧ Below w.heap.size w w' := by
  obtain ⟨w1, ms, hms, hv, hms7, hw1, hb1, hz1, hk1⟩ := msg_box w m A A1 A2 c c1 c2
  have HB1 := Lib.hid hb1
  have HZ1 := Lib.hid hz1
  have HK1 := Lib.hid hk1
  have HM7 := Lib.hid hms7
  have HMS := Lib.hid hms
  have HV := Lib.hid hv
  have HT := Lib.hid h
  have HGR := Lib.hid (fun W (hb : Below w.heap.size w W) => great_any m A A1 A2 c c1 c2 _ W (h.below hb) hb.size)
  have HPU := Lib.hid (fun W (hb : Below w.heap.size w W) => mput_any m A A1 A2 c c1 c2 _ W (h.below hb) hb.size)
  have HOK := Lib.hid h.ok
  rw [hv] at HGR HPU ⊢
  have HNO := Lib.hid (fun W (hb : Below w.heap.size w W) => mframe_no m A A1 A2 c c1 c2 w.heap.size W (h.below hb) hb.size)
  have HS := Lib.hid (fun W (hb : Below w.heap.size w W) B' A' A1' A2' c' c1' c2' => msame_self m A A1 A2 A' A1' A2' c c1 c2 c' c1' c2' w.heap.size B' W (h.below hb))
  have HR := Lib.hid (fun W (hb : Below w.heap.size w W) B' A' A1' A2' c' c1' c2' => rsame_self8 m A A1 A2 A' A1' A2' c c1 c2 c' c1' c2' w.heap.size B' W (h.below hb))
  rw [hv] at HNO HS HR
  clear hb1 hz1 hk1 hms7 hms hv h
  go_enter Tryd.func3, Tryd.ntmps3
  go_upto_region 1 with (fail)
  rw [← hw1]
  clear hw1
  go_wp2_with fail
  refine (alive_any w1).mono ?_
  rintro e w2 ⟨rfl, hb2⟩
  have HB2 := Lib.hid (HB1.out.trans (hb2.mono HB1.out.size))
  have HK2 := Lib.hid (HK1.out.below hb2 HK1.out.lt)
  have hz2 : w.heap.size + 1 ≤ w2.heap.size := by rw [← HZ1.out]; exact hb2.size
  clear hb2
  go_wp2_with (refine wpList_load_row rfl 30 (.tmp 1) rfl w.heap.size (by rfl) 30 ms (0, 0) _ HK2.out Tryd.underlying30 rfl (by rw [HM7.out]; exact size_msg) ?_)
  refine (HGR.out w2 HB2.out).mono ?_
  rintro e w3 ⟨⟨v3, rfl⟩, hb3⟩
  have HB3 := Lib.hid (HB2.out.trans (hb3.mono HB2.out.size))
  have HK3 := Lib.hid (HK2.out.below hb3 (by omega))
  have hz3 : w.heap.size + 1 ≤ w3.heap.size := by have := hb3.size; omega
  clear hb3 HGR
  cases v3 with
  | true =>
    go_wp2_with fail
    go_ret
    exact ⟨rfl, HB3.out⟩
  | false =>
    go_wp2_with (refine wpList_load_row rfl 30 (.tmp 1) rfl w.heap.size (by rfl) 30 ms (0, 0) _ HK3.out Tryd.underlying30 rfl (by rw [HM7.out]; exact size_msg) ?_)
    refine (HPU.out w3 HB3.out).mono ?_
    rintro e w4 ⟨v4, rfl, ho4, hb4⟩
    have HB4 := Lib.hid (HB3.out.trans (hb4.mono HB3.out.size))
    have HK4 := Lib.hid (HK3.out.below hb4 (by omega))
    have hz4 : w.heap.size + 1 ≤ w4.heap.size := by have := hb4.size; omega
    clear hb4
    obtain ⟨cmd, hcmd⟩ : ∃ cmd, cmd = (Msgs.put m).1 := ⟨_, rfl⟩
    obtain ⟨body, hbody⟩ : ∃ body, body = (Msgs.put m).2.1 := ⟨_, rfl⟩
    obtain ⟨er, her⟩ : ∃ er, er = (Msgs.put m).2.2 := ⟨_, rfl⟩
    have hp : Msgs.put m = (cmd, body, er) := by rw [hcmd, hbody, her]
    rw [← hcmd, ← her]
    rw [← hbody] at ho4
    have HPE := Lib.hid hp
    obtain ⟨A4, c4, rfl, hc4, hm4, hat4, -⟩ := ho4.at_
    have HAT4 := Lib.hid hat4
    have HC4 := Lib.hid hc4
    have HM4 := Lib.hid hm4
    clear hcmd hbody her hp ho4 hc4 hm4 hat4 HPU
    by_cases he : er = 0
    · subst he
      have HGET := Lib.hid (Msgs.get_put HOK.out HPE.out)
      have HLN := Lib.hid (put_len8 HOK.out HPE.out)
      have HNM := Lib.hid (put_named HPE.out)
      have HG := Lib.hid (get_any ⟨cmd.toArray⟩ A4 body.length c4 w4.heap.size body w4 rfl HC4.out HM4.out (by have := HLN.out; omega) HAT4.out (Nat.le_refl _))
      rw [data_of8, HGET.out] at HG
      clear HGET
      go_wp2_with fail
      refine HG.out.mono ?_
      rintro e w5 ⟨A5, c5, A6, c6, A7, c7, rfl, hn5, hb5⟩
      simp only at hn5 ⊢
      have HB5 := Lib.hid (HB4.out.trans (hb5.mono HB4.out.size))
      have HK5 := Lib.hid (HK4.out.below hb5 (by omega))
      have hz5 : w.heap.size + 1 ≤ w5.heap.size := by have := hb5.size; omega
      have HN5 := Lib.hid hn5
      clear hb5 hn5 HG
      unfold msgV
      go_upto_region 10 with (fail)
      obtain ⟨w6, mt, hmt, hvt, hmt7, hw6, hb6, hz6, hk6⟩ := msg_box w5 m A5 A6 A7 c5 c6 c7
      have HVT := Lib.hid hvt
      have HMT7 := Lib.hid hmt7
      rw [hmt] at hw6
      rw [← hw6]
      have HB6 := Lib.hid (HB5.out.trans (hb6.mono HB5.out.size))
      have HK6 := Lib.hid (HK5.out.below hb6 (by omega))
      have HL6 := Lib.hid hk6
      have HN6 := Lib.hid ((HN5.out.below hb6).mono hb6.size)
      have hz6' : w5.heap.size + 1 ≤ w6.heap.size := by omega
      clear hw6 hb6 hk6 hmt hvt hmt7 hz6
      have HS6 := Lib.hid (fun W (hb : Below w6.heap.size w6 W) => HS.out W (HB6.out.trans (hb.mono HB6.out.size)) w6.heap.size A5 A6 A7 c5 c6 c7 (HN6.out.below hb) (Nat.le_trans HB6.out.size hb.size) hb.size)
      have HR6 := Lib.hid (fun W (hb : Below w6.heap.size w6 W) => HR.out W (HB6.out.trans (hb.mono HB6.out.size)) w6.heap.size A5 A6 A7 c5 c6 c7 (HN6.out.below hb) (Nat.le_trans HB6.out.size hb.size) hb.size)
      rw [HVT.out] at HS6 HR6
      clear HS HR
      go_wp2_with (first | (refine wpList_load_row_g (by rfl) 30 (.tmp 1) rfl w.heap.size (by rfl) 30 ms (0, 0) _ HK6.out Tryd.underlying30 rfl (by rw [HM7.out]; exact size_msg) ?_) | (refine wpList_load_row_g (by rfl) 30 (.tmp 8) rfl w5.heap.size (by rfl) 30 mt (0, 0) _ HL6.out Tryd.underlying30 rfl (by rw [HMT7.out]; exact size_msg) ?_))
      refine (HS6.out w6 (Below.refl _ _)).mono ?_
      rintro e w7 ⟨rfl, hb7⟩
      have HB7 := Lib.hid hb7
      have HK7 := Lib.hid (HK6.out.below hb7 (by omega))
      have HL7 := Lib.hid (HL6.out.below hb7 (by omega))
      clear hb7 HS6
      go_wp2_with (first | (refine wpList_load_row_g (by rfl) 30 (.tmp 1) rfl w.heap.size (by rfl) 30 ms (0, 0) _ HK7.out Tryd.underlying30 rfl (by rw [HM7.out]; exact size_msg) ?_) | (refine wpList_load_row_g (by rfl) 30 (.tmp 8) rfl w5.heap.size (by rfl) 30 mt (0, 0) _ HL7.out Tryd.underlying30 rfl (by rw [HMT7.out]; exact size_msg) ?_))
      refine (HR6.out w7 HB7.out).mono ?_
      rintro e w8 ⟨rfl, hb8⟩
      have HB8 := Lib.hid (HB6.out.trans ((HB7.out.trans (hb8.mono HB7.out.size)).mono HB6.out.size))
      have HND := Lib.hid (fun W => named_any ⟨cmd.toArray⟩ W (by rw [size_of8]; have := (named_len HNM.out).2.1; omega))
      rw [data_of8, HNM.out] at HND
      clear hb8 HR6
      have hle : (body.length : Int) ≤ 2048 := by have := HLN.out; omega
      go_wp2_with fail
      refine (HND.out w8).mono ?_
      rintro e w9 ⟨rfl, hb9⟩
      have HB9 := Lib.hid (HB8.out.trans (hb9.mono HB8.out.size))
      clear hb9 HND
      go_wp2_with fail
      go_ret
      exact ⟨rfl, HB9.out⟩
    · obtain ⟨rfl, rfl⟩ := put_err HPE.out he
      have e1 : (er != 0) = true := by rw [bne_iff_ne]; exact he
      have HNO4 := Lib.hid (HNO.out w4 HB4.out [] [] er HPE.out he)
      clear he HNO
      go_wp2_with (refine wpList_load_row rfl 30 (.tmp 1) rfl w.heap.size (by rfl) 30 ms (0, 0) _ HK4.out Tryd.underlying30 rfl (by rw [HM7.out]; exact size_msg) ?_)
      refine HNO4.out.mono ?_
      rintro e w5 ⟨rfl, hb5⟩
      have HB5 := Lib.hid (HB4.out.trans (hb5.mono HB4.out.size))
      clear hb5 HNO4
      go_wp2_with fail
      go_ret
      exact ⟨rfl, HB5.out⟩
end Go.Proofs.YtanjlgkbjcienaaDoor.M8
