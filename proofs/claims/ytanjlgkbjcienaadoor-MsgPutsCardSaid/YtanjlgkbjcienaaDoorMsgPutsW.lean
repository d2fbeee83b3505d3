/- MsgPutsW, merged: MsgRFrame, MsgPuts. -/
import Derived.Test.YtanjlgkbjcienaaDoorMsgRU
import Derived.Test.YtanjlgkbjcienaaDoorRefFive
import Derived.BigRegion
/- The document's Put of any message, its Frame; the lanes. -/
namespace Go.Proofs.YtanjlgkbjcienaaDoor.M8
open Go.RowKit Go.Deep T7
set_option linter.unusedVariables false
set_option linter.unusedSimpArgs false
set_option maxRecDepth 100000
attribute [local go_sem ↓] Go.wp_at_zero Go.wp_at_succ

theorem name_no (k : Int) (hk : Msgs.known k = false) (w : World) : Calls Tryd.prog 33 #[.int .i64 k] w fun e w' => e = .returned (.string ⟨#[]⟩) ∧ w = w' := by
  have h' : ¬ (1 ≤ k ∧ k ≤ 11) := by simpa [Msgs.known] using hk
  have e1 : (k == 1) = false := by rw [beq_eq_false_iff_ne]; omega
  have e2 : (k == 2) = false := by rw [beq_eq_false_iff_ne]; omega
  have e3 : (k == 3) = false := by rw [beq_eq_false_iff_ne]; omega
  have e4 : (k == 4) = false := by rw [beq_eq_false_iff_ne]; omega
  have e5 : (k == 5) = false := by rw [beq_eq_false_iff_ne]; omega
  have e6 : (k == 6) = false := by rw [beq_eq_false_iff_ne]; omega
  have e7 : (k == 7) = false := by rw [beq_eq_false_iff_ne]; omega
  have e8 : (k == 8) = false := by rw [beq_eq_false_iff_ne]; omega
  have e9 : (k == 9) = false := by rw [beq_eq_false_iff_ne]; omega
  have e10 : (k == 10) = false := by rw [beq_eq_false_iff_ne]; omega
  have e11 : (k == 11) = false := by rw [beq_eq_false_iff_ne]; omega
  clear hk h'
  go_enter Tryd.func33, Tryd.ntmps33
  go_wp2_with fail
  go_ret
  exact ⟨rfl, rfl⟩
set_option maxHeartbeats 4000000 in
theorem rput8_no (m : Msgs.Msg) (A A1 A2 : Option Addr) (c c1 c2 : Nat) (w : World) (hk : Msgs.known m.kind = false) :
    Calls Tryd.prog 14 #[msgV m A c A1 c1 A2 c2] w fun e w' => PutOut w w' (Msgs.put m) e := by
  have HP := Lib.hid (show Msgs.put m = ([], [], 2) by simp [Msgs.put, Msgs.errOf, hk])
  have HN := Lib.hid (fun W => name_no m.kind hk W)
  obtain ⟨w1, ms, hms, hv, hms7, hw1, hb1, hz1, hk1⟩ := msg_box w m A A1 A2 c c1 c2
  have HB1 := Lib.hid hb1
  have m0 : w1.cell? ⟨w.heap.size, 0, none⟩ = some (.int .i64 m.kind) := by rw [hk1.cell, hms]; rfl
  rw [hv]
  clear hms hms7 hb1 hk1 hz1 hv hk
  go_enter Tryd.func14, Tryd.ntmps14
  go_upto_region 1 with (fail)
  rw [← hw1]
  clear hw1
  go_wp2_with fail
  refine (HN.out w1).mono ?_
  rintro e wq ⟨rfl, rfl⟩
  go_wp2_with fail
  go_ret3
  rw [HP.out]
  exact ⟨.slice none 0 0, rfl, own_nil _ _, HB1.out⟩
theorem rput8_any (m : Msgs.Msg) (A A1 A2 : Option Addr) (c c1 c2 B : Nat) (w : World) (h : MsgAt w B m A c A1 c1 A2 c2) (hB : B ≤ w.heap.size) :
    Calls Tryd.prog 14 #[msgV m A c A1 c1 A2 c2] w fun e w' => PutOut w w' (Msgs.put m) e := by
  cases hk : Msgs.known m.kind
  · exact rput8_no m A A1 A2 c c1 c2 w hk
  · obtain ⟨k, mn, mc, ids, t⟩ := m
    rcases Msgs.known_cases hk with e | e | e | e | e | e | e | e | e | e | e
    all_goals
      have e' : k = _ := e
      subst e'
      clear hk e
    · exact rput8_1 mn mc ids t A A1 A2 c c1 c2 B w h hB
    · exact rput8_2 mn mc ids t A A1 A2 c c1 c2 B w h hB
    · exact rput8_3 mn mc ids t A A1 A2 c c1 c2 B w h hB
    · exact rput8_4 mn mc ids t A A1 A2 c c1 c2 B w h hB
    · exact rput8_5 mn mc ids t A A1 A2 c c1 c2 B w h hB
    · exact rput8_6 mn mc ids t A A1 A2 c c1 c2 B w h hB
    · exact rput8_7 mn mc ids t A A1 A2 c c1 c2 B w h hB
    · exact rput8_8 mn mc ids t A A1 A2 c c1 c2 B w h hB
    · exact rput8_9 mn mc ids t A A1 A2 c c1 c2 B w h hB
    · exact rput8_10 mn mc ids t A A1 A2 c c1 c2 B w h hB
    · exact rput8_11 mn mc ids t A A1 A2 c c1 c2 B w h hB
set_option maxHeartbeats 4000000 in
theorem rframe8_no (m : Msgs.Msg) (A A1 A2 : Option Addr) (c c1 c2 B : Nat) (w : World) (h : MsgAt w B m A c A1 c1 A2 c2) (hB : B ≤ w.heap.size) (cmd body : List UInt8) (er : Int) (hx : Msgs.put m = (cmd, body, er)) (he : er ≠ 0) :
    Calls Tryd.prog 15 #[msgV m A c A1 c1 A2 c2] w fun e w' => e = .returned (.tuple #[.slice none 0 0, .int .i64 er]) ∧ Below w.heap.size w w' := by
  have HP := Lib.hid (fun W (hb : Below w.heap.size w W) => rput8_any m A A1 A2 c c1 c2 B W (h.below (hb.mono hB)) (Nat.le_trans hB hb.size))
  obtain ⟨w1, ms, hms, hv, hms7, hw1, hb1, hz1, hk1⟩ := msg_box w m A A1 A2 c c1 c2
  have HB1 := Lib.hid hb1
  have HK1 := Lib.hid hk1
  have HM7 := Lib.hid hms7
  rw [hv, hx] at HP
  rw [hv]
  have e1 : (er != 0) = true := by rw [bne_iff_ne]; exact he
  clear hb1 hk1 hms7 hms hv h hx he hz1
  go_enter Tryd.func15, Tryd.ntmps15
  go_upto_region 1 with (fail)
  rw [← hw1]
  clear hw1
  go_wp2_with (refine wpList_load_row rfl 30 (.tmp 1) rfl w.heap.size (by rfl) 30 ms (0, 0) _ HK1.out Tryd.underlying30 rfl (by rw [HM7.out]; exact size_msg) ?_)
  refine (HP.out w1 HB1.out).mono ?_
  rintro e w2 ⟨v2, rfl, ho2, hb2⟩
  simp only at ho2 ⊢
  have HB2 := Lib.hid (HB1.out.trans (hb2.mono HB1.out.size))
  clear hb2 HP
  go_wp2_with fail
  go_ret2
  exact ⟨rfl, HB2.out⟩
set_option maxHeartbeats 4000000 in
theorem rframe8_yes (m : Msgs.Msg) (A A1 A2 : Option Addr) (c c1 c2 B : Nat) (w : World) (h : MsgAt w B m A c A1 c1 A2 c2) (hB : B ≤ w.heap.size) (cmd body : List UInt8) (hx : Msgs.put m = (cmd, body, 0)) :
    Calls Tryd.prog 15 #[msgV m A c A1 c1 A2 c2] w fun e w' => ∃ v, e = .returned (.tuple #[v, .int .i64 0]) ∧ OwnB w' w.heap.size v (Frm.put cmd body) ∧ Below w.heap.size w w' := by
  have HP := Lib.hid (fun W (hb : Below w.heap.size w W) => rput8_any m A A1 A2 c c1 c2 B W (h.below (hb.mono hB)) (Nat.le_trans hB hb.size))
  have HN := Lib.hid (put_named hx)
  have HL := Lib.hid (put_len8 h.ok hx)
  obtain ⟨w1, ms, hms, hv, hms7, hw1, hb1, hz1, hk1⟩ := msg_box w m A A1 A2 c c1 c2
  have HB1 := Lib.hid hb1
  have HK1 := Lib.hid hk1
  have HM7 := Lib.hid hms7
  rw [hv, hx] at HP
  rw [hv]
  clear hb1 hk1 hms7 hms hv h hx  hz1
  go_enter Tryd.func15, Tryd.ntmps15
  go_upto_region 1 with (fail)
  rw [← hw1]
  clear hw1
  go_wp2_with (refine wpList_load_row rfl 30 (.tmp 1) rfl w.heap.size (by rfl) 30 ms (0, 0) _ HK1.out Tryd.underlying30 rfl (by rw [HM7.out]; exact size_msg) ?_)
  refine (HP.out w1 HB1.out).mono ?_
  rintro e w2 ⟨v2, rfl, ho2, hb2⟩
  simp only at ho2 ⊢
  have HB2 := Lib.hid (HB1.out.trans (hb2.mono HB1.out.size))
  clear hb2 HP
  obtain ⟨A2', c2', rfl, hc2, hm2, hat2, _⟩ := ho2.at_
  have HPUT := Lib.hid (rfput_yes ⟨cmd.toArray⟩ A2' c2' w2.heap.size body w2 (by rw [size_of8]; have := (named_len HN.out).2.1; omega) (by rw [data_of8]; exact HN.out) (by have := HL.out; omega) hat2 (Nat.le_refl _) hc2 hm2)
  rw [data_of8] at HPUT
  clear ho2 hc2 hm2 hat2
  go_wp2_with fail
  refine HPUT.out.mono ?_
  rintro e w3 ⟨v3, rfl, ho3, hb3⟩
  have HO3 := Lib.hid (own_mono ho3 HB2.out.size)
  have HB3 := Lib.hid (HB2.out.trans (hb3.mono HB2.out.size))
  clear ho3 hb3 HPUT
  go_wp2_with fail
  go_ret2
  exact ⟨v3, rfl, HO3.out, HB3.out⟩
theorem lane_any (k : Int) (w : World) : Calls Tryd.prog 17 #[.int .i64 k] w fun e w' => e = .returned (.int .i64 (if k = 9 then 1 else 0)) ∧ w = w' := by
  by_cases h : k = 9
  · rw [if_pos h]
    have e : (k == 9) = true := by rw [beq_iff_eq]; exact h
    clear h
    go_enter Tryd.func17, Tryd.ntmps17
    go_wp2_with fail
    go_ret
    exact ⟨rfl, rfl⟩
  · rw [if_neg h]
    have e : (k == 9) = false := by rw [beq_eq_false_iff_ne]; exact h
    clear h
    go_enter Tryd.func17, Tryd.ntmps17
    go_wp2_with fail
    go_ret
    exact ⟨rfl, rfl⟩
theorem rlane_any (k : Int) (w : World) : Calls Tryd.prog 18 #[.int .i64 k] w fun e w' => e = .returned (.int .i64 (if k = 9 then 1 else 0)) ∧ w = w' := by
  by_cases h : k = 9
  · rw [if_pos h]
    have e : (k == 9) = true := by rw [beq_iff_eq]; exact h
    clear h
    go_enter Tryd.func18, Tryd.ntmps18
    go_wp2_with fail
    go_ret
    exact ⟨rfl, rfl⟩
  · rw [if_neg h]
    have e : (k == 9) = false := by rw [beq_eq_false_iff_ne]; exact h
    clear h
    go_enter Tryd.func18, Tryd.ntmps18
    go_wp2_with fail
    go_ret
    exact ⟨rfl, rfl⟩
end Go.Proofs.YtanjlgkbjcienaaDoor.M8
/- What the program makes of a message is what the document says. -/
namespace Go.Proofs.YtanjlgkbjcienaaDoor.M8
open Go.RowKit Go.Deep T7
set_option linter.unusedVariables false
set_option linter.unusedSimpArgs false
set_option maxRecDepth 100000
attribute [local go_sem ↓] Go.wp_at_zero Go.wp_at_succ

theorem mframe_any8 (m : Msgs.Msg) (A A1 A2 : Option Addr) (c c1 c2 B : Nat) (w : World) (h : MsgAt w B m A c A1 c1 A2 c2) (hB : B ≤ w.heap.size) (cmd body : List UInt8) (er : Int) (fb : List UInt8) (hx : Msgs.put m = (cmd, body, er)) (h1 : er = 0 → fb = Frm.put cmd body) (h2 : er ≠ 0 → fb = []) (hlay : Laid w) :
    Calls Tryd.prog 9 #[msgV m A c A1 c1 A2 c2] w fun e w' => ∃ v, e = .returned (.tuple #[v, .int .i64 er]) ∧ OwnB w' w.heap.size v fb ∧ Below w.heap.size w w' := by
  by_cases he : er = 0
  · subst he
    rw [h1 rfl]
    exact mframe_yes m A A1 A2 c c1 c2 B w h hB cmd body hx hlay
  · rw [h2 he]
    exact (mframe_no m A A1 A2 c c1 c2 B w h hB cmd body er hx he).mono fun e w' ⟨hr, hb⟩ => ⟨_, hr, own_nil _ _, hb⟩
theorem rframe_any8 (m : Msgs.Msg) (A A1 A2 : Option Addr) (c c1 c2 B : Nat) (w : World) (h : MsgAt w B m A c A1 c1 A2 c2) (hB : B ≤ w.heap.size) (cmd body : List UInt8) (er : Int) (fb : List UInt8) (hx : Msgs.put m = (cmd, body, er)) (h1 : er = 0 → fb = Frm.put cmd body) (h2 : er ≠ 0 → fb = []) :
    Calls Tryd.prog 15 #[msgV m A c A1 c1 A2 c2] w fun e w' => ∃ v, e = .returned (.tuple #[v, .int .i64 er]) ∧ OwnB w' w.heap.size v fb ∧ Below w.heap.size w w' := by
  by_cases he : er = 0
  · subst he
    rw [h1 rfl]
    exact rframe8_yes m A A1 A2 c c1 c2 B w h hB cmd body hx
  · rw [h2 he]
    exact (rframe8_no m A A1 A2 c c1 c2 B w h hB cmd body er hx he).mono fun e w' ⟨hr, hb⟩ => ⟨_, hr, own_nil _ _, hb⟩
/-- what lies still while the last statement is walked -/
structure PB (g : Nat) (k : Int) (wz w : World) : Prop where
  below : Below wz.heap.size wz w
  cell : w.cell? ⟨g, 0, none⟩ = some (.int .i64 k)
  lt : g < wz.heap.size
theorem PB.keep {g : Nat} {k : Int} {wz w w' : World} (h : PB g k wz w) (hb : Below w.heap.size w w') : PB g k wz w' :=
  ⟨h.below.trans (hb.mono h.below.size), (hb.cell (p := ⟨g, 0, none⟩) (Nat.lt_of_lt_of_le h.lt h.below.size)).trans h.cell, h.lt⟩
def PBc (g : Nat) (k : Int) (wz w : World) : Prop := PB g k wz w
theorem keep2 {g : Nat} {k : Int} {wz w w' : World} (h : PB g k wz w ∧ w.cell? ⟨g, 0, none⟩ = some (.int .i64 k)) (hb : Below w.heap.size w w') : PB g k wz w' ∧ w'.cell? ⟨g, 0, none⟩ = some (.int .i64 k) := ⟨h.1.keep hb, (h.1.keep hb).cell⟩
theorem PB.drew {g : Nat} {k : Int} {wz w : World} (h : PB g k wz w) : PB g k wz w.drew := ⟨h.below.drew, h.cell, h.lt⟩
set_option maxHeartbeats 8000000 in
theorem msgPuts_walk (w : World) (hlay : Laid w) (m : Msgs.Msg) (A : Option Addr) (c : Nat) (A1 : Option Addr) (c1 : Nat) (A2 : Option Addr) (c2 : Nat) (h : MsgAt w w.heap.size m A c A1 c1 A2 c2) :
    Calls Tryd.prog 4 #[msgV m A c A1 c1 A2 c2] w fun e w' => e = .returned (.bool true) ∧ Below w.heap.size w w' := by
  obtain ⟨cmd, hcmd⟩ : ∃ cmd, cmd = (Msgs.put m).1 := ⟨_, rfl⟩
  obtain ⟨body, hbody⟩ : ∃ body, body = (Msgs.put m).2.1 := ⟨_, rfl⟩
  obtain ⟨er, her⟩ : ∃ er, er = (Msgs.put m).2.2 := ⟨_, rfl⟩
  have hp : Msgs.put m = (cmd, body, er) := by rw [hcmd, hbody, her]
  obtain ⟨fb, hfb⟩ : ∃ fb, fb = if er = 0 then Frm.put cmd body else [] := ⟨_, rfl⟩
  have hf1 : er = 0 → fb = Frm.put cmd body := fun e => by rw [hfb, if_pos e]
  have hf2 : er ≠ 0 → fb = [] := fun e => by rw [hfb, if_neg e]
  have HLAY := Lib.hid hlay
  have HMF := Lib.hid (fun W (hb : Below w.heap.size w W) => mframe_any8 m A A1 A2 c c1 c2 w.heap.size W (h.below hb) hb.size cmd body er fb hp hf1 hf2 (hlay.below hb))
  have HRF := Lib.hid (fun W (hb : Below w.heap.size w W) => rframe_any8 m A A1 A2 c c1 c2 w.heap.size W (h.below hb) hb.size cmd body er fb hp hf1 hf2)
  have HRP := Lib.hid (fun W (hb : Below w.heap.size w W) => rput8_any m A A1 A2 c c1 c2 w.heap.size W (h.below hb) hb.size)
  have HFL := Lib.hid (show fb.length ≤ 2048 by
    by_cases he : er = 0
    · have hn := put_named (show Msgs.put m = (cmd, body, 0) by rw [hp, he])
      have hl := put_len8 h.ok (show Msgs.put m = (cmd, body, 0) by rw [hp, he])
      rw [hf1 he]
      have : (Frm.put cmd body).length = 24 + body.length := by
        obtain ⟨_, h12, _⟩ := named_len hn
        unfold Frm.put; simp only [List.length_append, List.length_replicate, Oct.le_length]; show 4 + _ + _ + 4 + 4 + _ = _; omega
      omega
    · rw [hf2 he]; simp)
  have HBL := Lib.hid (show body.length ≤ 2048 by
    by_cases he : er = 0
    · have hl := put_len8 h.ok (show Msgs.put m = (cmd, body, 0) by rw [hp, he])
      omega
    · rw [(put_err hp he).2]; simp)
  rw [hp] at HRP
  have HPE := Lib.hid hp
  clear hcmd hbody her hp hlay hfb hf1 hf2
  obtain ⟨w1, ms, hms, hv, hms7, hw1, hb1, hz1, hk1⟩ := msg_box w m A A1 A2 c c1 c2
  have HB1 := Lib.hid hb1
  have HZ1 := Lib.hid hz1
  have HK1 := Lib.hid hk1
  have HM7 := Lib.hid hms7
  have HMS := Lib.hid hms
  have HV := Lib.hid hv
  have HT := Lib.hid h
  have HGR := Lib.hid (fun W (hb : Below w.heap.size w W) => great_any m A A1 A2 c c1 c2 _ W (h.below hb) hb.size)
  have HPU := Lib.hid (fun W (hb : Below w.heap.size w W) => mput_any m A A1 A2 c c1 c2 _ W (h.below hb) hb.size)
  have HOK := Lib.hid h.ok
  rw [hv] at HGR HPU ⊢
  rw [hv] at HMF HRF HRP
  rw [HPE.out] at HPU
  clear hb1 hz1 hk1 hms7 hms hv h
  go_enter Tryd.func4, Tryd.ntmps4
  go_upto_region 1 with (fail)
  rw [← hw1]
  clear hw1
  go_wp2_with fail
  refine (alive_any w1).mono ?_
  rintro e w2 ⟨rfl, hb2⟩
  have HB2 := Lib.hid (HB1.out.trans (hb2.mono HB1.out.size))
  have HK2 := Lib.hid (HK1.out.below hb2 HK1.out.lt)
  have hz2 : w.heap.size + 1 ≤ w2.heap.size := by rw [← HZ1.out]; exact hb2.size
  clear hb2
  go_wp2_with (refine wpList_load_row rfl 30 (.tmp 1) rfl w.heap.size (by rfl) 30 ms (0, 0) _ HK2.out Tryd.underlying30 rfl (by rw [HM7.out]; exact size_msg) ?_)
  refine (HGR.out w2 HB2.out).mono ?_
  rintro e w3 ⟨⟨v3, rfl⟩, hb3⟩
  have HB3 := Lib.hid (HB2.out.trans (hb3.mono HB2.out.size))
  have HK3 := Lib.hid (HK2.out.below hb3 (by omega))
  have hz3 : w.heap.size + 1 ≤ w3.heap.size := by have := hb3.size; omega
  clear hb3 HGR
  cases v3 with
  | true =>
    go_wp2_with fail
    go_ret
    exact ⟨rfl, HB3.out⟩
  | false =>
    go_wp2_with (refine wpList_load_row rfl 30 (.tmp 1) rfl w.heap.size (by rfl) 30 ms (0, 0) _ HK3.out Tryd.underlying30 rfl (by rw [HM7.out]; exact size_msg) ?_)
    refine (HPU.out w3 HB3.out).mono ?_
    rintro e w4 ⟨vb, rfl, ho, hb⟩
    simp only at ho ⊢
    obtain ⟨Ab, cb, rfl, -, -, hat, -⟩ := ho.at_
    have HAb := Lib.hid hat
    have HB4 := Lib.hid (HB3.out.trans (hb.mono HB3.out.size))
    have HK4 := Lib.hid (HK3.out.below hb (by omega))
    have hz4 : w.heap.size + 1 ≤ w4.heap.size := by have := hb.size; omega
    have HC4 := Lib.hid hb
    have hs4 := hb.size
    clear hb ho hat HPU
    go_wp2_with (refine wpList_load_row rfl 30 (.tmp 1) rfl w.heap.size (by rfl) 30 ms (0, 0) _ HK4.out Tryd.underlying30 rfl (by rw [HM7.out]; exact size_msg) ?_)
    refine (HRP.out w4 HB4.out).mono ?_
    rintro e w5 ⟨vx, rfl, ho, hb⟩
    simp only at ho ⊢
    obtain ⟨Ax, cx, rfl, -, -, hat, -⟩ := ho.at_
    have HAx := Lib.hid hat
    have HB5 := Lib.hid (HB4.out.trans (hb.mono HB4.out.size))
    have HK5 := Lib.hid (HK4.out.below hb (by omega))
    have hz5 : w.heap.size + 1 ≤ w5.heap.size := by have := hb.size; omega
    have HC5 := Lib.hid hb
    have hs5 := hb.size
    clear hb ho hat HRP
    go_wp2_with (refine wpList_load_row rfl 30 (.tmp 1) rfl w.heap.size (by rfl) 30 ms (0, 0) _ HK5.out Tryd.underlying30 rfl (by rw [HM7.out]; exact size_msg) ?_)
    refine (HMF.out w5 HB5.out).mono ?_
    rintro e w6 ⟨vy, rfl, ho, hb⟩
    obtain ⟨Ay, cy, rfl, -, -, hat, -⟩ := ho.at_
    have HAy := Lib.hid hat
    have HB6 := Lib.hid (HB5.out.trans (hb.mono HB5.out.size))
    have HK6 := Lib.hid (HK5.out.below hb (by omega))
    have hz6 : w.heap.size + 1 ≤ w6.heap.size := by have := hb.size; omega
    have HC6 := Lib.hid hb
    have hs6 := hb.size
    clear hb ho hat HMF
    go_wp2_with (refine wpList_load_row rfl 30 (.tmp 1) rfl w.heap.size (by rfl) 30 ms (0, 0) _ HK6.out Tryd.underlying30 rfl (by rw [HM7.out]; exact size_msg) ?_)
    refine (HRF.out w6 HB6.out).mono ?_
    rintro e w7 ⟨vz, rfl, ho, hb⟩
    obtain ⟨Az, cz, rfl, -, -, hat, -⟩ := ho.at_
    have HAz := Lib.hid hat
    have HB7 := Lib.hid (HB6.out.trans (hb.mono HB6.out.size))
    have HK7 := Lib.hid (HK6.out.below hb (by omega))
    have hz7 : w.heap.size + 1 ≤ w7.heap.size := by have := hb.size; omega
    have HC7 := Lib.hid hb
    have hs7 := hb.size
    clear hb ho hat HRF
    have hPB : PB w.heap.size m.kind w7 w7 := ⟨Below.refl _ _, by rw [HK7.out.cell, HMS.out]; rfl, by omega⟩
    have b5 := HC5.out
    have b6 := HC6.out
    have b7 := HC7.out
    have q4 : Below w4.heap.size w4 w7 := b5.trans ((b6.trans (b7.mono b6.size)).mono b5.size)
    have q5 : Below w5.heap.size w5 w7 := b6.trans (b7.mono b6.size)
    have HAB := Lib.hid (At.below HAb.out q4)
    have HAX := Lib.hid (At.below HAx.out q5)
    have HAY := Lib.hid (At.below HAy.out b7)
    have HAZ := HAz
    have HSB := Lib.hid (fun W (p : PB w.heap.size m.kind w7 W) => same_yes Ab Ax body.length body.length cb cx body W _ _ rfl rfl (by have := HBL.out; omega) (At.below HAB.out (p.below.mono q4.size)) (At.below HAX.out (p.below.mono q5.size)))
    have HSF := Lib.hid (fun W (p : PB w.heap.size m.kind w7 W) => same_yes Ay Az fb.length fb.length cy cz fb W _ _ rfl rfl (by have := HFL.out; omega) (At.below HAY.out (p.below.mono b7.size)) (At.below HAZ.out p.below))
    obtain ⟨str, hstr⟩ : ∃ str, str = (⟨cmd.toArray⟩ : ByteArray) := ⟨_, rfl⟩
    rw [← hstr]
    have hbe : (str.toList == str.toList) = true := beq_self_eq_true _
    have hee : (er == er) = true := beq_self_eq_true _
    have hLL : ((if m.kind = 9 then (1 : Int) else 0) == (if m.kind = 9 then (1 : Int) else 0)) = true := beq_self_eq_true _
    generalize hL : (if m.kind = 9 then (1 : Int) else 0) = L at hLL
    have HL1 := Lib.hid (fun W => lane_any m.kind W)
    have HL2 := Lib.hid (fun W => rlane_any m.kind W)
    rw [hL] at HL1 HL2
    have HB7' := HB7
    clear hstr hL b5 b6 b7 q4 q5 HAB HAX HAY HAZ HAb HAx HAy HAz HC4 HC5 HC6 HC7 HK3 HK4 HK5 HK6 HK7 HB3 HB4 HB5 HB6 hs4 hs5 hs6 hs7
    clear HPE HOK HT HV HM7 HMS HLAY HFL HBL HZ1 HK1 HB1 HB2 HK2
    go_upto_region 9 with (fail)
    go_region_held3 (fun w' => PB w.heap.size m.kind w7 w' ∧ w'.cell? ⟨w.heap.size, 0, none⟩ = some (.int .i64 m.kind))
      (first | exact ⟨hPB, hPB.cell⟩ | exact ⟨hPB.drew, hPB.drew.cell⟩ | assumption | exact keep2 (by assumption) (by assumption))
      (first
        | (go_at_call 16; (with_reducible refine (HSB.out _ (by first | assumption | exact hPB.drew | exact And.left (by assumption) | exact PB.keep (by assumption) (by assumption))).mono ?_); rintro e w8 ⟨rfl, hb8⟩)
        | (go_at_call 16; (with_reducible refine (HSF.out _ (by first | assumption | exact hPB.drew | exact And.left (by assumption) | exact PB.keep (by assumption) (by assumption))).mono ?_); rintro e w9 ⟨rfl, hb9⟩)
        | (go_at_call 17; refine (HL1.out _).mono ?_; rintro e wq ⟨rfl, rfl⟩)
        | (go_at_call 18; refine (HL2.out _).mono ?_; rintro e wq ⟨rfl, rfl⟩))
    go_wp2_with fail
    go_ret
    refine ⟨rfl, HB7'.out.trans (Below.mono (PB.below (g := w.heap.size) (k := m.kind) ?_) HB7'.out.size)⟩
    first | assumption | exact And.left (by assumption) | exact PB.keep (by assumption) (by assumption) | exact (keep2 (by assumption) (by assumption)).1
end Go.Proofs.YtanjlgkbjcienaaDoor.M8
