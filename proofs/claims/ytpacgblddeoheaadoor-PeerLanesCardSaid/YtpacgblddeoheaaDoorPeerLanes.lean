/- PeerLanes: the walk. -/
import Derived.Test.YtpacgblddeoheaaDoorPrRows
namespace Go.Proofs.YtpacgblddeoheaaDoor.P22
open Go.RowKit Go.Deep M8 T7
set_option linter.unusedVariables false
set_option linter.unusedSimpArgs false
set_option maxRecDepth 100000
set_option maxHeartbeats 4000000
attribute [local go_sem ↓] Go.wp_at_zero Go.wp_at_succ

theorem ping_put (n : Nat) : ∃ c b, Msgs.put ⟨3, n, 0, [], Txs.none⟩ = (c, b, 0) := by
  have h : Msgs.errOf ⟨3, n, 0, [], Txs.none⟩ = 0 := by simp [Msgs.errOf, Msgs.known, Msgs.misfit, Msgs.shp, Msgs.shN]
  refine ⟨(Msgs.shp 3).cmd, Msgs.body ⟨3, n, 0, [], Txs.none⟩, ?_⟩
  unfold Msgs.put
  rw [h]
  rfl
theorem feed_two {c b c2 b2 : List UInt8} (h : Frm.named c = true) (hb : b.length ≤ 2048) (h2 : Frm.named c2 = true) (hb2 : b2.length ≤ 2048) : Flo.feed ([], false) (Frm.put c b ++ Frm.put c2 b2) = ([⟨c, b, 0⟩, ⟨c2, b2, 0⟩], ([], false)) := by
  have e : Flo.run (Frm.put c2 b2) = ([⟨c2, b2, 0⟩], ([], false)) := by
    have := Flo.run_put h2 hb2 []
    rw [List.append_nil] at this
    rw [this, Flo.run_short (x := []) (by decide)]
  unfold Flo.feed
  simp only [Bool.false_eq_true, if_false, List.nil_append]
  rw [Flo.run_put h hb, e]
theorem came_put {m : Msgs.Msg} (hk : m.Ok) {c b : List UInt8} (h : Msgs.put m = (c, b, 0)) (k : Int) : came k ⟨c, b, 0⟩ = if laneOf m.kind ≠ k then ⟨Msgs.none, 21⟩ else ⟨m, 0⟩ := by
  unfold came
  rw [Msgs.get_put hk h]
  simp
section
variable {P : Program} {ops : Array Oper}
theorem wpList_buildNone {rest : List Oper} {o : Oper} {a : Go.Act} {w : World} {Q : Exit → Go.Act → World → Prop} (hg : o.guard = none) (t e : TypeId) (ho : o.op = .buildSlice t 0 #[])
    (hu : P.underlying t = some (.slice e)) (hi : (P.info? e).isSome = true) (h : wpList P ops Q rest (a.put o.dst (.slice (some ⟨w.heap.size, 0, none⟩) 0 0)) (w.alloc (.cells #[] e))) : wpList P ops Q (o :: rest) a w :=
  wpList_plain hg fun _ hK => by
    obtain ⟨ie, hie⟩ := Option.isSome_iff_exists.1 hi
    have hr : (Instr.buildSlice t 0 #[]).run P w = .ok (.slice (some ⟨w.heap.size, 0, none⟩) 0 0) (w.alloc (.cells #[] e)) := by
      have h0 : Array.map (fun _ : Nat => (default : Value)) (Array.range 0) = #[] := Array.eq_empty_of_size_eq_zero (by simp)
      simp [Instr.buildSlice, run_underlying hu, sizeOf, typeInfo, hie, Instr.fill, newRow, h0]
    unfold Oper.wp execOp
    simp only [ho, Sem.run_bind, List.map_toArray, List.map_nil, hr, Result.andThen_ok]
    exact hK _ _ h
end
theorem own_none22 (w : World) (q base : Nat) (T : TypeId) (h : Bk w q T #[]) (hb : base ≤ q) (size : Nat) : w.ownsRow base T size (.slice (some ⟨q, 0, none⟩) 0 0) 0 [] :=
  ⟨by simp, .inr ⟨q, 0, #[], rfl, hb, h, Nat.le_refl _, by simp [maxLen], by simp, by simp⟩⟩
theorem src_mono22 {w W : World} {A : Option Addr} {news : List Value} (h : Src w A news) (hb : Below w.heap.size w W) : Src W A news := fun j u hu => by
  obtain ⟨ad, hA, hc⟩ := h j u hu
  exact ⟨ad, hA, (hb.cell (p := ad.add j) (World.block_lt_of_cell? w _ hc)).trans hc⟩
theorem below_grown22 {w0 w w' : World} {e : TypeId} {size n : Nat} {v : Value} {xs : List Value} (hb : Below w0.heap.size w0 w) (hg : w.grownBy w' v.ownBlock) (h : w.ownsRow w0.heap.size e size v n xs) : Below w0.heap.size w0 w' :=
  Kp.from_elder hb (S := fun i => v.ownBlock = some i) ((Kp.refl _ _).grown hg (fun k hk _ => hk)) (fun i hi e => by have := (own_lt h i e).1; omega)
theorem IsPeer.ptr {F G : Nat} {q : Addr} {w : World} {b : Nat} {d : PeerD} (h : IsPeer (some ⟨F, 0, none⟩, some ⟨G, 0, none⟩, q) w b d) : w.cell? ⟨b, 4, none⟩ = some (.pointer (some ⟨F, 0, none⟩)) ∧ w.cell? ⟨b, 5, none⟩ = some (.pointer (some ⟨G, 0, none⟩)) := by
  obtain ⟨f, g, q, ⟨h1, h2, h3⟩, hb⟩ := h
  simp only at h1 h2
  subst h1 h2
  exact ⟨(hb.cell 4).trans rfl, (hb.cell 5).trans rfl⟩
theorem peerLanes_walk (w : World) (hlay : Laid w) (m : Msgs.Msg) (A : Option Addr) (c : Nat) (A1 : Option Addr) (c1 : Nat) (A2 : Option Addr) (c2 : Nat) (hat : MsgAt w w.heap.size m A c A1 c1 A2 c2) (lane : Bool) (a2 : Int) (w2' : (Lit.int .u64 a2).wf = true) :
    Calls Tryd.prog 6 #[M8.msgV m A c A1 c1 A2 c2, .bool lane, .int .u64 a2] w fun r w' => r = .returned (.bool true) ∧ Below w.heap.size w w' := by
  obtain ⟨hn0, hn1⟩ := wf_u64 w2'
  obtain ⟨n, rfl⟩ := Int.eq_ofNat_of_zero_le hn0
  have HLY := Lib.hid hlay
  have HAT := Lib.hid hat
  have HOK := Lib.hid hat.ok
  obtain ⟨w1, ms, hms, hv, hms7, hw1, hb1, hz1, hk1⟩ := msg_box w m A A1 A2 c c1 c2
  have HB1 := Lib.hid hb1
  have HK1 := Lib.hid hk1
  have HMS := Lib.hid hms7
  have HV := Lib.hid hv
  have HMSE := Lib.hid hms
  have m3 : w1.cell? ⟨w.heap.size, 3, none⟩ = some (.slice A m.ids.length c) := by rw [hk1.cell, hms]; rfl
  have m5 : w1.cell? ⟨w.heap.size, 5, none⟩ = some (.slice A1 m.tx.ins.length c1) := by rw [hk1.cell, hms]; rfl
  have m6 : w1.cell? ⟨w.heap.size, 6, none⟩ = some (.slice A2 m.tx.outs.length c2) := by rw [hk1.cell, hms]; rfl
  have hxw : w.heap.size < w1.heap.size := by omega
  rw [hv]
  clear hlay hat hms hv hms7 hb1 hz1 hk1 w2'
  obtain ⟨n3, hn3⟩ : ∃ n3, n3 = m.ids.length := ⟨_, rfl⟩
  obtain ⟨n5, hn5⟩ : ∃ n5, n5 = m.tx.ins.length := ⟨_, rfl⟩
  obtain ⟨n6, hn6⟩ : ∃ n6, n6 = m.tx.outs.length := ⟨_, rfl⟩
  rw [← hn3] at m3
  rw [← hn5] at m5
  rw [← hn6] at m6
  clear hn3 hn5 hn6
  go_enter Tryd.func6, Tryd.ntmps6
  go_upto_region 1 with (fail)
  rw [← hw1]
  clear hw1
  go_wp2_with fail
  refine (P22.alive_any w1).mono ?_
  rintro e w2 ⟨rfl, hb2⟩
  have HB2 := Lib.hid (HB1.out.trans (hb2.mono HB1.out.size))
  have HK2 := Lib.hid (HK1.out.below hb2 hxw)
  have k3 := (hb2.cell (p := ⟨w.heap.size, 3, none⟩) hxw).trans m3
  have k5 := (hb2.cell (p := ⟨w.heap.size, 5, none⟩) hxw).trans m5
  have k6 := (hb2.cell (p := ⟨w.heap.size, 6, none⟩) hxw).trans m6
  have hx2 : w.heap.size < w2.heap.size := by have := hb2.size; omega
  clear hb2 m3 m5 m6 HK1
  by_cases h1 : 100 < n3
  · have h1' : (100 : Int) < (n3 : Int) := by omega
    go_wp2_with fail
    go_ret
    exact ⟨rfl, HB2.out⟩
  by_cases h2 : 50 < n5
  · have h1' : ¬ (100 : Int) < (n3 : Int) := by omega
    have h2' : (50 : Int) < (n5 : Int) := by omega
    go_wp2_with fail
    go_ret
    exact ⟨rfl, HB2.out⟩
  by_cases h3 : 50 < n6
  · have h1' : ¬ (100 : Int) < (n3 : Int) := by omega
    have h2' : ¬ (50 : Int) < (n5 : Int) := by omega
    have h3' : (50 : Int) < (n6 : Int) := by omega
    go_wp2_with fail
    go_ret
    exact ⟨rfl, HB2.out⟩
  have h1' : ¬ (100 : Int) < (n3 : Int) := by omega
  have h2' : ¬ (50 : Int) < (n5 : Int) := by omega
  have h3' : ¬ (50 : Int) < (n6 : Int) := by omega
  obtain ⟨cmd, body, er, hput⟩ : ∃ cmd body er, Msgs.put m = (cmd, body, er) := ⟨_, _, _, rfl⟩
  obtain ⟨fb, hfb⟩ : ∃ fb, fb = if er = 0 then Frm.put cmd body else [] := ⟨_, rfl⟩
  have HF := Lib.hid (fun W (hW : Below w.heap.size w W) => mframe_any8 m A A1 A2 c c1 c2 w.heap.size W (HAT.out.below hW) hW.size cmd body er fb hput (fun h => by rw [hfb, if_pos h]) (fun h => by rw [hfb, if_neg h]) (HLY.out.below hW))
  rw [HV.out] at HF
  have HPUT := Lib.hid hput
  have HFB := Lib.hid hfb
  clear hput hfb
  go_wp2_with (refine wpList_load_row rfl 51 (.tmp 3) rfl w.heap.size (by rfl) 51 ms (0, 0) _ HK2.out Tryd.underlying51 rfl (by rw [HMS.out]; exact size_msg) ?_)
  all_goals try (exfalso; omega)
  refine (HF.out w2 HB2.out).mono ?_
  rintro e w3 ⟨v3, rfl, ho3, hb3⟩
  have HB3 := Lib.hid (HB2.out.trans (hb3.mono HB2.out.size))
  have HK3 := Lib.hid (HK2.out.below hb3 hx2)
  obtain ⟨Af, cf, hvf, hfc, hfm, _, _⟩ := ho3.at_
  have HO3 := Lib.hid ho3
  have hx3 : w.heap.size < w3.heap.size := by have := hb3.size; omega
  have hs3 := hb3.size
  clear hb3 ho3 k3 k5 k6 HF HK2
  subst hvf
  by_cases her : er = 0
  rotate_left
  · have he' : (er != 0) = true := by rw [bne_iff_ne]; exact her
    clear her
    go_wp2_with fail
    go_ret
    exact ⟨rfl, HB3.out⟩
  subst her
  have HFE := Lib.hid (show fb = Frm.put cmd body by rw [HFB.out, if_pos rfl])
  obtain ⟨cmd2, body2, hput2⟩ := ping_put n
  have HPUT2 := Lib.hid hput2
  have HM2 := Lib.hid (fun (W : World) => show MsgAt W W.heap.size ⟨3, n, 0, [], Txs.none⟩ none 0 none 0 none 0 from ⟨by show _ ≤ (3 : Int); decide, by show (3 : Int) ≤ _; decide, by show n < _; omega, by show (0 : Nat) < _; decide, Nat.le_refl _, by simp [maxLen], fun i hi => by simp at hi, none_tx W _⟩)
  obtain ⟨fb2, hfb2⟩ : ∃ fb2, fb2 = Frm.put cmd2 body2 := ⟨_, rfl⟩
  have HF2 := Lib.hid (fun W (hW : Below w.heap.size w W) => mframe_any8 ⟨3, n, 0, [], Txs.none⟩ none none none 0 0 0 W.heap.size W (HM2.out W) (Nat.le_refl _) cmd2 body2 0 fb2 hput2 (fun _ => hfb2) (fun h => absurd rfl h) (HLY.out.below hW))
  have HFE2 := Lib.hid hfb2
  have HL1 := Lib.hid (put_len8 HOK.out HPUT.out)
  have HL2 := Lib.hid (put_len8 (HM2.out w).ok hput2)
  unfold M8.msgV at HF2
  obtain ⟨k, hk⟩ : ∃ k : Nat, k = if lane then 1 else 0 := ⟨_, rfl⟩
  have HKK := Lib.hid hk
  have hk2 : k < 2 := by rw [hk]; split <;> decide
  clear hput2 hfb2 hk
  cases lane
  · go_wp2_with fail
    refine (HF2.out w3 HB3.out).mono ?_
    rintro e w4 ⟨v4, rfl, ho4, hb4⟩
    obtain ⟨Ag, cg, hvg, hgc, hgm, _, _⟩ := ho4.at_
    have HO4 := Lib.hid ho4
    have HB4 := Lib.hid (HB3.out.trans (hb4.mono HB3.out.size))
    have HK4 := Lib.hid (HK3.out.below hb4 hx3)
    have HO34 := Lib.hid (own_below HO3.out hb4)
    have hs4 := hb4.size
    clear hb4 ho4 HF2 HK3 HO3
    subst hvg
    go_wp2_with fail
    refine (new_any false 0 0 w4).mono ?_
    rintro e w5 ⟨b, F, G, q, rfl, hN⟩
    have HN := Lib.hid hN
    have HB5 := Lib.hid (HB4.out.trans (hN.below.mono HB4.out.size))
    have HK5 := Lib.hid (HK4.out.below hN.below (by omega))
    have HO35 := Lib.hid (own_below HO34.out hN.below)
    have HO45 := Lib.hid (own_below HO4.out hN.below)
    have hs5 := hN.below.size
    have hnb := hN.hb
    have hnn := hN.ne
    have hbl := hN.peer.lt
    clear hN HK4 HO34 HO4
    have HSF := Lib.hid (OwnB.at_ HO35.out)
    have HSG := Lib.hid (OwnB.at_ HO45.out)
    have HSRC1 := Lib.hid (show Src w5 Af (fb.map byteV) by
      obtain ⟨A', c', h1, _, _, h4, _⟩ := HSF.out
      injection h1 with h1 _ _
      rw [h1]; exact BytesAt.src h4)
    have HSRC2 := Lib.hid (show Src w5 Ag (fb2.map byteV) by
      obtain ⟨A', c', h1, _, _, h4, _⟩ := HSG.out
      injection h1 with h1 _ _
      rw [h1]; exact BytesAt.src h4)
    obtain ⟨lf, hlf⟩ : ∃ lf, lf = fb.length := ⟨_, rfl⟩
    obtain ⟨lg, hlg⟩ : ∃ lg, lg = fb2.length := ⟨_, rfl⟩
    rw [← hlf, ← hlg]
    have HLF := Lib.hid hlf
    have HLG := Lib.hid hlg
    have hlf2 : lf ≤ 3000 := by rw [hlf, HFE.out]; rw [Frm.put_len (put_named HPUT.out)]; have := HL1.out; omega
    have hlg2 : lg ≤ 3000 := by rw [hlg, HFE2.out]; rw [Frm.put_len (put_named HPUT2.out)]; have := HL2.out; omega
    obtain ⟨w6, hw6⟩ : ∃ w6, w6 = w5.alloc (.cells #[] 5) := ⟨_, rfl⟩
    obtain ⟨q6, hq6⟩ : ∃ q6, q6 = w5.heap.size := ⟨_, rfl⟩
    have HQ6 := Lib.hid (show Bk w6 q6 5 #[] by rw [hw6, hq6]; exact Bk.new _ _ _)
    have HB56 := Lib.hid (show Below w5.heap.size w5 w6 by rw [hw6]; exact Joins.below_alloc1 _ _)
    have hq65 : w5.heap.size ≤ q6 := by omega
    have HQE := Lib.hid hq6
    have HWE := Lib.hid hw6
    obtain ⟨i0, hi, hz0, hz1', hz2⟩ := info_parts byte_info
    have Hi := Lib.hid hi
    have Hz := Lib.hid hz0
    have Hz1 := Lib.hid hz1'
    have Hz2 := Lib.hid hz2
    have HOE := Lib.hid (own_none22 w6 q6 w5.heap.size 5 HQ6.out hq65 1)
    clear hlf hlg hw6 hq6 hi hz0 hz1' hz2
    go_wp2_with (first
      | (refine wpList_buildNone rfl 22 5 rfl Tryd.underlying22 (by kernel_rfl) ?_; rw [← HWE.out, ← HQE.out])
      | (at_builtin; refine wpList_app _ rfl (.tmp 53) (.tmp 54) _ rfl w5.heap.size 5 i0 _ 1 1 Tryd.underlying22 Hi.out Hz.out Hz1.out Hz2.out rfl (by decide) (.slice (some ⟨q6, 0, none⟩) 0 0) 0 [] (by rfl) HOE.out Af lf cf (fb.map byteV) (by rfl) (by rw [List.length_map, HLF.out, Nat.mul_one]) (src_mono22 HSRC1.out HB56.out) (oneCell_bytes _) (by unfold maxLen; omega) (by omega) HB56.out.size ?_; intro v7 w7 hrow7 hg7 hat7; have HB57 := Lib.hid (below_grown22 HB56.out hg7 HOE.out))
      | (at_builtin; refine wpList_app _ rfl (.tmp 55) (.tmp 56) _ rfl w5.heap.size 5 i0 _ 1 1 Tryd.underlying22 Hi.out Hz.out Hz1.out Hz2.out rfl (by decide) v7 (0 + lf) _ (by rfl) hrow7 Ag lg cg (fb2.map byteV) (by rfl) (by rw [List.length_map, HLG.out, Nat.mul_one]) (src_mono22 HSRC2.out HB57.out) (oneCell_bytes _) (by unfold maxLen; omega) (by omega) HB57.out.size ?_; intro v8 w8 hrow8 hg8 hat8; have HB58 := Lib.hid (below_grown22 HB57.out hg8 hrow7); obtain ⟨A8, c8, rfl, hc8, hm8, _⟩ := own_form hrow8))
    obtain rfl : k = 0 := by rw [HKK.out]; rfl
    have HO8 := Lib.hid (show OwnB w8 w5.heap.size (.slice A8 (lf + lg) c8) (fb ++ fb2) by
      have h := hrow8
      rw [Nat.zero_add] at h
      show w8.ownsRow _ _ _ _ _ _
      rw [List.length_append, ← HLF.out, ← HLG.out, List.map_append]
      simpa using h)
    have hoat8 := OwnB.at_ HO8.out
    have hne8 : ∀ a, A8 = some a → w5.heap.size ≤ a.block := by
      obtain ⟨A', c', h1, _, _, _, h5⟩ := hoat8
      injection h1 with h1 _ _
      intro a ha
      exact (h5 a (by rw [← h1]; exact ha)).1
    have hby8 : BytesAt w8 w8.heap.size A8 (fb ++ fb2) := by
      obtain ⟨A', c', h1, _, _, h4, _⟩ := hoat8
      injection h1 with h1 _ _
      rw [h1]; exact h4
    have hz8 := HB58.out.size
    have hl1 := HLY.out.lc
    have hl2 := HLY.out.lf
    have hlw := HB5.out.size
    rw [Nat.zero_add] at hc8
    have HRD := Lib.hid (show Calls Tryd.prog 10 #[.pointer (some ⟨b, 0, none⟩), .int .i64 0, .slice A8 (lf + lg) c8] w8 (ReadPost w8 F w8.heap.size (.slice none 0 0) 0 (Flo.feed ([], false) (fb ++ fb2))) by
      have h := read_any b 0 F w8.heap.size c8 (by omega) A8 (fb ++ fb2) (.slice none 0 0) ([], false) w8 ((HB58.out.cell (p := ⟨b, 4, none⟩) hbl).trans HN.out.peer.ptr.1) (by omega) (Nat.le_refl _) ((HN.out.fl _).kp (Kp.of_below (S := fun _ => False) HB58.out) (fun h => h) (fun _ _ h => h)) hby8 (fun a ha _ => by have := hne8 a ha; omega) (HLY.out.below (HB5.out.trans (HB58.out.mono hlw))) (by omega) (by omega) (by omega) (by omega) (by rw [List.length_append, ← HLF.out, ← HLG.out]; omega) (by rw [List.length_append, ← HLF.out, ← HLG.out]; exact hc8) hm8
      rw [List.length_append, ← HLF.out, ← HLG.out] at h
      exact h)
    have HFD := Lib.hid (feed_two (put_named HPUT.out) (Nat.le_trans HL1.out (by decide)) (put_named HPUT2.out) (Nat.le_trans HL2.out (by decide)))
    rw [← HFE.out, ← HFE2.out] at HFD
    rw [HFD.out] at HRD
    have HB8 := Lib.hid (HB5.out.trans (HB58.out.mono hlw))
    have HK8 := Lib.hid (HK5.out.below HB58.out (by omega))
    clear hoat8 hne8 hby8 hrow7 hg7 hat7 hrow8 hg8 hat8 HB56 HB57 HOE HQ6 HWE HQE HSF HSG HSRC1 HSRC2 HO35 HO45
    refine HRD.out.mono ?_
    rintro e w9 ⟨rv, v', ps, rfl, g1, g2, g3, g4, g5, g6, g7⟩
    have hlen : ps.length = 2 := by
      have h1 := congrArg List.length g4
      rw [List.length_map] at h1
      simpa using h1
    obtain ⟨p0, p1, rfl⟩ : ∃ p0 p1, ps = [p0, p1] := by
      match ps, hlen with
      | [p0, p1], _ => exact ⟨p0, p1, rfl⟩
    simp only [List.map_cons, List.map_nil, List.cons.injEq, and_true] at g4
    rw [came_put HOK.out HPUT.out, came_put (HM2.out w).ok HPUT2.out] at g4
    obtain ⟨Ar, cr, hrv, _⟩ := own_form (show w9.ownsRow _ _ _ _ _ _ from g3)
    subst hrv
    obtain ⟨_, _, _, hrng⟩ := RowIn.range g3
    obtain ⟨br, rfl, hbr, hr0⟩ := hrng 0 (by simp)
    obtain ⟨br', hbe, _, hr1⟩ := hrng 1 (by simp)
    injection hbe with hbe
    injection hbe with hbe _
    subst hbe
    have hp0 := g5 p0 (by simp)
    obtain ⟨x0, I0, i0', o0⟩ := p0
    obtain ⟨x1, I1, i1', o1⟩ := p1
    simp only [List.getElem_cons_zero, List.getElem_cons_succ, ipCells] at hr0 hr1 g4
    have hq0 : w9.cell? ⟨br, 0, none⟩ = some (.int .i64 x0.msg.kind) := by simpa using hr0 0 _ rfl
    have hq7 : w9.cell? ⟨br, 7, none⟩ = some (.int .i64 x0.err) := by simpa using hr0 7 _ rfl
    have hq9 : w9.cell? ⟨br, 9, none⟩ = some (.int .u64 (x1.msg.n : Int)) := by simpa using hr1 1 _ rfl
    have hq15 : w9.cell? ⟨br, 15, none⟩ = some (.int .i64 x1.err) := by simpa using hr1 7 _ rfl
    have hq1 : w9.cell? ⟨br, 1, none⟩ = some (.int .u64 (x0.msg.n : Int)) := by simpa using hr0 1 _ rfl
    have hq2 : w9.cell? ⟨br, 2, none⟩ = some (.int .u32 (x0.msg.code : Int)) := by simpa using hr0 2 _ rfl
    have hq3 : w9.cell? ⟨br, 3, none⟩ = some I0 := by simpa using hr0 3 _ rfl
    have hq4 : w9.cell? ⟨br, 4, none⟩ = some (.int .u32 (x0.msg.tx.version : Int)) := by simpa using hr0 4 _ rfl
    have hq5 : w9.cell? ⟨br, 5, none⟩ = some i0' := by simpa using hr0 5 _ rfl
    have hq6 : w9.cell? ⟨br, 6, none⟩ = some o0 := by simpa using hr0 6 _ rfl
    have k89 : Kp (fun i => i = F) w8 w9 := g7.mono (fun i _ h => h.elim id (fun h => by cases h))
    have HK9 := Lib.hid (HK8.out.kp k89 (by omega))
    have HB9 := Lib.hid (show Below w.heap.size w w9 from Kp.from_elder HB8.out k89 (fun i hi e => by omega))
    have kk : w9.cell? ⟨w.heap.size, 0, none⟩ = some (.int .i64 m.kind) := (HK9.out.cell 0).trans (by rw [HMSE.out]; rfl)
    have HP0 := Lib.hid hp0
    have HX0 := Lib.hid g4.1
    have HX1 := Lib.hid (show x1 = if laneOf 3 ≠ 0 then ⟨Msgs.none, 21⟩ else ⟨⟨3, n, 0, [], Txs.none⟩, 0⟩ from g4.2)
    clear g1 g2 g3 g4 g5 g6 g7 hrng hr0 hr1 hp0 k89 HRD HFD HO8 HK8 HK5 hlen
    have hx1 : x1 = ⟨⟨3, n, 0, [], Txs.none⟩, 0⟩ := by rw [HX1.out, if_neg (by decide)]
    subst hx1
    clear HX1
    simp only at hq9 hq15
    by_cases h9 : m.kind = 9
    · have hx0 : x0 = ⟨Msgs.none, 21⟩ := by rw [HX0.out, if_pos (by unfold laneOf; rw [if_pos h9]; decide)]
      subst hx0
      simp only [Msgs.none] at hq0 hq7
      have e9 : (m.kind == 9) = true := by rw [beq_iff_eq]; exact h9
      clear HX0 h9 HP0 hq1 hq2 hq3 hq4 hq5 hq6
      go_wp2_with fail
      go_ret
      exact ⟨rfl, HB9.out⟩
    · have hx0 : x0 = ⟨m, 0⟩ := by rw [HX0.out, if_neg (by unfold laneOf; rw [if_neg h9]; decide)]
      subst hx0
      simp only at hq0 hq1 hq2 hq4 hq7
      have e9 : (m.kind == 9) = false := by rw [beq_eq_false_iff_ne]; exact h9
      obtain ⟨A', c', A1', c1', A2', c2', q1, q2, q3, hmat⟩ := HP0.out
      simp only at q1 q2 q3 hmat
      subst q1 q2 q3
      have hmat1 := hmat w9 (Kp.refl _ _)
      have HSM := Lib.hid (fun W (hW : Below w9.heap.size w9 W) => msame_self m A' A1' A2' A A1 A2 c' c1' c2' c c1 c2 w9.heap.size w.heap.size W (hmat1.below hW) (HAT.out.below (HB9.out.trans (hW.mono HB9.out.size))) hW.size (Nat.le_trans HB9.out.size hW.size))
      unfold M8.msgV at HSM
      have z : ∀ r, w9.cell? ⟨w.heap.size, r, none⟩ = ms[r]? := fun r => HK9.out.cell r
      rw [HMSE.out] at z
      obtain ⟨X, hX⟩ : ∃ X, X = w.heap.size := ⟨_, rfl⟩
      rw [← hX] at z kk ⊢
      have z1 : w9.cell? ⟨X, 1, none⟩ = some (.int .u64 (m.n : Int)) := (z 1).trans rfl
      have z2 : w9.cell? ⟨X, 2, none⟩ = some (.int .u32 (m.code : Int)) := (z 2).trans rfl
      have z3 : w9.cell? ⟨X, 3, none⟩ = some (.slice A m.ids.length c) := (z 3).trans rfl
      have z4 : w9.cell? ⟨X, 4, none⟩ = some (.int .u32 (m.tx.version : Int)) := (z 4).trans rfl
      have z5 : w9.cell? ⟨X, 5, none⟩ = some (.slice A1 m.tx.ins.length c1) := (z 5).trans rfl
      have z6 : w9.cell? ⟨X, 6, none⟩ = some (.slice A2 m.tx.outs.length c2) := (z 6).trans rfl
      generalize m.ids.length = y3 at *
      generalize m.tx.ins.length = y5 at *
      generalize m.tx.outs.length = y6 at *
      have hX9 : X < w9.drew.heap.size := by have := HB9.out.size; have := HK9.out.lt; show X < w9.heap.size; omega
      have hbr9 : br < w9.drew.heap.size := hbr
      clear HX0 h9 HP0 hmat hmat1 z hX HMSE HMS
      go_upto_region 21 with (fail)
      go_region_held3 (fun W => W.cell? ⟨br, 0, none⟩ = some (.int .i64 m.kind) ∧ W.cell? ⟨br, 1, none⟩ = some (.int .u64 (m.n : Int)) ∧ W.cell? ⟨br, 2, none⟩ = some (.int .u32 (m.code : Int)) ∧ W.cell? ⟨br, 3, none⟩ = some (.slice A' y3 c') ∧ W.cell? ⟨br, 4, none⟩ = some (.int .u32 (m.tx.version : Int)) ∧ W.cell? ⟨br, 5, none⟩ = some (.slice A1' y5 c1') ∧ W.cell? ⟨br, 6, none⟩ = some (.slice A2' y6 c2') ∧ W.cell? ⟨br, 7, none⟩ = some (.int .i64 0) ∧ W.cell? ⟨X, 0, none⟩ = some (.int .i64 m.kind) ∧ W.cell? ⟨X, 1, none⟩ = some (.int .u64 (m.n : Int)) ∧ W.cell? ⟨X, 2, none⟩ = some (.int .u32 (m.code : Int)) ∧ W.cell? ⟨X, 3, none⟩ = some (.slice A y3 c) ∧ W.cell? ⟨X, 4, none⟩ = some (.int .u32 (m.tx.version : Int)) ∧ W.cell? ⟨X, 5, none⟩ = some (.slice A1 y5 c1) ∧ W.cell? ⟨X, 6, none⟩ = some (.slice A2 y6 c2)) (first | go_keep | exact ⟨(hb12.cell (p := ⟨br, 0, none⟩) hbr9).trans hq0, (hb12.cell (p := ⟨br, 1, none⟩) hbr9).trans hq1, (hb12.cell (p := ⟨br, 2, none⟩) hbr9).trans hq2, (hb12.cell (p := ⟨br, 3, none⟩) hbr9).trans hq3, (hb12.cell (p := ⟨br, 4, none⟩) hbr9).trans hq4, (hb12.cell (p := ⟨br, 5, none⟩) hbr9).trans hq5, (hb12.cell (p := ⟨br, 6, none⟩) hbr9).trans hq6, (hb12.cell (p := ⟨br, 7, none⟩) hbr9).trans hq7, (hb12.cell (p := ⟨X, 0, none⟩) hX9).trans kk, (hb12.cell (p := ⟨X, 1, none⟩) hX9).trans z1, (hb12.cell (p := ⟨X, 2, none⟩) hX9).trans z2, (hb12.cell (p := ⟨X, 3, none⟩) hX9).trans z3, (hb12.cell (p := ⟨X, 4, none⟩) hX9).trans z4, (hb12.cell (p := ⟨X, 5, none⟩) hX9).trans z5, (hb12.cell (p := ⟨X, 6, none⟩) hX9).trans z6⟩) ((go_at_call 28; (refine (HSM.out _ ((Below.refl _ _).drew)).mono ?_); rintro e w12 ⟨rfl, hb12⟩))
      have r9 : w12.cell? ⟨br, 9, none⟩ = _ := (hb12.cell (p := ⟨br, 9, none⟩) hbr9).trans hq9
      have r15 : w12.cell? ⟨br, 15, none⟩ = _ := (hb12.cell (p := ⟨br, 15, none⟩) hbr9).trans hq15
      have HB12 := Lib.hid (HB9.out.trans (((Below.refl w9.heap.size w9).drew.trans hb12).mono HB9.out.size))
      clear hq9 hq15
      go_wp2_with fail
      go_ret
      exact ⟨rfl, HB12.out⟩
  · go_wp2_with fail
    refine (HF2.out w3 HB3.out).mono ?_
    rintro e w4 ⟨v4, rfl, ho4, hb4⟩
    obtain ⟨Ag, cg, hvg, hgc, hgm, _, _⟩ := ho4.at_
    have HO4 := Lib.hid ho4
    have HB4 := Lib.hid (HB3.out.trans (hb4.mono HB3.out.size))
    have HK4 := Lib.hid (HK3.out.below hb4 hx3)
    have HO34 := Lib.hid (own_below HO3.out hb4)
    have hs4 := hb4.size
    clear hb4 ho4 HF2 HK3 HO3
    subst hvg
    go_wp2_with fail
    refine (new_any false 0 0 w4).mono ?_
    rintro e w5 ⟨b, F, G, q, rfl, hN⟩
    have HN := Lib.hid hN
    have HB5 := Lib.hid (HB4.out.trans (hN.below.mono HB4.out.size))
    have HK5 := Lib.hid (HK4.out.below hN.below (by omega))
    have HO35 := Lib.hid (own_below HO34.out hN.below)
    have HO45 := Lib.hid (own_below HO4.out hN.below)
    have hs5 := hN.below.size
    have hnb := hN.hb
    have hnn := hN.ne
    have hbl := hN.peer.lt
    clear hN HK4 HO34 HO4
    have HSF := Lib.hid (OwnB.at_ HO35.out)
    have HSG := Lib.hid (OwnB.at_ HO45.out)
    have HSRC1 := Lib.hid (show Src w5 Af (fb.map byteV) by
      obtain ⟨A', c', h1, _, _, h4, _⟩ := HSF.out
      injection h1 with h1 _ _
      rw [h1]; exact BytesAt.src h4)
    have HSRC2 := Lib.hid (show Src w5 Ag (fb2.map byteV) by
      obtain ⟨A', c', h1, _, _, h4, _⟩ := HSG.out
      injection h1 with h1 _ _
      rw [h1]; exact BytesAt.src h4)
    obtain ⟨lf, hlf⟩ : ∃ lf, lf = fb.length := ⟨_, rfl⟩
    obtain ⟨lg, hlg⟩ : ∃ lg, lg = fb2.length := ⟨_, rfl⟩
    rw [← hlf, ← hlg]
    have HLF := Lib.hid hlf
    have HLG := Lib.hid hlg
    have hlf2 : lf ≤ 3000 := by rw [hlf, HFE.out]; rw [Frm.put_len (put_named HPUT.out)]; have := HL1.out; omega
    have hlg2 : lg ≤ 3000 := by rw [hlg, HFE2.out]; rw [Frm.put_len (put_named HPUT2.out)]; have := HL2.out; omega
    obtain ⟨w6, hw6⟩ : ∃ w6, w6 = w5.alloc (.cells #[] 5) := ⟨_, rfl⟩
    obtain ⟨q6, hq6⟩ : ∃ q6, q6 = w5.heap.size := ⟨_, rfl⟩
    have HQ6 := Lib.hid (show Bk w6 q6 5 #[] by rw [hw6, hq6]; exact Bk.new _ _ _)
    have HB56 := Lib.hid (show Below w5.heap.size w5 w6 by rw [hw6]; exact Joins.below_alloc1 _ _)
    have hq65 : w5.heap.size ≤ q6 := by omega
    have HQE := Lib.hid hq6
    have HWE := Lib.hid hw6
    obtain ⟨i0, hi, hz0, hz1', hz2⟩ := info_parts byte_info
    have Hi := Lib.hid hi
    have Hz := Lib.hid hz0
    have Hz1 := Lib.hid hz1'
    have Hz2 := Lib.hid hz2
    have HOE := Lib.hid (own_none22 w6 q6 w5.heap.size 5 HQ6.out hq65 1)
    clear hlf hlg hw6 hq6 hi hz0 hz1' hz2
    go_wp2_with (first
      | (refine wpList_buildNone rfl 22 5 rfl Tryd.underlying22 (by kernel_rfl) ?_; rw [← HWE.out, ← HQE.out])
      | (at_builtin; refine wpList_app _ rfl (.tmp 53) (.tmp 54) _ rfl w5.heap.size 5 i0 _ 1 1 Tryd.underlying22 Hi.out Hz.out Hz1.out Hz2.out rfl (by decide) (.slice (some ⟨q6, 0, none⟩) 0 0) 0 [] (by rfl) HOE.out Af lf cf (fb.map byteV) (by rfl) (by rw [List.length_map, HLF.out, Nat.mul_one]) (src_mono22 HSRC1.out HB56.out) (oneCell_bytes _) (by unfold maxLen; omega) (by omega) HB56.out.size ?_; intro v7 w7 hrow7 hg7 hat7; have HB57 := Lib.hid (below_grown22 HB56.out hg7 HOE.out))
      | (at_builtin; refine wpList_app _ rfl (.tmp 55) (.tmp 56) _ rfl w5.heap.size 5 i0 _ 1 1 Tryd.underlying22 Hi.out Hz.out Hz1.out Hz2.out rfl (by decide) v7 (0 + lf) _ (by rfl) hrow7 Ag lg cg (fb2.map byteV) (by rfl) (by rw [List.length_map, HLG.out, Nat.mul_one]) (src_mono22 HSRC2.out HB57.out) (oneCell_bytes _) (by unfold maxLen; omega) (by omega) HB57.out.size ?_; intro v8 w8 hrow8 hg8 hat8; have HB58 := Lib.hid (below_grown22 HB57.out hg8 hrow7); obtain ⟨A8, c8, rfl, hc8, hm8, _⟩ := own_form hrow8))
    obtain rfl : k = 1 := by rw [HKK.out]; rfl
    have HO8 := Lib.hid (show OwnB w8 w5.heap.size (.slice A8 (lf + lg) c8) (fb ++ fb2) by
      have h := hrow8
      rw [Nat.zero_add] at h
      show w8.ownsRow _ _ _ _ _ _
      rw [List.length_append, ← HLF.out, ← HLG.out, List.map_append]
      simpa using h)
    have hoat8 := OwnB.at_ HO8.out
    have hne8 : ∀ a, A8 = some a → w5.heap.size ≤ a.block := by
      obtain ⟨A', c', h1, _, _, _, h5⟩ := hoat8
      injection h1 with h1 _ _
      intro a ha
      exact (h5 a (by rw [← h1]; exact ha)).1
    have hby8 : BytesAt w8 w8.heap.size A8 (fb ++ fb2) := by
      obtain ⟨A', c', h1, _, _, h4, _⟩ := hoat8
      injection h1 with h1 _ _
      rw [h1]; exact h4
    have hz8 := HB58.out.size
    have hl1 := HLY.out.lc
    have hl2 := HLY.out.lf
    have hlw := HB5.out.size
    rw [Nat.zero_add] at hc8
    have HRD := Lib.hid (show Calls Tryd.prog 10 #[.pointer (some ⟨b, 0, none⟩), .int .i64 1, .slice A8 (lf + lg) c8] w8 (ReadPost w8 G w8.heap.size (.slice none 0 0) 1 (Flo.feed ([], false) (fb ++ fb2))) by
      have h := read_any b 1 G w8.heap.size c8 (by omega) A8 (fb ++ fb2) (.slice none 0 0) ([], false) w8 ((HB58.out.cell (p := ⟨b, 5, none⟩) hbl).trans HN.out.peer.ptr.2) (by omega) (Nat.le_refl _) ((HN.out.gl _).kp (Kp.of_below (S := fun _ => False) HB58.out) (fun h => h) (fun _ _ h => h)) hby8 (fun a ha _ => by have := hne8 a ha; omega) (HLY.out.below (HB5.out.trans (HB58.out.mono hlw))) (by omega) (by omega) (by omega) (by omega) (by rw [List.length_append, ← HLF.out, ← HLG.out]; omega) (by rw [List.length_append, ← HLF.out, ← HLG.out]; exact hc8) hm8
      rw [List.length_append, ← HLF.out, ← HLG.out] at h
      exact h)
    have HFD := Lib.hid (feed_two (put_named HPUT.out) (Nat.le_trans HL1.out (by decide)) (put_named HPUT2.out) (Nat.le_trans HL2.out (by decide)))
    rw [← HFE.out, ← HFE2.out] at HFD
    rw [HFD.out] at HRD
    have HB8 := Lib.hid (HB5.out.trans (HB58.out.mono hlw))
    have HK8 := Lib.hid (HK5.out.below HB58.out (by omega))
    clear hoat8 hne8 hby8 hrow7 hg7 hat7 hrow8 hg8 hat8 HB56 HB57 HOE HQ6 HWE HQE HSF HSG HSRC1 HSRC2 HO35 HO45
    refine HRD.out.mono ?_
    rintro e w9 ⟨rv, v', ps, rfl, g1, g2, g3, g4, g5, g6, g7⟩
    have hlen : ps.length = 2 := by
      have h1 := congrArg List.length g4
      rw [List.length_map] at h1
      simpa using h1
    obtain ⟨p0, p1, rfl⟩ : ∃ p0 p1, ps = [p0, p1] := by
      match ps, hlen with
      | [p0, p1], _ => exact ⟨p0, p1, rfl⟩
    simp only [List.map_cons, List.map_nil, List.cons.injEq, and_true] at g4
    rw [came_put HOK.out HPUT.out, came_put (HM2.out w).ok HPUT2.out] at g4
    obtain ⟨Ar, cr, hrv, _⟩ := own_form (show w9.ownsRow _ _ _ _ _ _ from g3)
    subst hrv
    obtain ⟨_, _, _, hrng⟩ := RowIn.range g3
    obtain ⟨br, rfl, hbr, hr0⟩ := hrng 0 (by simp)
    obtain ⟨br', hbe, _, hr1⟩ := hrng 1 (by simp)
    injection hbe with hbe
    injection hbe with hbe _
    subst hbe
    have hp0 := g5 p0 (by simp)
    obtain ⟨x0, I0, i0', o0⟩ := p0
    obtain ⟨x1, I1, i1', o1⟩ := p1
    simp only [List.getElem_cons_zero, List.getElem_cons_succ, ipCells] at hr0 hr1 g4
    have hq0 : w9.cell? ⟨br, 0, none⟩ = some (.int .i64 x0.msg.kind) := by simpa using hr0 0 _ rfl
    have hq7 : w9.cell? ⟨br, 7, none⟩ = some (.int .i64 x0.err) := by simpa using hr0 7 _ rfl
    have hq9 : w9.cell? ⟨br, 9, none⟩ = some (.int .u64 (x1.msg.n : Int)) := by simpa using hr1 1 _ rfl
    have hq15 : w9.cell? ⟨br, 15, none⟩ = some (.int .i64 x1.err) := by simpa using hr1 7 _ rfl
    have hq1 : w9.cell? ⟨br, 1, none⟩ = some (.int .u64 (x0.msg.n : Int)) := by simpa using hr0 1 _ rfl
    have hq2 : w9.cell? ⟨br, 2, none⟩ = some (.int .u32 (x0.msg.code : Int)) := by simpa using hr0 2 _ rfl
    have hq3 : w9.cell? ⟨br, 3, none⟩ = some I0 := by simpa using hr0 3 _ rfl
    have hq4 : w9.cell? ⟨br, 4, none⟩ = some (.int .u32 (x0.msg.tx.version : Int)) := by simpa using hr0 4 _ rfl
    have hq5 : w9.cell? ⟨br, 5, none⟩ = some i0' := by simpa using hr0 5 _ rfl
    have hq6 : w9.cell? ⟨br, 6, none⟩ = some o0 := by simpa using hr0 6 _ rfl
    have k89 : Kp (fun i => i = G) w8 w9 := g7.mono (fun i _ h => h.elim id (fun h => by cases h))
    have HK9 := Lib.hid (HK8.out.kp k89 (by omega))
    have HB9 := Lib.hid (show Below w.heap.size w w9 from Kp.from_elder HB8.out k89 (fun i hi e => by omega))
    have kk : w9.cell? ⟨w.heap.size, 0, none⟩ = some (.int .i64 m.kind) := (HK9.out.cell 0).trans (by rw [HMSE.out]; rfl)
    have HP0 := Lib.hid hp0
    have HX0 := Lib.hid g4.1
    have HX1 := Lib.hid (show x1 = if laneOf 3 ≠ 1 then ⟨Msgs.none, 21⟩ else ⟨⟨3, n, 0, [], Txs.none⟩, 0⟩ from g4.2)
    clear g1 g2 g3 g4 g5 g6 g7 hrng hr0 hr1 hp0 k89 HRD HFD HO8 HK8 HK5 hlen
    have hx1 : x1 = ⟨Msgs.none, 21⟩ := by rw [HX1.out, if_pos (by decide)]
    subst hx1
    clear HX1
    simp only at hq9 hq15
    by_cases h9 : m.kind = 9
    · have hx0 : x0 = ⟨m, 0⟩ := by rw [HX0.out, if_neg (by unfold laneOf; rw [if_pos h9]; decide)]
      subst hx0
      simp only at hq0 hq1 hq2 hq4 hq7
      have e9 : (m.kind == 9) = true := by rw [beq_iff_eq]; exact h9
      obtain ⟨A', c', A1', c1', A2', c2', q1, q2, q3, hmat⟩ := HP0.out
      simp only at q1 q2 q3 hmat
      subst q1 q2 q3
      have hmat1 := hmat w9 (Kp.refl _ _)
      have HSM := Lib.hid (fun W (hW : Below w9.heap.size w9 W) => msame_self m A' A1' A2' A A1 A2 c' c1' c2' c c1 c2 w9.heap.size w.heap.size W (hmat1.below hW) (HAT.out.below (HB9.out.trans (hW.mono HB9.out.size))) hW.size (Nat.le_trans HB9.out.size hW.size))
      unfold M8.msgV at HSM
      have z : ∀ r, w9.cell? ⟨w.heap.size, r, none⟩ = ms[r]? := fun r => HK9.out.cell r
      rw [HMSE.out] at z
      obtain ⟨X, hX⟩ : ∃ X, X = w.heap.size := ⟨_, rfl⟩
      rw [← hX] at z kk ⊢
      have z1 : w9.cell? ⟨X, 1, none⟩ = some (.int .u64 (m.n : Int)) := (z 1).trans rfl
      have z2 : w9.cell? ⟨X, 2, none⟩ = some (.int .u32 (m.code : Int)) := (z 2).trans rfl
      have z3 : w9.cell? ⟨X, 3, none⟩ = some (.slice A m.ids.length c) := (z 3).trans rfl
      have z4 : w9.cell? ⟨X, 4, none⟩ = some (.int .u32 (m.tx.version : Int)) := (z 4).trans rfl
      have z5 : w9.cell? ⟨X, 5, none⟩ = some (.slice A1 m.tx.ins.length c1) := (z 5).trans rfl
      have z6 : w9.cell? ⟨X, 6, none⟩ = some (.slice A2 m.tx.outs.length c2) := (z 6).trans rfl
      generalize m.ids.length = y3 at *
      generalize m.tx.ins.length = y5 at *
      generalize m.tx.outs.length = y6 at *
      have hX9 : X < w9.drew.heap.size := by have := HB9.out.size; have := HK9.out.lt; show X < w9.heap.size; omega
      have hbr9 : br < w9.drew.heap.size := hbr
      clear HX0 h9 HP0 hmat hmat1 z hX HMSE HMS
      go_upto_region 21 with (fail)
      go_region_held3 (fun W => W.cell? ⟨br, 0, none⟩ = some (.int .i64 m.kind) ∧ W.cell? ⟨br, 1, none⟩ = some (.int .u64 (m.n : Int)) ∧ W.cell? ⟨br, 2, none⟩ = some (.int .u32 (m.code : Int)) ∧ W.cell? ⟨br, 3, none⟩ = some (.slice A' y3 c') ∧ W.cell? ⟨br, 4, none⟩ = some (.int .u32 (m.tx.version : Int)) ∧ W.cell? ⟨br, 5, none⟩ = some (.slice A1' y5 c1') ∧ W.cell? ⟨br, 6, none⟩ = some (.slice A2' y6 c2') ∧ W.cell? ⟨br, 7, none⟩ = some (.int .i64 0) ∧ W.cell? ⟨X, 0, none⟩ = some (.int .i64 m.kind) ∧ W.cell? ⟨X, 1, none⟩ = some (.int .u64 (m.n : Int)) ∧ W.cell? ⟨X, 2, none⟩ = some (.int .u32 (m.code : Int)) ∧ W.cell? ⟨X, 3, none⟩ = some (.slice A y3 c) ∧ W.cell? ⟨X, 4, none⟩ = some (.int .u32 (m.tx.version : Int)) ∧ W.cell? ⟨X, 5, none⟩ = some (.slice A1 y5 c1) ∧ W.cell? ⟨X, 6, none⟩ = some (.slice A2 y6 c2)) (first | go_keep | exact ⟨(hb12.cell (p := ⟨br, 0, none⟩) hbr9).trans hq0, (hb12.cell (p := ⟨br, 1, none⟩) hbr9).trans hq1, (hb12.cell (p := ⟨br, 2, none⟩) hbr9).trans hq2, (hb12.cell (p := ⟨br, 3, none⟩) hbr9).trans hq3, (hb12.cell (p := ⟨br, 4, none⟩) hbr9).trans hq4, (hb12.cell (p := ⟨br, 5, none⟩) hbr9).trans hq5, (hb12.cell (p := ⟨br, 6, none⟩) hbr9).trans hq6, (hb12.cell (p := ⟨br, 7, none⟩) hbr9).trans hq7, (hb12.cell (p := ⟨X, 0, none⟩) hX9).trans kk, (hb12.cell (p := ⟨X, 1, none⟩) hX9).trans z1, (hb12.cell (p := ⟨X, 2, none⟩) hX9).trans z2, (hb12.cell (p := ⟨X, 3, none⟩) hX9).trans z3, (hb12.cell (p := ⟨X, 4, none⟩) hX9).trans z4, (hb12.cell (p := ⟨X, 5, none⟩) hX9).trans z5, (hb12.cell (p := ⟨X, 6, none⟩) hX9).trans z6⟩) ((go_at_call 28; (refine (HSM.out _ ((Below.refl _ _).drew)).mono ?_); rintro e w12 ⟨rfl, hb12⟩))
      have r9 : w12.cell? ⟨br, 9, none⟩ = _ := (hb12.cell (p := ⟨br, 9, none⟩) hbr9).trans hq9
      have r15 : w12.cell? ⟨br, 15, none⟩ = _ := (hb12.cell (p := ⟨br, 15, none⟩) hbr9).trans hq15
      have HB12 := Lib.hid (HB9.out.trans (((Below.refl w9.heap.size w9).drew.trans hb12).mono HB9.out.size))
      clear hq9 hq15
      go_wp2_with fail
      go_ret
      exact ⟨rfl, HB12.out⟩
    · have hx0 : x0 = ⟨Msgs.none, 21⟩ := by rw [HX0.out, if_pos (by unfold laneOf; rw [if_neg h9]; decide)]
      subst hx0
      simp only [Msgs.none] at hq0 hq7
      have e9 : (m.kind == 9) = false := by rw [beq_eq_false_iff_ne]; exact h9
      clear HX0 h9 HP0 hq1 hq2 hq3 hq4 hq5 hq6
      go_wp2_with fail
      go_ret
      exact ⟨rfl, HB9.out⟩
end Go.Proofs.YtpacgblddeoheaaDoor.P22
