/- FlowKeeps: the walk. -/
import Derived.Test.YteebehmmfkapgaaDoorFlowRow
namespace Go.Proofs.YteebehmmfkapgaaDoor
open Go.RowKit Go.Deep
set_option linter.unusedVariables false
set_option linter.unusedSimpArgs false
set_option maxRecDepth 100000
attribute [local go_sem ↓] Go.wp_at_zero Go.wp_at_succ

theorem Flo.run_cut {m : Flo.Msg} (h : Flo.ok m = true) {k : Nat} (hk : k < (Flo.put m).length) : Flo.run ((Flo.put m).take k) = ([], (Flo.put m).take k, false) := by
  simp only [Flo.ok, Bool.and_eq_true, decide_eq_true_eq] at h
  unfold Flo.run Flo.go
  rw [show Frm.get ((Flo.put m).take k) = ([], [], 0, 4) from Frm.get_cut h.1 h.2 k hk]
  rfl
theorem Flo.run_one {m : Flo.Msg} (h : Flo.ok m = true) : Flo.run (Flo.put m) = ([Flo.said m], [], false) := by
  have := Flo.run_put' h []
  rw [List.append_nil, Flo.run_nil] at this
  exact this
theorem Flo.feed_rest {m : Flo.Msg} (h : Flo.ok m = true) (k : Nat) : Flo.feed ((Flo.put m).take k, false) ((Flo.put m).drop k) = ([Flo.said m], [], false) := by
  unfold Flo.feed
  rw [if_neg (by simp)]
  simp only [List.take_append_drop]
  exact Flo.run_one h
/-- frame.Put of what has a frame -/
theorem fput_yes (m : Flo.Msg) (A : Option Addr) (c B : Nat) (w : World) (hlay : Laid w) (hs : m.cmd.length ≤ maxLen) (hb : BytesAt w B A m.body) (hB : B ≤ w.heap.size) (hc : m.body.length ≤ c) (hm : c ≤ maxLen) (hok : Flo.ok m = true) :
    Calls Tryd.prog 19 #[.string ⟨m.cmd.toArray⟩, .slice A m.body.length c] w fun e w' => ∃ g, e = .returned (.tuple #[.slice (some ⟨g, 0, none⟩) (Flo.put m).length (Flo.put m).length, .int .i64 0]) ∧ w.heap.size ≤ g ∧ Bk w' g 5 (bytesArr (Flo.put m)) ∧ Below w.heap.size w w' := by
  have e1 : (⟨m.cmd.toArray⟩ : ByteArray).data.toList = m.cmd := by simp
  have e2 : (⟨m.cmd.toArray⟩ : ByteArray).size = m.cmd.length := by rw [← str_len]
  have hs' : (⟨m.cmd.toArray⟩ : ByteArray).size ≤ 9223372036854775807 := by rw [e2]; unfold maxLen at hs; omega
  have hpl := (Flo.put_len hok).1
  simp only [Flo.ok, Bool.and_eq_true, decide_eq_true_eq] at hok
  refine (put_row ⟨m.cmd.toArray⟩ A c B m.body w hlay hs' (by rw [e1]; exact hok.1) hok.2 hb hB hc hm).mono ?_
  rintro e w' ⟨g, rfl, hg, hk, hbw⟩
  rw [e1] at hk
  exact ⟨g, by rw [hpl], hg, hk, hbw⟩
theorem fput_no (m : Flo.Msg) (A : Option Addr) (c : Nat) (w : World) (hs : m.cmd.length ≤ maxLen) (hok : Flo.ok m = false) :
    Calls Tryd.prog 19 #[.string ⟨m.cmd.toArray⟩, .slice A m.body.length c] w fun e w' => ∃ x : Int, e = .returned (.tuple #[.slice none 0 0, .int .i64 x]) ∧ (x != 0) = true ∧ Below w.heap.size w w' := by
  have e1 : (⟨m.cmd.toArray⟩ : ByteArray).data.toList = m.cmd := by simp
  have e2 : (⟨m.cmd.toArray⟩ : ByteArray).size = m.cmd.length := by rw [← str_len]
  have hs' : (⟨m.cmd.toArray⟩ : ByteArray).size ≤ 9223372036854775807 := by rw [e2]; unfold maxLen at hs; omega
  by_cases hn : Frm.named m.cmd = true
  · by_cases hl : m.body.length ≤ 2048
    · exact absurd hok (by simp [Flo.ok, hn, hl])
    · refine (put_long ⟨m.cmd.toArray⟩ A m.body.length c w hs' (by rw [e1]; exact hn) (by omega)).mono ?_
      rintro e w' ⟨rfl, hbw⟩
      exact ⟨5, rfl, by decide, hbw⟩
  · refine (put_unnamed ⟨m.cmd.toArray⟩ A m.body.length c w hs' (by rw [e1]; simpa using hn)).mono ?_
    rintro e w' ⟨rfl, hbw⟩
    exact ⟨8, rfl, by decide, hbw⟩
/-- rows of items of a block that is known whole -/
theorem itemsAt_bk {w : World} {g t : Nat} (l : List (Flo.Item × Value)) (h : Bk w g t (l.flatMap itemPair).toArray) (hp : ∀ p ∈ l, ItemU w w.heap.size p.2 p.1.body) : ItemsAt w w.heap.size (some ⟨g, 0, none⟩) (l.map Prod.fst) := by
  intro i hi
  have hi' : i < l.length := by simpa using hi
  obtain ⟨A, cap, hu, h1, h2, h3⟩ := hp l[i] (List.getElem_mem hi')
  refine ⟨g, 0, itemPair l[i], rfl, h.lt, ?_, fun j hj => ?_⟩
  · rw [List.getElem_map]
    exact ⟨A, cap, by unfold itemPair; rw [hu], h1, h2, h3⟩
  · rw [Nat.zero_add, h.cell]
    simp only [List.getElem?_toArray]
    rw [flatMap_index l (fun p _ => itemPair_len p) i hi' j (by rw [itemPair_len] at hj; exact hj), List.getElem?_eq_getElem hj]
theorem ItemsAt.mono {w : World} {B B' : Nat} {A : Option Addr} {l : List Flo.Item} (h : ItemsAt w B A l) (hb : B ≤ B') : ItemsAt w B' A l := by
  intro i hi
  obtain ⟨b, off, vs, hA, hlt, ⟨A', cap, rfl, h1, h2, h3⟩, hc⟩ := h i hi
  exact ⟨b, off, _, hA, by omega, ⟨A', cap, rfl, h1, h2, At.mono h3 hb⟩, hc⟩
/-- zeros so far -/
theorem zeros_next {x : List UInt8} {j : Nat} (hj : j < x.length) : (List.replicate j (0 : UInt8) ++ x.drop j).set j 0 = List.replicate (j + 1) 0 ++ x.drop (j + 1) := by
  rw [List.set_append_right _ _ (by simp), List.length_replicate, Nat.sub_self, List.drop_eq_getElem_cons hj, List.set_cons_zero, List.replicate_succ', List.append_assoc]
  rfl
set_option maxHeartbeats 4000000 in
theorem flowKeeps_walk (w : World) (hl : Laid w) (m1 : Flo.Msg) (A1 : Option Addr) (c1 : Nat) (hs1 : m1.cmd.length ≤ maxLen) (hc1 : m1.body.length ≤ c1) (hm1 : c1 ≤ maxLen) (hat1 : BytesAt w w.heap.size A1 m1.body)
    (m2 : Flo.Msg) (A2 : Option Addr) (c2 : Nat) (hs2 : m2.cmd.length ≤ maxLen) (hc2 : m2.body.length ≤ c2) (hm2 : c2 ≤ maxLen) (hat2 : BytesAt w w.heap.size A2 m2.body) (a : Int) (wa : (Lit.int .u16 a).wf = true) :
    Calls Tryd.prog 9 #[.agg #[.string ⟨m1.cmd.toArray⟩, .slice A1 m1.body.length c1], .agg #[.string ⟨m2.cmd.toArray⟩, .slice A2 m2.body.length c2], .int .u16 a] w fun r w' => r = .returned (.bool true) ∧ Below w.heap.size w w' := by
  have HL := Lib.hid hl
  have l1 := hl.lc
  have l2 := hl.lf
  obtain ⟨ha0, ha1⟩ := wf_u16 wa
  obtain ⟨s1, hS1⟩ : ∃ s : ByteArray, s = ⟨m1.cmd.toArray⟩ := ⟨_, rfl⟩
  obtain ⟨s2, hS2⟩ : ∃ s : ByteArray, s = ⟨m2.cmd.toArray⟩ := ⟨_, rfl⟩
  have HP1 := fun W B hl hb hB hok => fput_yes m1 A1 c1 B W hl hs1 hb hB hc1 hm1 hok
  have HP2 := fun W B hl hb hB hok => fput_yes m2 A2 c2 B W hl hs2 hb hB hc2 hm2 hok
  have HN1 := fun W hok => fput_no m1 A1 c1 W hs1 hok
  have HN2 := fun W hok => fput_no m2 A2 c2 W hs2 hok
  rw [← hS1] at HP1 HN1 ⊢
  rw [← hS2] at HP2 HN2 ⊢
  have HP1' := Lib.hid HP1
  have HP2' := Lib.hid HP2
  have HN1' := Lib.hid HN1
  have HN2' := Lib.hid HN2
  have HS1 := Lib.hid hS1
  have HS2 := Lib.hid hS2
  have HAT1 := Lib.hid hat1
  have HAT2 := Lib.hid hat2
  clear HP1 HP2 HN1 HN2 hS1 hS2 hl hat1 hat2 wa
  go_enter Tryd.func9, Tryd.ntmps9
  go_wp2_with fail
  obtain ⟨W0, hW0⟩ : ∃ W0, W0 = (w.alloc (.cells #[.string s1, .slice A1 m1.body.length c1] 43)).alloc (.cells #[.string s2, .slice A2 m2.body.length c2] 43) := ⟨_, rfl⟩
  have hz0 : W0.heap.size = w.heap.size + 2 := by rw [hW0]; simp
  have HB0 : Hid (Below w.heap.size w W0) := Lib.hid (by rw [hW0]; exact ((Below.refl _ _).alloc (Nat.le_refl _) _).alloc (by simp) _)
  have HKP : Hid (Bk W0 w.heap.size 43 #[.string s1, .slice A1 m1.body.length c1]) := Lib.hid (by rw [hW0]; exact (Bk.new _ _ _).alloc _)
  have HKQ : Hid (Bk W0 (w.heap.size + 1) 43 #[.string s2, .slice A2 m2.body.length c2]) := Lib.hid (by
    rw [hW0]
    have := Bk.new (w.alloc (.cells #[.string s1, .slice A1 m1.body.length c1] 43)) 43 #[.string s2, .slice A2 m2.body.length c2]
    rwa [show (w.alloc (.cells #[.string s1, .slice A1 m1.body.length c1] 43)).heap.size = w.heap.size + 1 by simp] at this)
  rw [← hW0]
  clear hW0
  refine (flow_alive W0 (HL.out.below HB0.out)).mono ?_
  rintro e w1 ⟨rfl, hb1⟩
  have hz1 := hb1.size
  have HB1 := Lib.hid (HB0.out.trans (hb1.mono (by omega)))
  have HKP1 := Lib.hid (HKP.out.below hb1 (by omega))
  have HKQ1 := Lib.hid (HKQ.out.below hb1 (by omega))
  have e0 : w1.cell? ⟨w.heap.size, 0, none⟩ = some (.string s1) := (HKP1.out.cell 0).trans rfl
  have e1 : w1.cell? ⟨w.heap.size, 1, none⟩ = some (.slice A1 m1.body.length c1) := (HKP1.out.cell 1).trans rfl
  clear hb1 HB0 HKP HKQ
  have FIN : ∀ W, Below w1.heap.size w1 W → Hid (Below w.heap.size w W) := fun W h => Lib.hid (HB1.out.trans (h.mono (by omega)))
  have FINH := Lib.hid FIN
  clear FIN
  by_cases ok1 : Flo.ok m1 = true
  case neg =>
    go_wp2_with fail
    refine (HN1'.out w1 (by simpa using ok1)).mono ?_
    rintro e w2 ⟨x, rfl, hx, hb2⟩
    have hz2 := hb2.size
    have q0 : w2.cell? ⟨w.heap.size + 1, 0, none⟩ = some (.string s2) := ((HKQ1.out.below hb2 (by omega)).cell 0).trans rfl
    have q1 : w2.cell? ⟨w.heap.size + 1, 1, none⟩ = some (.slice A2 m2.body.length c2) := ((HKQ1.out.below hb2 (by omega)).cell 1).trans rfl
    have HB2 := FINH.out _ hb2
    have HB12 := Lib.hid hb2
    clear e0 e1 hb2
    by_cases ok2 : Flo.ok m2 = true
    · go_wp2_with fail
      refine (HP2'.out w2 w.heap.size (HL.out.below HB2.out) (HAT2.out.below HB2.out) HB2.out.size ok2).mono ?_
      rintro e w3 ⟨g, rfl, _, _, hb3⟩
      have HB3 := FINH.out _ (HB12.out.trans (hb3.mono hz2))
      clear hb3
      go_wp2_with fail
      go_ret
      exact ⟨rfl, HB3.out⟩
    · go_wp2_with fail
      refine (HN2'.out w2 (by simpa using ok2)).mono ?_
      rintro e w3 ⟨g, rfl, _, hb3⟩
      have HB3 := FINH.out _ (HB12.out.trans (hb3.mono hz2))
      clear hb3
      go_wp2_with fail
      go_ret
      exact ⟨rfl, HB3.out⟩
  case pos =>
  go_wp2_with fail
  refine (HP1'.out w1 w.heap.size (HL.out.below HB1.out) (HAT1.out.below HB1.out) HB1.out.size ok1).mono ?_
  rintro e w2 ⟨X, rfl, hX, hkX, hb2⟩
  have hz2 := hb2.size
  have HKP2 := Lib.hid (HKP1.out.below hb2 (by omega))
  have HKQ2 := Lib.hid (HKQ1.out.below hb2 (by omega))
  have q0 : w2.cell? ⟨w.heap.size + 1, 0, none⟩ = some (.string s2) := (HKQ2.out.cell 0).trans rfl
  have q1 : w2.cell? ⟨w.heap.size + 1, 1, none⟩ = some (.slice A2 m2.body.length c2) := (HKQ2.out.cell 1).trans rfl
  have HB2 := FINH.out _ hb2
  have HX2 := Lib.hid hkX
  have lX := hkX.lt
  obtain ⟨N1, hN1⟩ : ∃ N, N = (Flo.put m1).length := ⟨_, rfl⟩
  rw [← hN1]
  have hN1a : 24 ≤ N1 := by have := (Flo.put_len ok1).1; omega
  have hN1b : N1 ≤ 2072 := by have := Flo.put_len ok1; omega
  have HL1 := Lib.hid hN1
  clear e0 e1 hb2 hkX hN1 HKP1 HKQ1 FINH
  by_cases ok2 : Flo.ok m2 = true
  case neg =>
    go_wp2_with fail
    refine (HN2'.out w2 (by simpa using ok2)).mono ?_
    rintro e w3 ⟨x, rfl, hx, hb3⟩
    have HB3 := Lib.hid (HB2.out.trans (hb3.mono (by omega)))
    clear hb3
    go_wp2_with fail
    go_ret
    exact ⟨rfl, HB3.out⟩
  case pos =>
  go_wp2_with fail
  refine (HP2'.out w2 w.heap.size (HL.out.below HB2.out) (HAT2.out.below HB2.out) HB2.out.size ok2).mono ?_
  rintro e w3 ⟨Y, rfl, hY, hkY, hb3⟩
  have hz3 := hb3.size
  have HKP3 := Lib.hid (HKP2.out.below hb3 (by omega))
  have HKQ3 := Lib.hid (HKQ2.out.below hb3 (by omega))
  have HX3 := Lib.hid (HX2.out.below hb3 lX)
  have HB3 := Lib.hid (HB2.out.trans (hb3.mono (by omega)))
  have HY3 := Lib.hid hkY
  have lY := hkY.lt
  obtain ⟨N2, hN2⟩ : ∃ N, N = (Flo.put m2).length := ⟨_, rfl⟩
  rw [← hN2]
  have hN2a : 24 ≤ N2 := by have := (Flo.put_len ok2).1; omega
  have hN2b : N2 ≤ 2072 := by have := Flo.put_len ok2; omega
  have HL2 := Lib.hid hN2
  clear q0 q1 hb3 hkY hN2 HKP2 HKQ2 HX2 HB2 HP1' HP2' HN1' HN2' HB1
  -- the copy
  obtain ⟨an, rfl⟩ : ∃ an : Nat, a = (an : Int) := ⟨a.toNat, by omega⟩
  obtain ⟨k, hk⟩ : ∃ k : Nat, k = an % N1 := ⟨_, rfl⟩
  have hkN : k < N1 := by rw [hk]; exact Nat.mod_lt _ (by omega)
  have hki : (an : Int) % (N1 : Int) = (k : Int) := by rw [hk]; omega
  clear hk
  obtain ⟨ib, hi, hz, hz', hz''⟩ := info_parts byte_info
  have Bi := Lib.hid hi
  have Bz := Lib.hid hz
  have Bz1 := Lib.hid hz'
  have Bz2 := Lib.hid hz''
  have kO := Bk.new w3 5 (bytesArr [])
  have HO := Lib.hid (kO.own (base := w3.heap.size) (Nat.le_refl _) (by simp [maxLen]))
  have HSX := Lib.hid (BytesAt.src ((HX3.out.alloc (.cells (bytesArr []) 5)).bytesAt (B := w3.heap.size) (by omega)))
  have HLX : Hid (((Flo.put m1).map byteV).length = N1 * 1) := Lib.hid (by rw [List.length_map, Nat.mul_one]; exact HL1.out.symm)
  clear hi hz hz' hz'' kO
  go_upto_region 9 with (at_builtin; refine wpList_app _ rfl (.tmp 48) (.tmp 49) _ rfl w3.heap.size 5 ib _ 1 1 Tryd.underlying28 Bi.out Bz.out Bz1.out Bz2.out rfl (by decide) (.slice (some ⟨w3.heap.size, 0, none⟩) 0 0) 0 [] rfl HO.out (some ⟨X, 0, none⟩) N1 N1 ((Flo.put m1).map byteV) rfl HLX.out HSX.out (oneCell_bytes _) (by unfold maxLen; omega) (by omega) (by simp) ?_; intro v4 w4 hrow4 hg4 hat4)
  have k4 : Kp (fun _ => False) w3 w4 := ((Kp.refl (fun _ => False) w3).alloc _).grown hg4 (fun k hk hl => by simp only [Value.ownBlock, Option.some.injEq] at hk; omega)
  simp only [Nat.zero_add, List.nil_append] at hrow4
  obtain ⟨A4, c4, rfl, hn4, hm4, hsrc4⟩ := own_src hrow4
  have HOW4 : Hid (OwnB w4 w3.heap.size (.slice A4 N1 c4) (Flo.put m1)) := Lib.hid (by unfold OwnB; rw [← HL1.out]; exact hrow4)
  have hz4 := k4.size
  have HB4 := Lib.hid (HB3.out.trans (k4.below.mono (by have := HB3.out.size; omega)))
  have HX4 := Lib.hid (HX3.out.kp k4 (fun h => h))
  have HY4 := Lib.hid (HY3.out.kp k4 (fun h => h))
  have HKP4 := Lib.hid (HKP3.out.kp k4 (fun h => h))
  have HKQ4 := Lib.hid (HKQ3.out.kp k4 (fun h => h))
  clear hrow4 hg4 hat4 k4 hsrc4 HX3 HY3 HKP3 HKQ3 HB3 HO HSX HLX Bi Bz Bz1 Bz2 hki
  -- two flows
  go_wp2_with fail
  refine (flowNew_any w4).mono ?_
  rintro e w5 ⟨rfl, hk5, hz5, hb5⟩
  obtain ⟨F, hF⟩ : ∃ F, F = w4.heap.size := ⟨_, rfl⟩
  rw [← hF] at hk5 ⊢
  have LF5 := hk5.lt
  have HF5 := Lib.hid hk5
  have HB5 := Lib.hid hb5
  have hF1 : w4.heap.size ≤ F := by omega
  have hF2 : F < w5.heap.size := LF5
  clear hk5 hb5 hF
  go_wp2_with fail
  refine (flowNew_any w5).mono ?_
  rintro e w6 ⟨rfl, hk6, hz6, hb6⟩
  obtain ⟨G, hG⟩ : ∃ G, G = w5.heap.size := ⟨_, rfl⟩
  rw [← hG] at hk6 ⊢
  have k46 : Kp (fun _ => False) w4 w6 := Kp.of_below (HB5.out.trans (hb6.mono (by omega)))
  have FG : F ≠ G := by omega
  have lXF : X < F := by omega
  have lYF : Y < F := by omega
  have lFG : F < G := by omega
  have LG6 := hk6.lt
  have hsz6 := k46.size
  have HF6 := Lib.hid (FlowS.new w w6.heap.size w6 F (HF5.out.below hb6 LF5))
  have HG6 := Lib.hid (FlowS.new w w6.heap.size w6 G hk6)
  have HB6 := Lib.hid (HB4.out.trans (k46.below.mono HB4.out.size))
  have HOW6 := Lib.hid (own_kp2 HOW4.out k46 (fun _ _ h => h))
  have HX6 := Lib.hid (HX4.out.kp k46 (fun h => h))
  have HY6 := Lib.hid (HY4.out.kp k46 (fun h => h))
  have HKP6 := Lib.hid (HKP4.out.kp k46 (fun h => h))
  have HKQ6 := Lib.hid (HKQ4.out.kp k46 (fun h => h))
  have HWS := Lib.hid (own_lt HOW4.out)
  have wX : w.heap.size ≤ X := by omega
  have wF : w.heap.size + 2 ≤ F := by omega
  have wX2 : w.heap.size + 2 ≤ X := by omega
  clear hG hk6 hb6 hz5 hz6 HF5 HB5 k46 HX4 HY4 HKP4 HKQ4 HOW4 HB4 LF5
  -- the first piece
  have hx6 := BytesAt.take (HX6.out.bytesAt (B := w6.heap.size) (by omega)) k
  have htl : ((Flo.put m1).take k).length = k := by rw [List.length_take, ← HL1.out]; omega
  have h1 := feed_any F w6.heap.size N1 (some ⟨X, 0, none⟩) ((Flo.put m1).take k) _ _ w6 (by omega) (Nat.le_refl _) HF6.out hx6 (fun a ha _ => by cases ha; show X ≠ F; omega) (HL.out.below HB6.out) (by omega) (by omega) (by omega) (by omega) (by omega) (by omega) (by unfold maxLen; omega)
  rw [Flo.feed_new, Flo.run_cut ok1 (by rw [← HL1.out]; exact hkN), htl] at h1
  have H1 := Lib.hid h1
  clear h1 hx6 htl
  have i1 : (0 : Int) ≤ (k : Int) := by omega
  have i2 : (k : Int) ≤ (N1 : Int) := by omega
  go_wp2_with fail
  (with_reducible refine H1.out.mono ?_)
  rintro e w7 ⟨v7, rfl, vb, hfs7, hside7⟩
  obtain ⟨A7, c7, rfl, _, _, _⟩ := hside7.row.at_
  have kp7 : Kp (fun i => i = F) w6 w7 := hside7.kp.mono (fun i _ h => h.elim (fun h => h) (fun h => by cases h))
  have hz7 := kp7.size
  have HF7 := Lib.hid hfs7
  have HG7 := Lib.hid (HG6.out.kp kp7 (fun e => FG e.symm) (fun i h => by cases h))
  have HB7 := Lib.hid (HB6.out.trans (kp7.low_from (B := w.heap.size) (fun i hi e => by omega) (by omega)))
  have HX7 := Lib.hid (HX6.out.kp kp7 (by omega))
  have HY7 := Lib.hid (HY6.out.kp kp7 (by omega))
  have HKP7 := Lib.hid (HKP6.out.kp kp7 (by omega))
  have HKQ7 := Lib.hid (HKQ6.out.kp kp7 (by omega))
  have HOW7 := Lib.hid (own_kp2 HOW6.out kp7 (fun i hi e => by have := (HWS.out i hi).2; omega))
  clear hside7 hfs7 kp7 HF6 HG6 HB6 HX6 HY6 HKP6 HKQ6 HOW6 H1
  simp only [List.length_nil]
  -- the other flow
  have hy7 := HY7.out.bytesAt (B := w7.heap.size) (by omega)
  have h2 := feed_any G w7.heap.size N2 (some ⟨Y, 0, none⟩) (Flo.put m2) _ _ w7 (by omega) (Nat.le_refl _) (FlowS.rebase HG7.out (by simp) w7.heap.size) hy7 (fun a ha _ => by cases ha; show Y ≠ G; omega) (HL.out.below HB7.out) (by omega) (by omega) (by omega) (by omega) (by rw [← HL2.out]; omega) (by rw [← HL2.out]; exact Nat.le_refl _) (by unfold maxLen; omega)
  rw [Flo.feed_new, Flo.run_one ok2, ← HL2.out] at h2
  have H2 := Lib.hid h2
  clear h2 hy7
  go_wp2_with fail
  (with_reducible refine H2.out.mono ?_)
  rintro e w8 ⟨v8, rfl, vb8, hfs8, hside8⟩
  obtain ⟨A8, c8, rfl, _, _, _⟩ := hside8.row.at_
  have kp8 : Kp (fun i => i = G) w7 w8 := hside8.kp.mono (fun i _ h => h.elim (fun h => h) (fun h => by cases h))
  have hz8 := kp8.size
  have hvb := HF7.out.lt.2
  have HVB := Lib.hid hvb
  have HF8 := Lib.hid (HF7.out.kp kp8 FG (fun i hi e => by have := (hvb i hi).1; omega))
  have HB8 := Lib.hid (HB7.out.trans (kp8.low_from (B := w.heap.size) (fun i hi e => by omega) (by omega)))
  have HX8 := Lib.hid (HX7.out.kp kp8 (by omega))
  have HKP8 := Lib.hid (HKP7.out.kp kp8 (by omega))
  have HKQ8 := Lib.hid (HKQ7.out.kp kp8 (by omega))
  have HOW8 := Lib.hid (own_kp2 HOW7.out kp8 (fun i hi e => by have := (HWS.out i hi).2; omega))
  have HR8 := Lib.hid hside8.row
  clear hside8 hfs8 kp8 HF7 HG7 HB7 HX7 HY7 HKP7 HKQ7 HOW7 H2 hvb
  -- nothing is changed
  obtain ⟨A9, c9, e9, hn9, hm9, hat9, _⟩ := OwnB.at_ (bs := Flo.put m1) HOW8.out
  injection e9 with eA eN ec
  clear eN
  subst eA
  subst ec
  have hsm := same_any (some ⟨X, 0, none⟩) A4 N1 N1 N1 c4 (Flo.put m1) (Flo.put m1) w8 _ _ HL1.out.symm HL1.out.symm (by omega) (by omega) (HX8.out.bytesAt (B := w8.heap.size) (by omega)) hat9
  simp only [decide_true] at hsm
  have HSM := Lib.hid hsm
  clear hsm hat9
  go_wp2_with fail
  (with_reducible refine HSM.out.mono ?_)
  rintro e w9 ⟨rfl, nd, rfl⟩
  go_wp2_with fail
  have HX9 : Hid (Bk (w8.drewN nd) X 5 (bytesArr (List.replicate 0 0 ++ (Flo.put m1).drop 0))) := Lib.hid (by simpa using HX8.out.drewN nd)
  obtain ⟨w9, hw9⟩ : ∃ w9, w9 = w8.drewN nd := ⟨_, rfl⟩
  rw [← hw9] at HX9 ⊢
  have k89 : Kp (fun _ => False) w8 w9 := by rw [hw9]; exact (Kp.refl _ _).drewN nd
  have HK89 := Lib.hid k89
  have hz9 := k89.size
  clear hw9 k89 HX8 HSM HOW8 hn9
  go_loopw [17, 71] (fun _ i wr => ∃ j, j ≤ k ∧ i = .int .i64 ((j : Nat) : Int) ∧ Hid (Kp (fun i => i = X) w9 wr) ∧ Hid (Bk wr X 5 (bytesArr (List.replicate j 0 ++ (Flo.put m1).drop j)))) (fun _ i _ => k - (intOf i).toNat)
  case atStart => exact ⟨0, Nat.zero_le _, rfl, Lib.hid (Kp.refl _ _), HX9.out |> Lib.hid⟩
  case round =>
    obtain ⟨j, hjk, rfl, HKX, HBX⟩ := hrel
    have hzr := HKX.out.size
    by_cases hj : j < k
    · have j1 : (0 : Int) ≤ (j : Int) := by omega
      have j2 : (j : Int) < (k : Int) := by omega
      have j3 : (j : Int) < (N1 : Int) := by omega
      obtain ⟨z, hz⟩ : ∃ z : Int, wr.cell? ⟨X, j, none⟩ = some (.int .u8 z) := by
        have hlen : j < (List.replicate j (0 : UInt8) ++ (Flo.put m1).drop j).length := by
          rw [List.length_append, List.length_replicate, List.length_drop, ← HL1.out]; omega
        obtain ⟨b, off, hA, _, hcc⟩ := (HBX.out.bytesAt (B := wr.heap.size) (by omega)).cell hlen
        cases hA
        exact ⟨_, by rw [← hcc, Nat.zero_add]⟩
      have fr := HBX.out.frozen j
      have HN : Hid (Bk (wr.setCell ⟨X, j, none⟩ (.int .u8 0)) X 5 (bytesArr (List.replicate (j + 1) 0 ++ (Flo.put m1).drop (j + 1)))) := Lib.hid (by
        have := HBX.out.setByte j 0
        rw [zeros_next (by rw [← HL1.out]; omega)] at this
        exact this)
      have HKN : Hid (Kp (fun i => i = X) w9 (wr.setCell ⟨X, j, none⟩ (.int .u8 0))) := Lib.hid (HKX.out.setCell (p := ⟨X, j, none⟩) (fun _ => rfl) _)
      go_wp2_with fail
      go_roundw
      case rel => exact ⟨j + 1, by omega, by go_num, HKN, HN⟩
      case measure => simp [intOf]; omega
    · have j2 : ¬ (j : Int) < (k : Int) := by omega
      obtain rfl : j = k := by omega
      have hbx := (HBX.out.bytesAt (B := w6.heap.size) (by omega)).drop j
      have el : (List.replicate j (0 : UInt8) ++ (Flo.put m1).drop j).drop j = (Flo.put m1).drop j := List.drop_left' (by simp)
      rw [el, Nat.zero_add] at hbx
      have hk8 : Kp (fun i => i = X) w8 wr := ((HK89.out.mono (fun _ _ h => h.elim)).trans HKX.out)
      have HFr := Lib.hid (HF8.out.kp hk8 (by omega) (fun i hi e => by have := (HVB.out i hi).1; omega))
      have HBr := Lib.hid (HB8.out.trans (hk8.low_from (B := w.heap.size) (fun i hi e => by omega) (by omega)))
      have HKPr := Lib.hid (HKP8.out.kp hk8 (by omega))
      have HKQr := Lib.hid (HKQ8.out.kp hk8 (by omega))
      have HRr := Lib.hid (HR8.out.kp (Q := fun i => w7.heap.size ≤ i) hk8 (fun i hi e => by have := (HR8.out.lt i hi).1; omega) (fun i hp _ => by
        have h7 : w7.heap.size ≤ i := hp.1.elim (fun h => by cases h) (fun h => h)
        exact ⟨by omega, h7⟩))
      have hlt8 := HR8.out.lt
      have h3 := feed_any F w6.heap.size (N1 - j) (some ⟨X, j, none⟩) ((Flo.put m1).drop j) vb _ wr (by omega) (by omega) HFr.out hbx (fun a ha _ => by cases ha; show X ≠ F; omega) (HL.out.below HBr.out) (by omega) (by omega) (by omega) (by omega) (by rw [List.length_drop, ← HL1.out]; omega) (by rw [List.length_drop, ← HL1.out]; omega) (by unfold maxLen; omega)
      rw [Flo.feed_rest ok1, List.length_drop, ← HL1.out] at h3
      have H3 := Lib.hid h3
      have hzr8 := hk8.size
      have HLT8 := Lib.hid hlt8
      have hnk : ¬ (N1 = j) := by omega
      clear h3 hbx el hk8 hlt8 HBX HKX HX9 HK89 HF8 HB8 HKP8 HKQ8 HR8
      go_wp2_with fail
      (with_reducible refine H3.out.mono ?_)
      rintro e w11 ⟨v11, rfl, vb11, hfs11, hside11⟩
      have hlt11 := hside11.row.lt
      obtain ⟨A11, c11, rfl, _, _, hit11⟩ := hside11.row.at_
      have kp11 : Kp (fun i => i = F ∨ vb.ownBlock = some i) wr w11 := hside11.kp
      have hz11 := kp11.size
      have HB11 := Lib.hid (HBr.out.trans (kp11.low_from (B := w.heap.size) (fun i hi e => by rcases e with e | e; omega; have := (HVB.out i e).1; omega) (by omega)))
      have hkp11 := HKPr.out.kp kp11 (fun e => by rcases e with e | e; omega; have := (HVB.out _ e).1; omega)
      have hkq11 := HKQr.out.kp kp11 (fun e => by rcases e with e | e; omega; have := (HVB.out _ e).1; omega)
      have hr11 := HRr.out.kp (Q := fun i => w7.heap.size ≤ i) kp11 (fun i hi e => by have := (HLT8.out i hi).1; rcases e with e | e; omega; have := (HVB.out i e).2; omega) (fun i hp _ => ⟨fun e => by rcases e with e | e; omega; have := (HVB.out _ e).2; omega, hp⟩)
      have HKQ11 := Lib.hid hkq11
      have HR11 := Lib.hid hr11
      have f0 : w11.cell? ⟨w.heap.size, 0, none⟩ = some (.string s1) := (hkp11.cell 0).trans rfl
      have f1 : w11.cell? ⟨w.heap.size, 1, none⟩ = some (.slice A1 m1.body.length c1) := (hkp11.cell 1).trans rfl
      obtain ⟨W, hW⟩ : ∃ W, W = w11.alloc (.cells #[.string s1, .slice A1 m1.body.length c1, .int .i64 0] 52) := ⟨_, rfl⟩
      have hbW : Below w11.heap.size w11 W := by rw [hW]; exact Joins.below_alloc1 _ _
      have hzW := hbW.size
      have hkW : Bk W w11.heap.size 52 #[.string s1, .slice A1 m1.body.length c1, .int .i64 0] := by rw [hW]; exact Bk.new _ _ _
      have HBW := Lib.hid (HB11.out.trans (hbW.mono (by omega)))
      have hitW : ItemsAt W W.heap.size (some ⟨w11.heap.size, 0, none⟩) [Flo.said m1] := itemsAt_bk [(Flo.said m1, .slice A1 m1.body.length c1)] (by simpa [itemPair, itemCells, Flo.said, HS1.out] using hkW) (by
        intro p hp
        obtain rfl : p = (Flo.said m1, .slice A1 m1.body.length c1) := by simpa using hp
        exact ⟨A1, c1, rfl, hc1, hm1, (HAT1.out.below HBW.out).mono HBW.out.size⟩)
      have hsm := isame_any A11 (some ⟨w11.heap.size, 0, none⟩) c11 1 [Flo.said m1] W (by simp) (ItemsAt.mono (hit11.below hbW) hzW) hitW
      rw [show [Flo.said m1].length = 1 from rfl] at hsm
      have HSM := Lib.hid hsm
      clear hsm
      have HRW := Lib.hid (HR11.out.kp (Q := fun i => w7.heap.size ≤ i) (Kp.of_below (S := fun _ => False) hbW) (fun _ _ h => h) (fun i hp _ => ⟨fun h => h, hp⟩))
      have HKQW := Lib.hid (HKQ11.out.below hbW (by omega))
      clear hfs11 hside11 hlt11 hit11 kp11 hkp11 hkq11 hr11 hbW hkW hitW HRr HR11 HKQ11 HKPr HKQr HFr HBr H3
      simp only [List.length_cons, List.length_nil]
      go_wp2_with fail
      rw [← hW]
      clear hW f0 f1
      (with_reducible refine HSM.out.mono ?_)
      rintro e w12 ⟨rfl, hb12⟩
      have hz12 := hb12.size
      have HB12 := Lib.hid (HBW.out.trans (hb12.mono (by omega)))
      have hkq12 := HKQW.out.below hb12 (by omega)
      obtain ⟨A12, c12, e12, _, _, hit12⟩ := (HRW.out.kp (Q := fun _ => True) (Kp.of_below (S := fun _ => False) hb12) (fun _ _ h => h) (fun i hp _ => ⟨fun h => h, trivial⟩)).at_
      injection e12 with eA eN ec
      subst eA
      subst ec
      clear eN
      have f0 : w12.cell? ⟨w.heap.size + 1, 0, none⟩ = some (.string s2) := (hkq12.cell 0).trans rfl
      have f1 : w12.cell? ⟨w.heap.size + 1, 1, none⟩ = some (.slice A2 m2.body.length c2) := (hkq12.cell 1).trans rfl
      obtain ⟨V, hV⟩ : ∃ W, W = w12.alloc (.cells #[.string s2, .slice A2 m2.body.length c2, .int .i64 0] 52) := ⟨_, rfl⟩
      have hbV : Below w12.heap.size w12 V := by rw [hV]; exact Joins.below_alloc1 _ _
      have hzV := hbV.size
      have hkV : Bk V w12.heap.size 52 #[.string s2, .slice A2 m2.body.length c2, .int .i64 0] := by rw [hV]; exact Bk.new _ _ _
      have HBV := Lib.hid (HB12.out.trans (hbV.mono (by omega)))
      have hitV : ItemsAt V V.heap.size (some ⟨w12.heap.size, 0, none⟩) [Flo.said m2] := itemsAt_bk [(Flo.said m2, .slice A2 m2.body.length c2)] (by simpa [itemPair, itemCells, Flo.said, HS2.out] using hkV) (by
        intro p hp
        obtain rfl : p = (Flo.said m2, .slice A2 m2.body.length c2) := by simpa using hp
        exact ⟨A2, c2, rfl, hc2, hm2, (HAT2.out.below HBV.out).mono HBV.out.size⟩)
      have hsm := isame_any A8 (some ⟨w12.heap.size, 0, none⟩) c8 1 [Flo.said m2] V (by simp) (ItemsAt.mono (hit12.below hbV) hzV) hitV
      rw [show [Flo.said m2].length = 1 from rfl] at hsm
      have HSM2 := Lib.hid hsm
      clear hsm
      clear hb12 hkq12 hit12 hbV hkV hitV HSM HRW HKQW HB12
      simp only [List.length_cons, List.length_nil]
      go_wp2_with fail
      rw [← hV]
      clear hV f0 f1
      (with_reducible refine HSM2.out.mono ?_)
      rintro e w13 ⟨rfl, hb13⟩
      have HB13 := Lib.hid (HBV.out.trans (hb13.mono (by have := HBV.out.size; omega)))
      clear hb13
      go_wp2_with fail
      go_ret
      exact ⟨rfl, HB13.out⟩
end Go.Proofs.YteebehmmfkapgaaDoor
