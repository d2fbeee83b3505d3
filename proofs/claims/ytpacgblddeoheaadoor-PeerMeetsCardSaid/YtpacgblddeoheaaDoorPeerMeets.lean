/- PeerMeets: the walk. -/
import Derived.Test.YtpacgblddeoheaaDoorPrMeets
namespace Go.Proofs.YtpacgblddeoheaaDoor.P22
open Go.RowKit Go.Deep M8 T7 Go.ChangeShapes Go.WideShapes Go.ChangeAt
set_option linter.unusedVariables false
set_option linter.unusedSimpArgs false
set_option maxRecDepth 100000
set_option maxHeartbeats 4000000
attribute [local go_sem ↓] Go.wp_at_zero Go.wp_at_succ

theorem meets_open {H : Type} {enc : TypeId × Value → H} {W : World} {base : Nat} {v : Value} {d : DataW H} {p : List MemPlace} (okv : Value.okWide Tryd.prog W .any base 68 v)
    (h : DataW.Trod enc Tryd.prog W 0 (fun _ => true) true 68 v d p) : ∃ (x y pc t : Nat), v = .agg #[.int .u64 (x : Int), .int .u64 (y : Int), .int .u8 (pc : Int), .int .u64 (t : Int)] ∧ x ≤ 18446744073709551615 ∧ y ≤ 18446744073709551615 ∧ pc ≤ 255 ∧ t ≤ 18446744073709551615 := by
  obtain ⟨v0, v1, v2, v3, y0, y1, y2, y3, m, rfl, _, _, h0, h1, h2, h3⟩ := Joins.open_agg4 Tryd.underlying68 (by kernel_rfl) (by kernel_rfl) okv h
  obtain ⟨x, e0, _, w0⟩ := DataW.trod_int Tryd.underlying27 h0
  obtain ⟨y, e1, _, w1⟩ := DataW.trod_int Tryd.underlying27 h1
  obtain ⟨pc, e2, _, w2⟩ := DataW.trod_int Tryd.underlying5 h2
  obtain ⟨t, e3, _, w3⟩ := DataW.trod_int Tryd.underlying27 h3
  injection e0 with e0; injection e1 with e1; injection e2 with e2; injection e3 with e3
  have w0 := wf_u64 w0
  have w1 := wf_u64 w1
  have w2 := wf_u8 w2
  have w3 := wf_u64 w3
  obtain ⟨x, rfl⟩ := Int.eq_ofNat_of_zero_le w0.1
  obtain ⟨y, rfl⟩ := Int.eq_ofNat_of_zero_le w1.1
  obtain ⟨pc, rfl⟩ := Int.eq_ofNat_of_zero_le w2.1
  obtain ⟨t, rfl⟩ := Int.eq_ofNat_of_zero_le w3.1
  refine ⟨x, y, pc, t, ?_, by omega, by omega, by omega, by omega⟩
  rw [e0, e1, e2, e3]
theorem sends_of (k n c : Nat) (hp : (Msgs.put (mOf (k, n, c))).2.2 = 0) (hk : k ≤ 100) (h9 : k ≠ 9) (hn : n < 18446744073709551616) (hc : c < 4294967296) : Sends (k, n, c) := ⟨hp, h9, hk, hn, hc⟩
theorem put_err0 (k : Int) (n c : Nat) (h : Msgs.errOf ⟨k, n, c, [], Txs.none⟩ = 0) (ht : (Msgs.shp k).tx = false) : (Msgs.put ⟨k, n, c, [], Txs.none⟩).2.2 = 0 := by
  unfold Msgs.put
  rw [h]
  simp [ht]
theorem sends_ver (n : Nat) (hn : n < 18446744073709551616) : Sends (1, n, 1) :=
  sends_of 1 n 1 (put_err0 1 n 1 (by simp [Msgs.errOf, Msgs.known, Msgs.misfit, Msgs.shp, Msgs.shN]) (by rfl)) (by decide) (by decide) hn (by decide)
theorem sends_ss : Sends (11, 0, 1) := sends_of 11 0 1 (put_err0 11 0 1 (by simp [Msgs.errOf, Msgs.known, Msgs.misfit, Msgs.shp, Msgs.shN]) (by rfl)) (by decide) (by decide) (by decide) (by decide)
theorem sends_va : Sends (2, 0, 0) := sends_of 2 0 0 (put_err0 2 0 0 (by simp [Msgs.errOf, Msgs.known, Msgs.misfit, Msgs.shp, Msgs.shN]) (by rfl)) (by decide) (by decide) (by decide) (by decide)
def ms (x y now : Nat) : Nat → PeerD × PeerD × List T3
  | 0 => (⟨true, x, 0, false, now, 0, false⟩, ⟨false, y, 0, false, now, 0, false⟩, [(1, x, 1)])
  | 1 => (⟨true, x, 2, true, now, 0, false⟩, ⟨false, y, 1, false, now, 0, false⟩, [(11, 0, 1), (2, 0, 0)])
  | _ => (⟨true, x, 2, true, now, 0, false⟩, ⟨false, y, 2, true, now, 0, false⟩, [])
/-- one round of the handshake -/
structure Round (x y now r : Nat) : Prop where
  b1 : (hearAll (ms x y now r).2.1 (ms x y now r).2.2).2.2 = true
  b2 : ∀ m ∈ (hearAll (ms x y now r).2.1 (ms x y now r).2.2).1, Sends m
  b3 : (hearAll (ms x y now r).2.1 (ms x y now r).2.2).1.length ≤ 100
  a1 : (hearAll (ms x y now r).1 (hearAll (ms x y now r).2.1 (ms x y now r).2.2).1).2.2 = true
  a2 : ∀ m ∈ (hearAll (ms x y now r).1 (hearAll (ms x y now r).2.1 (ms x y now r).2.2).1).1, Sends m
  a3 : (hearAll (ms x y now r).1 (hearAll (ms x y now r).2.1 (ms x y now r).2.2).1).1.length ≤ 100
  nx : ms x y now (r + 1) = ((hearAll (ms x y now r).1 (hearAll (ms x y now r).2.1 (ms x y now r).2.2).1).2.1, (hearAll (ms x y now r).2.1 (ms x y now r).2.2).2.1, (hearAll (ms x y now r).1 (hearAll (ms x y now r).2.1 (ms x y now r).2.2).1).1)
  l1 : ∀ m ∈ (ms x y now r).2.2, Sends m
  l2 : (ms x y now r).2.2.length ≤ 100
  s1 : (ms x y now r).1.step ≤ 2 ∧ (ms x y now r).2.1.step ≤ 2
theorem round_of (x y now r : Nat) (hxy : x ≠ y) (hx : x < 18446744073709551616) (hy : y < 18446744073709551616) : Round x y now r := by
  have hxy' : ¬ ((x : Int) = (y : Int)) := by omega
  have hyx' : ¬ ((y : Int) = (x : Int)) := by omega
  have sx := sends_ver x hx
  have sy := sends_ver y hy
  have s1 := sends_ss
  have s2 := sends_va
  match r with
  | 0 =>
    have hB : hearAll (ms x y now 0).2.1 (ms x y now 0).2.2 = ([(1, y, 1), (11, 0, 1), (2, 0, 0)], ⟨false, y, 1, false, now, 0, false⟩, true) := by simp [ms, hearAll, heard, hxy']
    have hA : hearAll (ms x y now 0).1 [(1, y, 1), (11, 0, 1), (2, 0, 0)] = ([(11, 0, 1), (2, 0, 0)], ⟨true, x, 2, true, now, 0, false⟩, true) := by simp [ms, hearAll, heard, hyx']
    refine ⟨?_, ?_, ?_, ?_, ?_, ?_, ?_, ?_, ?_, ?_⟩ <;> (try simp only [hB, hA])
    all_goals first | rfl | decide | (simp [ms]; done) | (intro m hm; simp only [List.mem_cons, List.not_mem_nil, or_false, ms] at hm; rcases hm with rfl | rfl | rfl <;> assumption) | (intro m hm; simp only [List.mem_cons, List.not_mem_nil, or_false, ms] at hm; rcases hm with rfl | rfl <;> assumption) | (intro m hm; simp only [List.mem_cons, List.not_mem_nil, or_false, ms] at hm; subst hm; assumption)
  | 1 =>
    have hB : hearAll (ms x y now 1).2.1 (ms x y now 1).2.2 = ([], ⟨false, y, 2, true, now, 0, false⟩, true) := by simp [ms, hearAll, heard]
    have hA : hearAll (ms x y now 1).1 [] = ([], ⟨true, x, 2, true, now, 0, false⟩, true) := by simp [ms, hearAll]
    refine ⟨?_, ?_, ?_, ?_, ?_, ?_, ?_, ?_, ?_, ?_⟩ <;> (try simp only [hB, hA])
    all_goals first | rfl | decide | (simp [ms]; done) | (intro m hm; simp only [List.mem_cons, List.not_mem_nil, or_false, ms] at hm; rcases hm with rfl | rfl <;> assumption) | (intro m hm; simp at hm)
  | r + 2 =>
    have hB : hearAll (ms x y now (r + 2)).2.1 (ms x y now (r + 2)).2.2 = ([], ⟨false, y, 2, true, now, 0, false⟩, true) := by simp [ms, hearAll]
    have hA : hearAll (ms x y now (r + 2)).1 [] = ([], ⟨true, x, 2, true, now, 0, false⟩, true) := by simp [ms, hearAll]
    refine ⟨?_, ?_, ?_, ?_, ?_, ?_, ?_, ?_, ?_, ?_⟩ <;> (try simp only [hB, hA])
    all_goals first | rfl | decide | (simp [ms]; done) | (intro m hm; simp [ms] at hm)
theorem peerMeets_walk (w : World) (hlay : Laid w) (x y pc t : Nat) (hx : x ≤ 18446744073709551615) (hy : y ≤ 18446744073709551615) (hpc : pc ≤ 255) (ht : t ≤ 18446744073709551615) :
    Calls Tryd.prog 5 #[.agg #[.int .u64 (x : Int), .int .u64 (y : Int), .int .u8 (pc : Int), .int .u64 (t : Int)]] w fun r w' => r = .returned (.bool true) ∧ Below w.heap.size w w' := by
  have HLY := Lib.hid hlay
  have hl1 := hlay.lc
  have hl2 := hlay.lf
  obtain ⟨w1, hw1⟩ : ∃ w1, w1 = w.alloc (.cells #[.int .u64 (x : Int), .int .u64 (y : Int), .int .u8 (pc : Int), .int .u64 (t : Int)] 68) := ⟨_, rfl⟩
  have HB1 := Lib.hid (show Below w.heap.size w w1 by rw [hw1]; exact Joins.below_alloc1 _ _)
  have HK1 := Lib.hid (show Bk w1 w.heap.size 68 #[.int .u64 (x : Int), .int .u64 (y : Int), .int .u8 (pc : Int), .int .u64 (t : Int)] by rw [hw1]; exact Bk.new _ _ _)
  have hxw : w.heap.size < w1.heap.size := HK1.out.lt
  have hp0 : (0 : Int) ≤ (pc : Int) := by omega
  have hp1 : (pc : Int) ≤ 255 := by omega
  clear hlay
  go_enter Tryd.func5, Tryd.ntmps5
  go_upto_region 1 with (fail)
  rw [← hw1]
  clear hw1
  go_wp2_with fail
  refine (P22.alive_any w1).mono ?_
  rintro e w2 ⟨rfl, hb2⟩
  have HB2 := Lib.hid (HB1.out.trans (hb2.mono HB1.out.size))
  have hk2 := HK1.out.below hb2 hxw
  have hs2 := hb2.size
  have q0 : w2.cell? ⟨w.heap.size, 0, none⟩ = some (.int .u64 (x : Int)) := (hk2.cell 0).trans rfl
  have q1 : w2.cell? ⟨w.heap.size, 1, none⟩ = some (.int .u64 (y : Int)) := (hk2.cell 1).trans rfl
  have q2 : w2.cell? ⟨w.heap.size, 2, none⟩ = some (.int .u8 (pc : Int)) := (hk2.cell 2).trans rfl
  have q3 : w2.cell? ⟨w.heap.size, 3, none⟩ = some (.int .u64 (t : Int)) := (hk2.cell 3).trans rfl
  clear hb2 hk2 HK1
  go_upto_region 3 with (fail)
  go_quiet (fail)
  obtain ⟨w3, hw3⟩ : ∃ w3, w3 = w2.drewN nq := ⟨_, rfl⟩
  rw [← hw3]
  have HB3 := Lib.hid (show Below w.heap.size w w3 by rw [hw3]; exact below_drewN HB2.out nq)
  have hs3 : w2.heap.size = w3.heap.size := by rw [hw3]; rfl
  have HS3 := Lib.hid hs3
  clear q0 q1 q2 q3 hw3 hs3
  go_wp2_with fail
  refine (new_any true x t w3).mono ?_
  rintro e w4 ⟨pa, FA, GA, qa, rfl, hNA⟩
  have HNA := Lib.hid hNA
  have HB4 := Lib.hid (HB3.out.trans (hNA.below.mono HB3.out.size))
  clear hNA
  go_wp2_with fail
  refine (new_any false y t w4).mono ?_
  rintro e w5 ⟨pb, FB, GB, qb, rfl, hNB⟩
  have HNB := Lib.hid hNB
  have HB5 := Lib.hid (HB4.out.trans (hNB.below.mono HB4.out.size))
  have HPA := Lib.hid (HNA.out.peer.below hNB.below)
  have HPB := Lib.hid hNB.peer
  have HFA := Lib.hid ((HNA.out.fl w5.heap.size).kp (Kp.of_below (S := fun _ => False) hNB.below) (fun h => h) (fun _ _ h => h))
  have HFB := Lib.hid (hNB.fl w5.heap.size)
  obtain ⟨B0, hB0⟩ : ∃ B0, B0 = w5.heap.size := ⟨_, rfl⟩
  have ha1 := HNA.out.hb
  have ha2 := HNA.out.ne
  have ha3 := HNA.out.peer.lt
  have hb1 := hNB.hb
  have hb2 := hNB.ne
  have hb3 := hNB.peer.lt
  have hsw := HB3.out.size
  have hs4 := hNB.below.size
  have hlt : w.heap.size ≤ FA ∧ w.heap.size ≤ pa ∧ w.heap.size ≤ FB ∧ w.heap.size ≤ pb ∧ FA < B0 ∧ pa < B0 ∧ FB < B0 ∧ pb < B0 ∧ FA ≠ FB ∧ FA ≠ pb ∧ pa ≠ FB ∧ pa ≠ pb ∧ FA ≠ pa ∧ FB ≠ pb := by omega
  obtain ⟨XA, hXA⟩ : ∃ XA : Ptrs, XA = (some ⟨FA, 0, none⟩, some ⟨GA, 0, none⟩, qa) := ⟨_, rfl⟩
  obtain ⟨XB, hXB⟩ : ∃ XB : Ptrs, XB = (some ⟨FB, 0, none⟩, some ⟨GB, 0, none⟩, qb) := ⟨_, rfl⟩
  rw [← hXA] at HPA
  rw [← hXB] at HPB
  have HXA := Lib.hid hXA
  have HXB := Lib.hid hXB
  have HB0 := Lib.hid hB0
  obtain ⟨im, hi, hz0, hz1', hz2⟩ := info_parts msg_info
  have Mi := Lib.hid hi
  have Mz := Lib.hid hz0
  have Mz1 := Lib.hid hz1'
  have Mz2 := Lib.hid hz2
  clear hXA hXB hNB ha1 ha2 ha3 hb1 hb2 hb3 hsw hs4 hi hz0 hz1' hz2 HNA HNB hB0
  go_wp2_with fail
  refine (open_out pa _ w5 HPA.out rfl).mono ?_
  rintro e w6 ⟨v6, rfl, ho6, hb6⟩
  obtain ⟨A6, c6, hv6, _⟩ := own_form (show w6.ownsRow _ _ _ _ _ _ from ho6)
  have HO6 := Lib.hid ho6
  have HB56 := Lib.hid hb6
  have HPB6 := Lib.hid (HPB.out.below hb6)
  have hs6 := hb6.size
  clear hb6 ho6
  subst hv6
  simp only [List.length_cons, List.length_nil] at HO6 ⊢
  go_wp2_with fail
  refine (open_in pb _ w6 HPB6.out rfl).mono ?_
  rintro e w7 ⟨rfl, rfl⟩
  have HU6 := Lib.hid (show w6.ownsRow w5.heap.size 51 7 (.slice A6 1 c6) 1 (msgCells 1 x 1).toList by have := HO6.out; unfold Outs at this; simpa using this)
  go_wp2_with (at_builtin; go_must (refine wpList_app _ rfl (.tmp 42) (.tmp 44) _ rfl w5.heap.size 51 im _ 7 104 Tryd.underlying42 Mi.out Mz.out Mz1.out Mz2.out rfl (by decide) (.slice A6 1 c6) 1 _ (by rfl) HU6.out none 0 0 [] (by rfl) (by rfl) (fun j u hu => by simp at hu) (fun u hu => by simp at hu) (by simp [maxLen]) (by omega) hs6 ?_); intro v8 w8 hrow8 hg8 hat8)
  have HB58 := Lib.hid (show Below w5.heap.size w5 w8 from Kp.from_elder HB56.out (S := fun i => (Value.slice A6 1 c6).ownBlock = some i) ((Kp.refl _ _).grown hg8 (fun k hk _ => hk)) (fun i hi e => by have := (own_lt HU6.out i e).1; omega))
  obtain ⟨A8, c8, hv8, _⟩ := own_form hrow8
  have HO8 := Lib.hid (show Outs w8 w5.heap.size (.slice A8 1 c8) [(1, x, 1)] by
    rw [hv8] at hrow8
    unfold Outs
    simpa using hrow8)
  have HL8 := Lib.hid (HLY.out.below (HB5.out.trans (HB58.out.mono HB5.out.size)))
  have hsz8 := HB58.out.size
  clear hrow8 hg8 hat8 HU6 HO6 HPB6 HB56
  subst hv8
  have HSD := Lib.hid (send_any [(1, x, 1)] (fun m hm => by rw [List.mem_singleton.1 hm]; exact sends_ver x (by omega)) (by simp) w5.heap.size A8 1 c8 w8 HO8.out HL8.out)
  refine HSD.out.mono ?_
  rintro e w9 ⟨v9, rfl, ho9, hb9⟩
  have HB59 := Lib.hid (HB58.out.trans (hb9.mono hsz8))
  have HO9 := Lib.hid (show OwnB w9 B0 v9 ((ms x y t 0).2.2.flatMap fr) by rw [HB0.out]; exact own_mono ho9 hsz8)
  have HPA9 := Lib.hid (HPA.out.below HB59.out)
  have HPB9 := Lib.hid (HPB.out.below HB59.out)
  have HFA9 := Lib.hid (HFA.out.kp (Kp.of_below (S := fun _ => False) HB59.out) (fun h => h) (fun _ _ h => h))
  have HFB9 := Lib.hid (HFB.out.kp (Kp.of_below (S := fun _ => False) HB59.out) (fun h => h) (fun _ _ h => h))
  have HB9 := Lib.hid (HB5.out.trans (HB59.out.mono HB5.out.size))
  have hB09 : B0 ≤ w9.heap.size := by rw [HB0.out]; exact HB59.out.size
  have hpa5 : pa < w5.heap.size := HPA.out.lt
  have HPBW := Lib.hid (show w.heap.size ≤ pb by omega)
  clear ho9 hb9 HSD HO8 HL8 HB58 HPA HPB HFA HFB hs6 hsz8
  by_cases hxy : x = y
  · subst hxy
    go_wp2_with fail
    refine (open_out pa _ w9 HPA9.out rfl).mono ?_
    rintro e wo ⟨vo, rfl, hoo, hbo⟩
    obtain ⟨Ao, co, hvo, _⟩ := own_form (show wo.ownsRow _ _ _ _ _ _ from hoo)
    obtain ⟨n1, hn1⟩ : ∃ n1, n1 = [(1, x, 1)].length := ⟨_, rfl⟩
    rw [← hn1] at hvo
    subst hvo
    obtain ⟨_, hco, hcm, hrng⟩ := hoo.range
    have hn1a : 1 ≤ n1 := by rw [hn1]; simp
    have hn1b : n1 ≤ 1 := by rw [hn1]; simp
    obtain ⟨bo, rfl, hbl, hcells⟩ := hrng 0 (by simp)
    obtain ⟨kk, hkk⟩ : ∃ kk : Nat, kk = 1 := ⟨_, rfl⟩
    obtain ⟨cc, hcc⟩ : ∃ cc : Nat, cc = 1 := ⟨_, rfl⟩
    have hcells1 : wo.rangeAt bo (0 * 7) (msgCells kk x cc).toList := by rw [hkk, hcc]; exact hcells
    have hhd : heard ⟨false, x, 0, false, t, 0, false⟩ (kk : Int) (x : Int) (cc : Int) = ([], 22, true, ⟨false, x, 0, false, t, 0, false⟩) := by rw [hkk, hcc]; simp [heard]
    have HHD := Lib.hid hhd
    have HC1 := Lib.hid hcells1
    have HBO := Lib.hid (HB9.out.trans (hbo.mono HB9.out.size))
    have HPBO := Lib.hid (HPB9.out.below hbo)
    obtain ⟨zm, hzm⟩ : ∃ zm, zm = msgCells 0 0 0 := ⟨_, rfl⟩
    have HZM := Lib.hid (show (Tryd.prog.info? 51).map (·.zero) = some (some (.agg zm)) by rw [hzm]; exact zero_msg22)
    have HZL := Lib.hid (show zm.size = 7 by rw [hzm]; rfl)
    clear hn1 hoo hrng hcells hcells1 hhd hkk hcc hzm hbo HPA9 HPB9 HFA9 HFB9 HO9 HB59 hB09 hlt hpa5
    go_wp2_with fail
    go_loopw [57] (fun iv wr => ∃ j : Nat, iv = .int .i64 (j : Int) ∧ Hid (j = 0) ∧ Hid (wr = wo)) (fun _ _ => 0)
    case atStart => exact ⟨0, rfl, Lib.hid rfl, Lib.hid rfl⟩
    case round =>
      obtain ⟨j, rfl, hj, hwr⟩ := hrel
      obtain rfl := hwr.out
      obtain ⟨cs, hcs⟩ : ∃ cs, cs = (msgCells kk x cc).toList := ⟨_, rfl⟩
      have HR := Lib.hid (show wr.rangeAt bo (j * 7) cs by rw [hj.out, hcs]; exact HC1.out)
      have HL := Lib.hid (show cs.length = 7 by rw [hcs]; rfl)
      have HONE := Lib.hid (show ∀ u ∈ cs, u.oneCell' = true by rw [hcs]; simp [msgCells, Value.oneCell'])
      obtain ⟨wx, hwx⟩ : ∃ wx, wx = wr.alloc (.cells cs.toArray 51) := ⟨_, rfl⟩
      obtain ⟨Y, hY⟩ : ∃ Y, Y = wr.heap.size := ⟨_, rfl⟩
      have HBX := Lib.hid (show Below wr.heap.size wr wx by rw [hwx]; exact Joins.below_alloc1 _ _)
      have HBWX := Lib.hid (HBO.out.trans (HBX.out.mono HBO.out.size))
      have HKX := Lib.hid (show Bk wx Y 51 (msgCells kk x cc) by rw [hwx, hY, hcs, Array.toArray_toList]; exact Bk.new _ _ _)
      have HXL := Lib.hid (show Y < wx.heap.size from HKX.out.lt)
      obtain ⟨k0, k1, k2, k3, k4, k5, k6⟩ := M8.msg_cells (w := wx) (g := Y) (T := 51) (k := (kk : Int)) (n := x) (code := cc) (v := 0) (I := .slice none 0 0) (i := .slice none 0 0) (o := .slice none 0 0) HKX.out
      have HHE := Lib.hid (hear_any pb ⟨false, x, 0, false, t, 0, false⟩ (kk : Int) (x : Int) (cc : Int) ⟨none, 0, 0, 0, none, 0, 0, none, 0, 0⟩ wx (HPBO.out.below HBX.out) (by omega) (Nat.zero_le _))
      unfold HearP msgV at HHE
      rw [HHD.out] at HHE
      simp only at HHE
      have i4 : (0 : Int) ≤ (j : Int) := by omega
      have i5 : (j : Int) < (n1 : Int) := by have := hj.out; omega
      have hpw : w.heap.size ≤ pb := HPBW.out
      go_upto_region 13 with (refine wpList_elem rfl rfl rfl 51 (.tmp 59) (.tmp 13) (.tmp 60) rfl rfl rfl bo (j * 7) (by rfl) cs _ HR.out Tryd.underlying51 rfl (by rw [HL.out]; exact msg_size) zm HZM.out (by rw [HZL.out, HL.out]) HONE.out (by rfl) (by rfl) ?_)
      rw [← hwx, ← hY]
      clear hwx hY
      go_wp2_with fail
      refine HHE.out.mono ?_
      rintro e wy ⟨vy, rfl, _, hpy, hky⟩
      have HPY := Lib.hid hpy
      have HBY := Lib.hid (Kp.from_elder HBWX.out hky (fun i hi e => by have e' : i = pb := e; omega))
      clear hpy hky HHE
      go_wp2_with fail
      have HRY := Lib.hid ((ready_any pb _ wy HPY.out).mono (fun e w' h => (⟨h.1.trans (by rfl), h.2⟩ : e = .returned (.bool false) ∧ wy = w')))
      refine HRY.out.mono ?_
      rintro e wz ⟨rfl, rfl⟩
      go_wp2_with fail
      all_goals go_ret
      all_goals exact ⟨rfl, HBY.out⟩
  · have hi : ¬ ((x : Int) = (y : Int)) := by omega
    have HRD := Lib.hid (fun r => round_of x y t r hxy (by omega) (by omega))
    have hbq : ((x : Int) == (y : Int)) = false := by simpa using hi
    have hdq : decide ((x : Int) = (y : Int)) = false := by simp [hi]
    go_wp2_with fail
    try simp only [hbq, hdq]
    go_loopw [10, 79] (fun bv iv wr => ∃ r : Nat, iv = .int .i64 (r : Int) ∧ r ≤ 3 ∧ Hid (IsPeer XA wr pa (ms x y t r).1) ∧ Hid (IsPeer XB wr pb (ms x y t r).2.1) ∧ Hid (FlowS wr FA B0 (.slice none 0 0) ([], false)) ∧ Hid (FlowS wr FB B0 (.slice none 0 0) ([], false)) ∧ Hid (OwnB wr B0 bv ((ms x y t r).2.2.flatMap fr)) ∧ Hid (Below w.heap.size w wr) ∧ Hid (B0 ≤ wr.heap.size)) (fun _ iv _ => 3 - (intOf iv).toNat)
    case atStart => exact ⟨0, rfl, Nat.zero_le _, HPA9, HPB9, Lib.hid (FlowS.any HFA9.out B0), Lib.hid (FlowS.any HFB9.out B0), HO9, HB9, Lib.hid hB09⟩
    case round =>
      clear HPA9 HPB9 HFA9 HFB9 HO9 HB9 hB09 HB59 hpa5
      obtain ⟨r, rfl, hr, hpa, hpb, hfa, hfb, how, hbr, hbs⟩ := hrel
      by_cases hlt3 : r < 3
      · have hr1 : (r : Int) < 3 := by omega
        have hr0 : (0 : Int) ≤ (r : Int) := by omega
        obtain ⟨hx1, hx2, hx3, hx4, hx5, hx6, hx7, hx8, hx9, hx10⟩ := HRD.out r
        obtain ⟨LB, hLB⟩ : ∃ LB, LB = hearAll (ms x y t r).2.1 (ms x y t r).2.2 := ⟨_, rfl⟩
        rw [← hLB] at hx1 hx2 hx3 hx4 hx5 hx6 hx7
        obtain ⟨LA, hLA⟩ : ∃ LA, LA = hearAll (ms x y t r).1 LB.1 := ⟨_, rfl⟩
        rw [← hLA] at hx4 hx5 hx6 hx7
        have HLB := Lib.hid hLB
        have HLA := Lib.hid hLA
        have X2 := Lib.hid hx2
        have X3 := Lib.hid hx3
        have X4 := Lib.hid hx4
        have X5 := Lib.hid hx5
        have X6 := Lib.hid hx6
        have X7 := Lib.hid hx7
        have X10 := Lib.hid hx10
        obtain ⟨Ab, cb, rfl, hnb, hmb, hatb, hab⟩ := OwnB.at_ how.out
        obtain ⟨nb, hnb0⟩ : ∃ nb, nb = ((ms x y t r).2.2.flatMap fr).length := ⟨_, rfl⟩
        rw [← hnb0] at hnb ⊢
        have hsr := hbr.out.size
        have hsb := hbs.out
        have HHB := Lib.hid (hears_any XB pb FB GB qb HXB.out _ _ hx8 hx9 (by rw [← hLB]; exact hx1) hx10.2 Ab nb cb (pc + 1) (by omega) (by omega) wr hpb.out (FlowS.any hfb.out _) (by omega) hatb hnb0.symm hnb hmb (fun a ha => by have := hab a ha; omega) (HLY.out.below hbr.out) ⟨by omega, by omega, by omega⟩ ⟨by omega, by omega, by omega⟩)
        rw [show ((pc + 1 : Nat) : Int) = (pc : Int) + 1 from rfl] at HHB
        have HLT := Lib.hid hlt
        clear hx1 hx2 hx3 hx4 hx5 hx6 hx7 hx8 hx9 hx10 hLB hLA hnb0 hatb hab
        go_wp2_with fail
        refine HHB.out.mono ?_
        rintro e wa ⟨va, rfl, g1, g2, g3, g4⟩
        rw [← HLB.out] at g1 g2
        obtain ⟨A1, c1, hv1, _⟩ := own_form (show wa.ownsRow _ _ _ _ _ _ from g1)
        obtain ⟨n1, hn1⟩ : ∃ n1, n1 = LB.1.length := ⟨_, rfl⟩
        rw [← hn1] at hv1
        subst hv1
        have HBa := Lib.hid (Kp.from_elder hbr.out g4 (fun i hi e => e.elim (fun e => by have e' : i = pb := e; have := HLT.out; omega) (fun e => by have e' : i = FB := e; have := HLT.out; omega)))
        have HPAa := Lib.hid (hpa.out.kp g4 (fun e => e.elim (fun e => by have e' : pa = pb := e; have := HLT.out; omega) (fun e => by have e' : pa = FB := e; have := HLT.out; omega)))
        have HFAa := Lib.hid (hfa.out.kp g4 (fun e => e.elim (fun e => by have e' : FA = pb := e; have := HLT.out; omega) (fun e => by have e' : FA = FB := e; have := HLT.out; omega)) (fun i hi => by cases hi))
        have HPBa := Lib.hid g2
        have HFBa := Lib.hid (FlowS.any g3 B0)
        have hsa := g4.size
        have HSD1 := Lib.hid (send_any LB.1 X2.out X3.out wr.heap.size A1 n1 c1 wa g1 (HLY.out.below HBa.out))
        clear g1 g2 g3 g4 hn1 HHB
        go_wp2_with fail
        refine HSD1.out.mono ?_
        rintro e wb ⟨vb, rfl, s1, s2⟩
        have hsb2 := s2.size
        obtain ⟨Av, cv, rfl, hnv, hmv, hatv, hav⟩ := OwnB.at_ s1
        obtain ⟨nv, hnv0⟩ : ∃ nv, nv = (LB.1.flatMap fr).length := ⟨_, rfl⟩
        rw [← hnv0] at hnv ⊢
        have HBb := Lib.hid (HBa.out.trans (s2.mono HBa.out.size))
        have HPAb := Lib.hid (HPAa.out.below s2)
        have HPBb := Lib.hid (HPBa.out.below s2)
        have HFAb := Lib.hid (HFAa.out.kp (Kp.of_below (S := fun _ => False) s2) (fun h => h) (fun _ _ h => h))
        have HFBb := Lib.hid (HFBa.out.kp (Kp.of_below (S := fun _ => False) s2) (fun h => h) (fun _ _ h => h))
        have hsb3 := HBb.out.size
        have HHA := Lib.hid (hears_any XA pa FA GA qa HXA.out _ LB.1 X2.out X3.out (by rw [← HLA.out]; exact X4.out) X10.out.1 Av nv cv (pc + 1) (by omega) (by omega) wb HPAb.out (FlowS.any HFAb.out _) (by omega) hatv hnv0.symm hnv hmv (fun a ha => by have := hav a ha; omega) (HLY.out.below HBb.out) ⟨by omega, by omega, by omega⟩ ⟨by omega, by omega, by omega⟩)
        rw [show ((pc + 1 : Nat) : Int) = (pc : Int) + 1 from rfl] at HHA
        clear s1 s2 hatv hav hnv0 HSD1 HPAa HPBa HFAa HFBa HBa
        go_wp2_with fail
        refine HHA.out.mono ?_
        rintro e wc ⟨vc, rfl, g1, g2, g3, g4⟩
        rw [← HLA.out] at g1 g2
        obtain ⟨A2, c2, hv2, _⟩ := own_form (show wc.ownsRow _ _ _ _ _ _ from g1)
        obtain ⟨n2, hn2⟩ : ∃ n2, n2 = LA.1.length := ⟨_, rfl⟩
        rw [← hn2] at hv2
        subst hv2
        have HBc := Lib.hid (Kp.from_elder HBb.out g4 (fun i hi e => e.elim (fun e => by have e' : i = pa := e; have := HLT.out; omega) (fun e => by have e' : i = FA := e; have := HLT.out; omega)))
        have HPBc := Lib.hid (HPBb.out.kp g4 (fun e => e.elim (fun e => by have e' : pb = pa := e; have := HLT.out; omega) (fun e => by have e' : pb = FA := e; have := HLT.out; omega)))
        have HFBc := Lib.hid (HFBb.out.kp g4 (fun e => e.elim (fun e => by have e' : FB = pa := e; have := HLT.out; omega) (fun e => by have e' : FB = FA := e; have := HLT.out; omega)) (fun i hi => by cases hi))
        have HPAc := Lib.hid g2
        have HFAc := Lib.hid (FlowS.any g3 B0)
        have hsc := g4.size
        have HSD2 := Lib.hid (send_any LA.1 X5.out X6.out wb.heap.size A2 n2 c2 wc g1 (HLY.out.below HBc.out))
        clear g1 g2 g3 g4 hn2 HHA HPAb HPBb HFAb HFBb HBb
        go_wp2_with fail
        refine HSD2.out.mono ?_
        rintro e wd ⟨vd, rfl, s1, s2⟩
        have hsd := s2.size
        have HN1 := Lib.hid (show IsPeer XA wd pa (ms x y t (r + 1)).1 by rw [X7.out]; exact HPAc.out.below s2)
        have HN2 := Lib.hid (show IsPeer XB wd pb (ms x y t (r + 1)).2.1 by rw [X7.out]; exact HPBc.out.below s2)
        have HN3 := Lib.hid (HFAc.out.kp (Kp.of_below (S := fun _ => False) s2) (fun h => h) (fun _ _ h => h))
        have HN4 := Lib.hid (HFBc.out.kp (Kp.of_below (S := fun _ => False) s2) (fun h => h) (fun _ _ h => h))
        have HN5 := Lib.hid (show OwnB wd B0 vd ((ms x y t (r + 1)).2.2.flatMap fr) by rw [X7.out]; exact own_mono s1 (by omega))
        have HN6 := Lib.hid (HBc.out.trans (s2.mono HBc.out.size))
        have HN7 := Lib.hid (show B0 ≤ wd.heap.size by omega)
        clear s1 s2 HSD2 HPAc HPBc HFAc HFBc HBc
        go_wp2_with fail
        go_roundw
        case rel => exact ⟨r + 1, by first | go_num | rfl, by omega, HN1, HN2, HN3, HN4, HN5, HN6, HN7⟩
        case measure => first | (show 3 - (r + 1) < 3 - r; omega) | (simp [intOf]; omega)
      · have hr3 : r = 3 := by omega
        have hge : ¬ ((r : Int) < 3) := by omega
        have hr0 : (0 : Int) ≤ (r : Int) := by omega
        have HP1 := Lib.hid (show IsPeer XA wr pa ⟨true, x, 2, true, t, 0, false⟩ by have := hpa.out; rw [hr3] at this; exact this)
        have HP2 := Lib.hid (show IsPeer XB wr pb ⟨false, y, 2, true, t, 0, false⟩ by have := hpb.out; rw [hr3] at this; exact this)
        have how3 : OwnB wr B0 u10 [] := by have := how.out; rw [hr3] at this; exact this
        obtain ⟨Ae, ce, hve, _⟩ := own_form how3
        simp only [List.length_nil] at hve
        subst hve
        have HQ1 := Lib.hid ((ready_any pa _ wr HP1.out).mono (fun e w' h => (⟨h.1.trans (by rfl), h.2⟩ : e = .returned (.bool true) ∧ wr = w')))
        have HQ2 := Lib.hid ((ready_any pb _ wr HP2.out).mono (fun e w' h => (⟨h.1.trans (by rfl), h.2⟩ : e = .returned (.bool true) ∧ wr = w')))
        have HQ3 := Lib.hid ((stem_any pa _ wr HP1.out).mono (fun e w' h => (⟨h.1.trans (by rfl), h.2⟩ : e = .returned (.bool true) ∧ wr = w')))
        have HQ4 := Lib.hid ((stem_any pb _ wr HP2.out).mono (fun e w' h => (⟨h.1.trans (by rfl), h.2⟩ : e = .returned (.bool true) ∧ wr = w')))
        clear how3 hr3
        go_wp2_with fail
        refine HQ1.out.mono ?_
        rintro e we ⟨rfl, rfl⟩
        go_wp2_with fail
        refine HQ2.out.mono ?_
        rintro e we ⟨rfl, rfl⟩
        go_wp2_with fail
        refine HQ3.out.mono ?_
        rintro e we ⟨rfl, rfl⟩
        go_wp2_with fail
        refine HQ4.out.mono ?_
        rintro e we ⟨rfl, rfl⟩
        go_wp2_with fail
        go_ret
        exact ⟨rfl, hbr.out⟩
end Go.Proofs.YtpacgblddeoheaaDoor.P22
