/- OrphanApart: the walk. -/
import Derived.Test.YtacbibflhdmcoaaDoorOrphanFew
namespace Go.Proofs.YtacbibflhdmcoaaDoor
open Go.RowKit Go.Deep T7 O14 Go.ChangeShapes Go.WideShapes Go.ChangeAt
set_option linter.unusedVariables false
set_option linter.unusedSimpArgs false
set_option maxRecDepth 100000
set_option maxHeartbeats 4000000
attribute [local go_sem ↓] Go.wp_at_zero Go.wp_at_succ

theorem filter_two {α : Type} (l : List α) (p q : α → Bool) : (l.filter fun x => p x || q x).length = (l.filter p).length + ((l.filter fun x => !p x).filter q).length ∧ (l.filter fun x => !(p x || q x)) = ((l.filter fun x => !p x).filter fun x => !q x) := by
  induction l with
  | nil => simp
  | cons x l ih =>
    obtain ⟨h1, h2⟩ := ih
    cases hp : p x <;> cases hq : q x <;> simp_all [List.filter_cons] <;> omega
theorem spends_two (a b : List UInt8) (t : Txs.Tx) : spends [a, b] t = (spends [a] t || spends [b] t) := by
  unfold spends
  induction t.ins with
  | nil => rfl
  | cons x l ih =>
    simp only [List.any_cons, List.any_nil, Bool.or_false] at ih ⊢
    rw [ih]
    cases decide (a = x.hash) <;> cases decide (b = x.hash) <;> simp
section
variable {P : Program} {ops : Array Oper}
/-- a slice literal of two structs -/
theorem wpList_buildTwo {rest : List Oper} {o : Oper} {a : Go.Act} {w : World} {Q : Exit → Go.Act → World → Prop} (hg : o.guard = none) (t e : TypeId) (x y : Operand) (ho : o.op = .buildSlice t 2 #[(0, x), (1, y)])
    (c1 c2 : List Value) (hx : a.eval x = .agg c1.toArray) (hy : a.eval y = .agg c2.toArray) (hl : c2.length = c1.length) (hu : P.underlying t = some (.slice e)) (hi : (P.info? e).map (·.size) = some c1.length) (zs : Array Value) (hz : (P.info? e).map (·.zero) = some (some (.agg zs))) (hpos : 0 < c1.length) (hsmall : c1.length ≤ 1000)
    (h : wpList P ops Q rest (a.put o.dst (.slice (some ⟨w.heap.size, 0, none⟩) 2 2)) (w.alloc (.cells (c1 ++ c2).toArray e))) : wpList P ops Q (o :: rest) a w := by
  obtain ⟨ie, hie, hsz⟩ := Option.map_eq_some_iff.1 hi
  have hzz : ie.zero = some (.agg zs) := by rw [hie] at hz; simpa using hz
  refine wpList_buildSlice hg t e 2 #[(0, x), (1, y)] ho (c1 ++ c2).toArray ie (.agg zs) hu hie hzz (by rw [hsz]; omega) (by rw [hsz]; omega) ?_ h
  have := Great.fill_whole (s := c1.length) hpos [.agg c1.toArray, .agg c2.toArray] ((Array.range (2 * c1.length)).map ((Value.agg zs).cells[· % (Value.agg zs).cells.size]!)) (by intro v hv; simp only [List.mem_cons, List.not_mem_nil, or_false] at hv; rcases hv with rfl | rfl <;> simp [Value.cells, hl]) (by simp)
  rw [hsz]
  simpa [hx, hy, Value.cells] using this
end
theorem At.kpX {α : Type} {k : Nat} {R : List Value → α → Prop} {w w' : World} {B : Nat} {A : Option Addr} {l : List α} {S : Nat → Prop} (h : At k R w B A l) (hB : B ≤ w.heap.size) (hk : Kp S w w') (hS : ∀ b off, A = some ⟨b, off, none⟩ → ¬ S b) : At k R w' w'.heap.size A l := fun i hi => by
  obtain ⟨b, off, vs, h1, h2, h3, h4⟩ := h i hi
  have hb : b < w.heap.size := Nat.lt_of_lt_of_le h2 hB
  exact ⟨b, off, vs, h1, Nat.lt_of_lt_of_le hb hk.size, h3, fun j hj => (hk.cell (p := ⟨b, _, none⟩) hb (hS b off h1)).trans (h4 j hj)⟩
theorem all0_any (es : List Ent) (O : Nat) (A : Option Addr) (cap : Nat) (w : World) (hbk : Bk w O 82 #[.slice A es.length cap]) (hat : At 37 IsE0 w w.heap.size A es) (hn : es.length ≤ 1000) :
    Calls Tryd.prog 18 #[.pointer (some ⟨O, 0, none⟩)] w fun e w' => ∃ A1 c1, e = .returned (.slice A1 es.length c1) ∧ IdsAt w.heap.size w' (.slice A1 es.length c1) (es.map Ent.id) ∧ Below w.heap.size w w' := by
  have HC := Lib.hid (ids_any es A cap w.heap.size w hat (Nat.le_refl _) hn)
  have c0 : w.cell? ⟨O, 0, none⟩ = some (.slice A es.length cap) := (hbk.cell 0).trans rfl
  clear hbk hat
  go_enter Tryd.func18, Tryd.ntmps18
  go_wp2_with fail
  refine HC.out.mono ?_
  rintro e w' ⟨A1, c1, rfl, h3, h4⟩
  go_wp2_with fail
  go_ret
  exact ⟨_, _, rfl, h3, h4⟩
theorem own_src {w : World} {base : Nat} {e : TypeId} {size : Nat} {A : Option Addr} {n c : Nat} {xs : List Value} (h : w.ownsRow base e size (.slice A n c) n xs) : Src w A xs := by
  obtain ⟨A', cap, hv, _, _, _, hc⟩ := own_form h
  injection hv with hv _ _
  subst hv
  intro j u hu
  obtain ⟨b, hA, _, _, hcj⟩ := hc j u hu
  refine ⟨_, hA, ?_⟩
  have e : (⟨b, 0, none⟩ : Addr).add j = ⟨b, j, none⟩ := by unfold Addr.add; split <;> simp_all
  rw [e]
  exact hcj
theorem pairs_wone {T : Nat → Prop} {w : World} {qs : List EP} (h : ∀ x ∈ qs, PairOk T w x) : ∀ u ∈ qs.flatMap waitPair, u.oneCell' = true := by
  intro u hu
  obtain ⟨x, hx, hu⟩ := List.mem_flatMap.1 hu
  exact (h x hx).wone u hu
theorem orphanApart_walk (w : World) (hlay : Laid w) (A : Option Addr) (n c : Nat) (l : List O14.Act) (hl : l.length = n) (hc : n ≤ c) (hm : c ≤ maxLen) (hat : At 7 (IsAct w w.heap.size) w w.heap.size A l) (ha hb : List UInt8) (hal : ha.length = 32) (hbl : hb.length = 32) :
    Calls Tryd.prog 7 #[.slice A n c, .agg (ha.map byteV).toArray, .agg (hb.map byteV).toArray] w fun e w' => e = .returned (.bool true) ∧ Below w.heap.size w w' := by
  subst hl
  have HLY := Lib.hid hlay
  have HAT := Lib.hid (show ActsAt w w.heap.size A l from hat)
  have HALN := Lib.hid hal
  have HBLN := Lib.hid hbl
  obtain ⟨xa, hxa⟩ : ∃ ix, ix = ha.map byteV := ⟨_, rfl⟩
  obtain ⟨xb, hxb⟩ : ∃ ix, ix = hb.map byteV := ⟨_, rfl⟩
  have HXA := Lib.hid hxa
  have HXB := Lib.hid hxb
  have HLA := Lib.hid (show xa.length = 32 by rw [hxa, List.length_map]; exact hal)
  have HLB := Lib.hid (show xb.length = 32 by rw [hxb, List.length_map]; exact hbl)
  rw [← hxa, ← hxb]
  obtain ⟨w1, hw1⟩ : ∃ w1, w1 = (w.alloc (.cells xa.toArray 54)).alloc (.cells xb.toArray 54) := ⟨_, rfl⟩
  have HB1 := Lib.hid (show Below w.heap.size w w1 by rw [hw1]; exact Joins.below_alloc2 _ _ _)
  have HA1 := Lib.hid (show Bk w1 w.heap.size 54 xa.toArray by rw [hw1]; exact (Bk.new _ _ _).alloc _)
  have HC1 := Lib.hid (show Bk w1 (w.heap.size + 1) 54 xb.toArray by rw [hw1]; have := Bk.new (w.alloc (.cells xa.toArray 54)) 54 xb.toArray; simpa using this)
  have hz1 : w.heap.size + 1 < w1.heap.size := HC1.out.lt
  have HG := Lib.hid (fun W hb => great_any l A c w.heap.size W (HAT.out.below hb) hb.size hc hm)
  obtain ⟨gb, hgb⟩ : ∃ gb, gb = greatB l := ⟨_, rfl⟩
  rw [← hgb] at HG
  have HGB := Lib.hid hgb
  clear hlay hat hal hbl hxa hxb hgb
  go_enter Tryd.func7, Tryd.ntmps7
  go_upto_region 1 with (fail)
  rw [← hw1]
  clear hw1
  go_wp2_with fail
  refine (alive_any w1 (HLY.out.below HB1.out)).mono ?_
  rintro e w2 ⟨rfl, hb2⟩
  have HB2 := Lib.hid (HB1.out.trans (hb2.mono HB1.out.size))
  have HA2 := Lib.hid (HA1.out.below hb2 (by omega))
  have HC2 := Lib.hid (HC1.out.below hb2 hz1)
  have hz2 := hb2.size
  clear hb2
  go_wp2_with fail
  refine (HG.out w2 HB2.out).mono ?_
  rintro e w3 ⟨rfl, hb3⟩
  have HB3 := Lib.hid (HB2.out.trans (hb3.mono HB2.out.size))
  have HA3 := Lib.hid (HA2.out.below hb3 (by omega))
  have HC3 := Lib.hid (HC2.out.below hb3 (by omega))
  have hz3 := hb3.size
  clear hb3
  cases gb with
  | true =>
    clear HGB
    go_wp2_with fail
    go_ret
    exact ⟨rfl, HB3.out⟩
  | false =>
  obtain ⟨hl1, hpa⟩ := greatB_false HGB.out.symm
  clear HGB
  go_wp2_with fail
  refine (grown_any l A c w.heap.size w3 (HLY.out.below HB3.out) (HAT.out.below HB3.out) HB3.out.size hl1 hpa).mono ?_
  rintro e w4 ⟨O1, v1, rfl, hO1, hP1, hb4⟩
  have HB4 := Lib.hid (HB3.out.trans (hb4.mono HB3.out.size))
  have HA4 := Lib.hid (HA3.out.below hb4 (by omega))
  have HC4 := Lib.hid (HC3.out.below hb4 (by omega))
  have hz4 := hb4.size
  have HP14 := Lib.hid hP1
  clear hb4 hP1
  go_wp2_with fail
  refine (grown_any l A c w.heap.size w4 (HLY.out.below HB4.out) (HAT.out.below HB4.out) HB4.out.size hl1 hpa).mono ?_
  rintro e w5 ⟨O2, v2, rfl, hO2, hP2, hb5⟩
  have hO1l : O1 < w4.heap.size := HP14.out.bk.lt
  have HB5 := Lib.hid (HB4.out.trans (hb5.mono HB4.out.size))
  have HA5 := Lib.hid (HA4.out.below hb5 (by omega))
  have HC5 := Lib.hid (HC4.out.below hb5 (by omega))
  have hz5 := hb5.size
  have hgood := good_run l
  obtain ⟨es, hes⟩ : ∃ es, es = runEs l := ⟨_, rfl⟩
  rw [← hes] at HP14 hP2 hgood
  have h8 := hgood.few
  obtain ⟨T1, hT1⟩ : ∃ T1 : Nat → Prop, T1 = fun i => PU w3.heap.size O1 v1 i ∨ w4.heap.size ≤ i := ⟨_, rfl⟩
  have HT1 := Lib.hid (show ∀ i, w4.heap.size ≤ i → T1 i by rw [hT1]; exact fun i hi => .inr hi)
  have HP15 := Lib.hid (show PoolAt T1 w5 O1 w3.heap.size v1 es by
    rw [hT1]
    exact HP14.out.kp' (S := fun _ => False) hb5 (fun i hi h => h.elim id (fun h => by omega)) (.inl HP14.out.tO) (fun i hi => .inl (HP14.out.tv i hi)))
  have HP25 := Lib.hid hP2
  have hO2l : O2 < w5.heap.size := HP25.out.bk.lt
  have hv1l := HP14.out.row.lt
  clear hb5 hP2 hT1 hes HP14
  obtain ⟨zs, hzs⟩ : ∃ zs, zs = ((List.replicate 32 (0 : UInt8)).map byteV).toArray := ⟨_, rfl⟩
  have HZ := Lib.hid (show (Tryd.prog.info? 54).map (·.zero) = some (some (.agg zs)) by rw [hzs]; exact zero_hash0)
  clear hzs
  -- the first pool
  obtain ⟨w6, hw6⟩ : ∃ w6, w6 = w5.alloc (.cells (xa ++ xb).toArray 54) := ⟨_, rfl⟩
  have hb6 : Below w5.heap.size w5 w6 := by rw [hw6]; exact Joins.below_alloc1 _ _
  have HB6 := Lib.hid (HB5.out.trans (hb6.mono HB5.out.size))
  have HH6 := Lib.hid (show HashesAt w6 w6.heap.size (some ⟨w5.heap.size, 0, none⟩) [ha, hb] from At.of_bk (fun l : List UInt8 => l.map byteV) (fun x hx => by
    simp only [List.mem_cons, List.not_mem_nil, or_false] at hx
    rcases hx with rfl | rfl
    · exact ⟨by rw [List.length_map]; exact HALN.out, HALN.out, rfl⟩
    · exact ⟨by rw [List.length_map]; exact HBLN.out, HBLN.out, rfl⟩) (by
    rw [show [ha, hb].flatMap (fun l : List UInt8 => l.map byteV) = xa ++ xb by rw [HXA.out, HXB.out]; simp, hw6]
    exact Bk.new _ _ _))
  have HP16 := Lib.hid (show PoolAt T1 w6 O1 w3.heap.size v1 es from HP15.out.kp' (S := fun _ => False) hb6 (fun _ _ h => h) HP15.out.tO HP15.out.tv)
  have HP26 := Lib.hid (show PoolAt (PU w4.heap.size O2 v2) w6 O2 w4.heap.size v2 es from HP25.out.kp' (S := fun _ => False) hb6 (fun _ _ h => h) HP25.out.tO HP25.out.tv)
  have HA6 := Lib.hid (HA5.out.below hb6 (by omega))
  have HC6 := Lib.hid (HC5.out.below hb6 (by omega))
  have hz6 := hb6.size
  have HTK := Lib.hid (show Calls Tryd.prog 30 #[.pointer (some ⟨O1, 0, none⟩), .slice (some ⟨w5.heap.size, 0, none⟩) 2 2] w6 _ from take_any T1 es O1 w3.heap.size v1 [ha, hb] (some ⟨w5.heap.size, 0, none⟩) 2 w6.heap.size w6 HP16.out (by omega) (by omega) HH6.out (Nat.le_refl _) (by show 2 ≤ 1000000; omega))
  clear hb6
  go_upto_region 6 with (fail)
  go_upto_region 7 with (first
    | (refine wpList_load_row rfl 54 (.tmp 4) rfl w.heap.size (by rfl) 54 xa.toArray (0, 0) _ HA5.out Tryd.underlying54 rfl (by rw [List.size_toArray, HLA.out]; exact size_hash0) ?_)
    | (refine wpList_load_row rfl 54 (.tmp 5) rfl (w.heap.size + 1) (by rfl) 54 xb.toArray (0, 0) _ HC5.out Tryd.underlying54 rfl (by rw [List.size_toArray, HLB.out]; exact size_hash0) ?_)
    | (refine wpList_buildTwo rfl 36 54 (.tmp 20) (.tmp 21) rfl xa xb (by rfl) (by rfl) (by rw [HLA.out, HLB.out]) Tryd.underlying36 (by rw [HLA.out]; exact size_hash0) zs HZ.out (by rw [HLA.out]; omega) (by rw [HLA.out]; omega) ?_))
  rw [← hw6]
  clear hw6
  refine HTK.out.mono ?_
  rintro e w7 ⟨vt, v1', qs, rfl, g1, g2, g3, g4, g5, g6⟩
  obtain ⟨Av, cv, hvt, _⟩ := own_form g1
  subst hvt
  have hq12 : qs.length = (es.filter fun x => spends [ha, hb] x.tx).length := by rw [← g3, List.length_map]
  obtain ⟨n12, hn12⟩ : ∃ n12, n12 = qs.length := ⟨_, rfl⟩
  rw [← hn12] at hq12 ⊢
  have hz7 := g6.size
  have HP17 := Lib.hid g4
  have HV1 := Lib.hid g5
  have HP27 := Lib.hid (show PoolAt (PU w4.heap.size O2 v2) w7 O2 w4.heap.size v2 es from HP26.out.kp g6 (by omega) (fun i hi e => by have := (HP26.out.row.lt i hi).1; omega) (fun i _ e => .inl (by omega)) (fun _ _ h => h) HP26.out.tO HP26.out.tv)
  have HA7 := Lib.hid (HA6.out.kp g6 (by omega))
  have HC7 := Lib.hid (HC6.out.kp g6 (by omega))
  have HB7 := Lib.hid (show Below w.heap.size w w7 from Kp.from_elder HB6.out g6 (fun i hi e => by omega))
  have HQ12 := Lib.hid hq12
  have hn12e : n12 ≤ 8 := by rw [hq12]; exact Nat.le_trans (List.length_filter_le _ _) h8
  clear g1 g2 g3 g4 g5 g6 HTK hn12 hq12
  go_upto_region 7 with (fail)
  obtain ⟨iw, hi, hz0, hz1', hz2'⟩ := info_parts wait_info
  have Ii := Lib.hid hi
  have Iz := Lib.hid hz0
  have Iz1 := Lib.hid hz1'
  have Iz2 := Lib.hid hz2'
  clear hi hz0 hz1' hz2'
  have HRA := Lib.hid (show w7.rangeAt w.heap.size 0 xa from bk_range HA7.out)
  have HRB := Lib.hid (show w7.rangeAt (w.heap.size + 1) 0 xb from bk_range HC7.out)
  have HS7 := Lib.hid (show w7.heap.size ≤ w7.drew.heap.size from Nat.le_refl _)
  have HOF := Lib.hid (fun (W : World) (q : Nat) (x : List UInt8) (xs : List Value) (hx : x.length = 32) (hxs : xs = x.map byteV) (hbk : Bk W q 54 xs.toArray) => show HashesAt W W.heap.size (some ⟨q, 0, none⟩) [x] from At.of_bk (fun l : List UInt8 => l.map byteV) (fun y hy => by
    rw [List.mem_singleton.1 hy]
    exact ⟨by rw [List.length_map]; exact hx, hx, rfl⟩) (by
    rw [show [x].flatMap (fun l : List UInt8 => l.map byteV) = xs by rw [hxs]; simp]
    exact hbk))
  obtain ⟨es1, hes1⟩ : ∃ es1, es1 = es.filter (fun x => !spends [ha] x.tx) := ⟨_, rfl⟩
  have HES1 := Lib.hid hes1
  have hl1' : es1.length ≤ 8 := by rw [hes1]; exact Nat.le_trans (List.length_filter_le _ _) h8
  have hTA : ∀ (W : World) (q : Nat), Below w7.heap.size w7 W → Bk W q 54 xa.toArray → Calls Tryd.prog 30 #[.pointer (some ⟨O2, 0, none⟩), .slice (some ⟨q, 0, none⟩) 1 1] W fun e w' =>
      ∃ (A1 : Option Addr) (n1 c1 : Nat) (cs1 : List Value) (T2 : Nat → Prop) (v2' : Value), e = .returned (.slice A1 n1 c1) ∧ Hid (w'.ownsRow w7.heap.size 52 4 (.slice A1 n1 c1) n1 cs1) ∧ Hid (n1 = (es.filter fun x => spends [ha] x.tx).length) ∧ Hid (PoolAt T2 w' O2 w4.heap.size v2' es1) ∧ Hid (Kp (fun i => i = O2) W w') := by
    intro W q hW hq
    have hP : PoolAt (PU w4.heap.size O2 v2) W O2 w4.heap.size v2 es := HP27.out.kp' (S := fun _ => False) hW (fun _ _ h => h) HP27.out.tO HP27.out.tv
    have hs := hW.size
    refine (take_any (PU w4.heap.size O2 v2) es O2 w4.heap.size v2 [ha] (some ⟨q, 0, none⟩) 1 W.heap.size W hP (by omega) (by omega) (HOF.out W q ha xa HALN.out HXA.out hq) (Nat.le_refl _) (by show 1 ≤ 1000000; omega)).mono ?_
    rintro e w' ⟨vt, v', qs, rfl, g1, g2, g3, g4, g5, g6⟩
    obtain ⟨A1, c1, hv, _⟩ := own_form g1
    subst hv
    exact ⟨A1, qs.length, c1, _, _, v', rfl, Lib.hid (own_mono g1 hs), Lib.hid (by rw [← g3, List.length_map]), Lib.hid (by rw [hes1]; exact g4), Lib.hid g6⟩
  have hTB : ∀ (W : World) (q : Nat) (T2 : Nat → Prop) (v2' : Value), PoolAt T2 W O2 w4.heap.size v2' es1 → w4.heap.size ≤ W.heap.size → Bk W q 54 xb.toArray → Calls Tryd.prog 30 #[.pointer (some ⟨O2, 0, none⟩), .slice (some ⟨q, 0, none⟩) 1 1] W fun e w' =>
      ∃ (A2 : Option Addr) (n2 c2 : Nat) (cs2 : List Value) (A3 : Option Addr) (c3 : Nat), e = .returned (.slice A2 n2 c2) ∧ Hid (Src w' A2 cs2) ∧ Hid (cs2.length = n2 * 4) ∧ Hid (∀ u ∈ cs2, u.oneCell' = true) ∧ Hid (n2 = (es1.filter fun x => spends [hb] x.tx).length) ∧
        Hid (Bk w' O2 82 #[.slice A3 (es1.filter fun x => !spends [hb] x.tx).length c3]) ∧ Hid (At 37 IsE0 w' w'.heap.size A3 (es1.filter fun x => !spends [hb] x.tx)) ∧ Hid (∀ b off, A3 = some ⟨b, off, none⟩ → W.heap.size ≤ b) ∧ Hid (Kp (fun i => i = O2) W w') := by
    intro W q T2 v2' hP hs hq
    refine (take_any T2 es1 O2 w4.heap.size v2' [hb] (some ⟨q, 0, none⟩) 1 W.heap.size W hP hs (by omega) (HOF.out W q hb xb HBLN.out HXB.out hq) (Nat.le_refl _) (by show 1 ≤ 1000000; omega)).mono ?_
    rintro e w' ⟨vt, v', qs, rfl, g1, g2, g3, g4, g5, g6⟩
    obtain ⟨A2, c2, hv, _⟩ := own_form g1
    subst hv
    obtain ⟨A3, c3, hv', hc3, _, hat3⟩ := g4.row.at_
    subst hv'
    refine ⟨A2, qs.length, c2, _, A3, c3, rfl, Lib.hid (own_src g1), Lib.hid g1.1, Lib.hid (pairs_wone g2), Lib.hid (by rw [← g3, List.length_map]), Lib.hid g4.bk, Lib.hid (At.imp hat3 fun _ _ h => h.e0), Lib.hid (fun b off e => g5 b (by rw [e]; rfl)), Lib.hid g6⟩
  have HTA := Lib.hid hTA
  have HTB := Lib.hid hTB
  clear hTA hTB hes1
  refine wp_region_L [(1, w.heap.size, 0, xa), (5, (w.heap.size + 1), 0, xb)] (by kernel_rfl) ?_
  refine wpAnyL_pure (i := 0) (v := ?_) rfl (by kernel_rfl) (by kernel_rfl) (by kernel_rfl) (fun _ _ _ h => h) (Or.inl ⟨by rfl, ?_⟩) ?_
  rotate_left
  · (intro w' _; go_simp <;> with_reducible rfl)
  simp only [Act.put, List.setIfInBounds_toArray, List.set_cons_zero, List.set_cons_succ, List.getElem_toArray, List.getElem_cons_zero, List.getElem_cons_succ]
  refine wpAnyL_load (i := 1) w.heap.size 0 xa (.head _) HRA.out rfl (by kernel_rfl) (by kernel_rfl) (by kernel_rfl) (fun _ _ _ h => h) (by rfl) 54 (.tmp 4) rfl (by rfl) _ Tryd.underlying54 rfl (by rw [HLA.out]; exact size_hash0) ?_
  simp only [Act.put, List.setIfInBounds_toArray, List.set_cons_zero, List.set_cons_succ, List.getElem_toArray, List.getElem_cons_zero, List.getElem_cons_succ]
  refine wpAnyL_pure (i := 4) (v := ?_) rfl (by kernel_rfl) (by kernel_rfl) (by kernel_rfl) (fun _ _ _ h => h) (Or.inl ⟨by rfl, ?_⟩) ?_
  rotate_left
  · (intro w' _; go_simp <;> with_reducible rfl)
  simp only [Act.put, List.setIfInBounds_toArray, List.set_cons_zero, List.set_cons_succ, List.getElem_toArray, List.getElem_cons_zero, List.getElem_cons_succ]
  refine wpAnyL_load (i := 5) (w.heap.size + 1) 0 xb (.tail _ (.head _)) HRB.out rfl (by kernel_rfl) (by kernel_rfl) (by kernel_rfl) (fun _ _ _ h => h) (by rfl) 54 (.tmp 5) rfl (by rfl) _ Tryd.underlying54 rfl (by rw [HLB.out]; exact size_hash0) ?_
  simp only [Act.put, List.setIfInBounds_toArray, List.set_cons_zero, List.set_cons_succ, List.getElem_toArray, List.getElem_cons_zero, List.getElem_cons_succ]
  refine wpAnyL_ready (rs := [2, 6]) (by kernel_rfl) (by simp) ?_
  refine (AllReadyL.cons rfl (fun K hK => ?_) (AllReadyL.cons rfl (fun K hK => ?_) AllReadyL.nil))
  focus
    refine step_buildOne (by rfl) 36 54 (.tmp 25) rfl xa.toArray (by rfl) Tryd.underlying36 (by rw [List.size_toArray, HLA.out]; exact size_hash0) zs HZ.out (by rw [List.size_toArray, HLA.out]; omega) (by rw [List.size_toArray, HLA.out]; omega) ?_
    refine hK.out _ _ (Keeps.below (Joins.below_alloc1 _ _)) ?_
    clear hK K
    try simp only [Act.put, List.setIfInBounds_toArray, List.set_cons_zero, List.set_cons_succ, List.getElem_toArray, List.getElem_cons_zero, List.getElem_cons_succ]
    obtain ⟨wa, hw_⟩ : ∃ w_, w_ = (w7.drew).alloc (.cells xa.toArray 54) := ⟨_, rfl⟩
    obtain ⟨qa, hq_⟩ : ∃ q_, q_ = (w7.drew).heap.size := ⟨_, rfl⟩
    have HQa := Lib.hid (show Bk wa qa 54 xa.toArray by rw [hw_, hq_]; exact Bk.new _ _ _)
    have HBa := Lib.hid (show Below w7.heap.size w7 wa by rw [hw_]; exact ((Below.refl w7.heap.size w7).drew).alloc ((Below.refl w7.heap.size w7).drew).size _)
    have hb_ : Below (w7.drew).heap.size (w7.drew) wa := by rw [hw_]; exact Joins.below_alloc1 _ _
    have hbb_ := Lib.hid hb_
    have hlt_ : qa < wa.heap.size := HQa.out.lt
    have hge_ : w7.heap.size ≤ qa := by rw [hq_]; exact ((Below.refl w7.heap.size w7).drew).size
    rw [← hw_]
    try rw [← hq_]
    clear hw_ hq_ hb_ hbb_
    refine wpAnyL_ready (rs := [3, 6]) (by kernel_rfl) (by simp) ?_
    refine (AllReadyL.cons rfl (fun K hK => ?_) (AllReadyL.cons rfl (fun K hK => ?_) AllReadyL.nil))
    focus
      go_simp
      refine (HTA.out wa qa HBa.out HQa.out).mono ?_
      rintro e wb ⟨A1, n1, c1, cs1, T2, v2', rfl, HR1, HN1, HP2S, HK⟩
      go_wp2_with fail
      refine hK.out _ _ (Keeps.kp HK.out (fun p hp _ e => by simp only [List.mem_cons, List.not_mem_nil, or_false] at hp; rcases hp with rfl | rfl <;> simp only at e <;> omega)) ?_
      clear hK K
      try simp only [Act.put, List.setIfInBounds_toArray, List.set_cons_zero, List.set_cons_succ, List.getElem_toArray, List.getElem_cons_zero, List.getElem_cons_succ]
      refine wpAnyL_ready (rs := [6]) (by kernel_rfl) (by simp) ?_
      refine (AllReadyL.cons rfl (fun K hK => ?_) AllReadyL.nil)
      refine step_buildOne (by rfl) 36 54 (.tmp 29) rfl xb.toArray (by rfl) Tryd.underlying36 (by rw [List.size_toArray, HLB.out]; exact size_hash0) zs HZ.out (by rw [List.size_toArray, HLB.out]; omega) (by rw [List.size_toArray, HLB.out]; omega) ?_
      refine hK.out _ _ (Keeps.below (Joins.below_alloc1 _ _)) ?_
      clear hK K
      try simp only [Act.put, List.setIfInBounds_toArray, List.set_cons_zero, List.set_cons_succ, List.getElem_toArray, List.getElem_cons_zero, List.getElem_cons_succ]
      have hzb := HK.out.size
      obtain ⟨wS, hwS⟩ : ∃ w_, w_ = wb.alloc (.cells xb.toArray 54) := ⟨_, rfl⟩
      obtain ⟨q2, hq2⟩ : ∃ q_, q_ = wb.heap.size := ⟨_, rfl⟩
      have SQ2 := Lib.hid (show Bk wS q2 54 xb.toArray by rw [hwS, hq2]; exact Bk.new _ _ _)
      have hbS : Below wb.heap.size wb wS := by rw [hwS]; exact Joins.below_alloc1 _ _
      have SR1 := Lib.hid (own_below HR1.out hbS)
      have SP2 := Lib.hid (show PoolAt T2 wS O2 w4.heap.size v2' es1 from HP2S.out.kp' (S := fun _ => False) hbS (fun _ _ h => h) HP2S.out.tO HP2S.out.tv)
      have SK := Lib.hid (show Kp (fun i => i = O2) w7 wS from ((Kp.of_below HBa.out).trans HK.out).trans (Kp.of_below hbS))
      rw [← hwS]
      try rw [← hq2]
      clear hwS hq2 hbS HR1 HP2S HK
    rotate_left
    focus
      refine step_buildOne (by rfl) 36 54 (.tmp 29) rfl xb.toArray (by rfl) Tryd.underlying36 (by rw [List.size_toArray, HLB.out]; exact size_hash0) zs HZ.out (by rw [List.size_toArray, HLB.out]; omega) (by rw [List.size_toArray, HLB.out]; omega) ?_
      refine hK.out _ _ (Keeps.below (Joins.below_alloc1 _ _)) ?_
      clear hK K
      try simp only [Act.put, List.setIfInBounds_toArray, List.set_cons_zero, List.set_cons_succ, List.getElem_toArray, List.getElem_cons_zero, List.getElem_cons_succ]
      obtain ⟨wa2, hw_⟩ : ∃ w_, w_ = (wa).alloc (.cells xb.toArray 54) := ⟨_, rfl⟩
      obtain ⟨q2, hq_⟩ : ∃ q_, q_ = (wa).heap.size := ⟨_, rfl⟩
      have HQ2 := Lib.hid (show Bk wa2 q2 54 xb.toArray by rw [hw_, hq_]; exact Bk.new _ _ _)
      have HBB := Lib.hid (show Below w7.heap.size w7 wa2 by rw [hw_]; exact (HBa.out).alloc (HBa.out).size _)
      have hb_ : Below (wa).heap.size (wa) wa2 := by rw [hw_]; exact Joins.below_alloc1 _ _
      have hbb_ := Lib.hid hb_
      have hlt_ : q2 < wa2.heap.size := HQ2.out.lt
      have hge_ : w7.heap.size ≤ q2 := by rw [hq_]; exact (HBa.out).size
      rw [← hw_]
      try rw [← hq_]
      have HQa2 := Lib.hid (HQa.out.below hb_ HQa.out.lt)
      clear hw_ hq_ hb_ hbb_
      refine wpAnyL_ready (rs := [3]) (by kernel_rfl) (by simp) ?_
      refine (AllReadyL.cons rfl (fun K hK => ?_) AllReadyL.nil)
      go_simp
      refine (HTA.out wa2 qa HBB.out HQa2.out).mono ?_
      rintro e wS ⟨A1, n1, c1, cs1, T2, v2', rfl, HR1, HN1, HP2S, HK⟩
      go_wp2_with fail
      refine hK.out _ _ (Keeps.kp HK.out (fun p hp _ e => by simp only [List.mem_cons, List.not_mem_nil, or_false] at hp; rcases hp with rfl | rfl <;> simp only at e <;> omega)) ?_
      clear hK K
      try simp only [Act.put, List.setIfInBounds_toArray, List.set_cons_zero, List.set_cons_succ, List.getElem_toArray, List.getElem_cons_zero, List.getElem_cons_succ]
      have SQ2 := Lib.hid (HQ2.out.kp HK.out (by omega))
      have SR1 := HR1
      have SP2 := HP2S
      have SK := Lib.hid (show Kp (fun i => i = O2) w7 wS from (Kp.of_below HBB.out).trans HK.out)
      clear HR1 HP2S HK
  rotate_left 2
  focus
    refine step_buildOne (by rfl) 36 54 (.tmp 29) rfl xb.toArray (by rfl) Tryd.underlying36 (by rw [List.size_toArray, HLB.out]; exact size_hash0) zs HZ.out (by rw [List.size_toArray, HLB.out]; omega) (by rw [List.size_toArray, HLB.out]; omega) ?_
    refine hK.out _ _ (Keeps.below (Joins.below_alloc1 _ _)) ?_
    clear hK K
    try simp only [Act.put, List.setIfInBounds_toArray, List.set_cons_zero, List.set_cons_succ, List.getElem_toArray, List.getElem_cons_zero, List.getElem_cons_succ]
    obtain ⟨w0, hw_⟩ : ∃ w_, w_ = (w7.drew).alloc (.cells xb.toArray 54) := ⟨_, rfl⟩
    obtain ⟨q2, hq_⟩ : ∃ q_, q_ = (w7.drew).heap.size := ⟨_, rfl⟩
    have HQ20 := Lib.hid (show Bk w0 q2 54 xb.toArray by rw [hw_, hq_]; exact Bk.new _ _ _)
    have HB0 := Lib.hid (show Below w7.heap.size w7 w0 by rw [hw_]; exact ((Below.refl w7.heap.size w7).drew).alloc ((Below.refl w7.heap.size w7).drew).size _)
    have hb_ : Below (w7.drew).heap.size (w7.drew) w0 := by rw [hw_]; exact Joins.below_alloc1 _ _
    have hbb_ := Lib.hid hb_
    have hlt_ : q2 < w0.heap.size := HQ20.out.lt
    have hge_ : w7.heap.size ≤ q2 := by rw [hq_]; exact ((Below.refl w7.heap.size w7).drew).size
    rw [← hw_]
    try rw [← hq_]
    clear hw_ hq_ hb_ hbb_
    refine wpAnyL_ready (rs := [2]) (by kernel_rfl) (by simp) ?_
    refine (AllReadyL.cons rfl (fun K hK => ?_) AllReadyL.nil)
    refine step_buildOne (by rfl) 36 54 (.tmp 25) rfl xa.toArray (by rfl) Tryd.underlying36 (by rw [List.size_toArray, HLA.out]; exact size_hash0) zs HZ.out (by rw [List.size_toArray, HLA.out]; omega) (by rw [List.size_toArray, HLA.out]; omega) ?_
    refine hK.out _ _ (Keeps.below (Joins.below_alloc1 _ _)) ?_
    clear hK K
    try simp only [Act.put, List.setIfInBounds_toArray, List.set_cons_zero, List.set_cons_succ, List.getElem_toArray, List.getElem_cons_zero, List.getElem_cons_succ]
    obtain ⟨wa, hw_⟩ : ∃ w_, w_ = (w0).alloc (.cells xa.toArray 54) := ⟨_, rfl⟩
    obtain ⟨qa, hq_⟩ : ∃ q_, q_ = (w0).heap.size := ⟨_, rfl⟩
    have HQa := Lib.hid (show Bk wa qa 54 xa.toArray by rw [hw_, hq_]; exact Bk.new _ _ _)
    have HBB := Lib.hid (show Below w7.heap.size w7 wa by rw [hw_]; exact (HB0.out).alloc (HB0.out).size _)
    have hb_ : Below (w0).heap.size (w0) wa := by rw [hw_]; exact Joins.below_alloc1 _ _
    have hbb_ := Lib.hid hb_
    have hlt_ : qa < wa.heap.size := HQa.out.lt
    have hge_ : w7.heap.size ≤ qa := by rw [hq_]; exact (HB0.out).size
    rw [← hw_]
    try rw [← hq_]
    have HQ2 := Lib.hid (HQ20.out.below hb_ HQ20.out.lt)
    clear hw_ hq_ hb_ hbb_
    refine wpAnyL_ready (rs := [3]) (by kernel_rfl) (by simp) ?_
    refine (AllReadyL.cons rfl (fun K hK => ?_) AllReadyL.nil)
    go_simp
    refine (HTA.out wa qa HBB.out HQa.out).mono ?_
    rintro e wS ⟨A1, n1, c1, cs1, T2, v2', rfl, HR1, HN1, HP2S, HK⟩
    go_wp2_with fail
    refine hK.out _ _ (Keeps.kp HK.out (fun p hp _ e => by simp only [List.mem_cons, List.not_mem_nil, or_false] at hp; rcases hp with rfl | rfl <;> simp only at e <;> omega)) ?_
    clear hK K
    try simp only [Act.put, List.setIfInBounds_toArray, List.set_cons_zero, List.set_cons_succ, List.getElem_toArray, List.getElem_cons_zero, List.getElem_cons_succ]
    have SQ2 := Lib.hid (HQ2.out.kp HK.out (by omega))
    have SR1 := HR1
    have SP2 := HP2S
    have SK := Lib.hid (show Kp (fun i => i = O2) w7 wS from (Kp.of_below HBB.out).trans HK.out)
    clear HR1 HP2S HK
  all_goals
    refine wpAnyL_ready (rs := [7]) (by kernel_rfl) (by simp) ?_
    refine (AllReadyL.cons rfl (fun K hK => ?_) AllReadyL.nil)
    go_simp
    have hzS := SK.out.size
    refine (HTB.out wS q2 T2 v2' SP2.out (by omega) SQ2.out).mono ?_
    rintro e w9 ⟨A2, n2, c2, cs2, A3, c3, rfl, J1, J2, J3, J4, J5, J6, J7, HK⟩
    go_wp2_with fail
    refine hK.out _ _ (Keeps.kp HK.out (fun p hp _ e => by simp only [List.mem_cons, List.not_mem_nil, or_false] at hp; rcases hp with rfl | rfl <;> simp only at e <;> omega)) ?_
    clear hK K
    try simp only [Act.put, List.setIfInBounds_toArray, List.set_cons_zero, List.set_cons_succ, List.getElem_toArray, List.getElem_cons_zero, List.getElem_cons_succ]
    have hz9 := HK.out.size
    have hlt1 := own_lt SR1.out
    have HR9 := Lib.hid (own_kpo SR1.out HK.out (fun i hi e => by have := (hlt1 i hi).1; omega))
    have hn1 : n1 ≤ 8 := by rw [HN1.out]; exact Nat.le_trans (List.length_filter_le _ _) h8
    have hn2 : n2 ≤ 8 := by rw [J4.out]; exact Nat.le_trans (List.length_filter_le _ _) hl1'
    have HLT1 := Lib.hid hlt1
    clear hlt1
    refine wpAnyL_ready (rs := [8]) (by kernel_rfl) (by simp) ?_
    refine (AllReadyL.cons rfl (fun K hK => ?_) AllReadyL.nil)
    refine step_app _ rfl (.tmp 27) (.tmp 31) _ rfl w7.heap.size 52 iw _ 4 64 Tryd.underlying40 Ii.out Iz.out Iz1.out Iz2.out rfl (by decide) (.slice A1 n1 c1) n1 _ rfl HR9.out A2 n2 c2 cs2 rfl J2.out J1.out J3.out (by unfold maxLen; omega) (by omega) (by omega) ?_
    intro v10 w10 hrow hg hat
    have hkg : Kp (fun i => (Value.slice A1 n1 c1).ownBlock = some i) w9 w10 := (Kp.refl _ _).grown hg (fun k hk _ => hk)
    have HKG := Lib.hid hkg
    refine hK.out _ _ (Keeps.kp HKG.out (fun p hp _ e => by simp only [List.mem_cons, List.not_mem_nil, or_false] at hp; have := (HLT1.out _ e).1; rcases hp with rfl | rfl <;> simp only at this <;> omega)) ?_
    clear hK K
    try simp only [Act.put, List.setIfInBounds_toArray, List.set_cons_zero, List.set_cons_succ, List.getElem_toArray, List.getElem_cons_zero, List.getElem_cons_succ]
    obtain ⟨A10, c10, rfl, _⟩ := own_form hrow
    have hz10 := hkg.size
    have HK10 := Lib.hid (show Kp (fun i => i = O2) w7 w10 from (SK.out.trans HK.out).trans_of hkg (fun i hi e => by have := (HLT1.out i e).1; omega))
    have hft := filter_two es (fun x => spends [ha] x.tx) (fun x => spends [hb] x.tx)
    have hsp : (fun x : Ent => spends [ha, hb] x.tx) = fun x => spends [ha] x.tx || spends [hb] x.tx := by funext x; exact spends_two ha hb x.tx
    obtain ⟨es4, hes4⟩ : ∃ es4, es4 = es1.filter fun x => !spends [hb] x.tx := ⟨_, rfl⟩
    have he34 : (es.filter fun x => !spends [ha, hb] x.tx) = es4 := by
      rw [hes4, HES1.out, ← hft.2]
      congr 1
      funext x
      rw [spends_two]
    rw [← hes4] at J5 J6
    obtain rfl : n12 = n1 + n2 := by
      rw [HQ12.out, HN1.out, J4.out, HES1.out, ← hft.1, hsp]
    have HE4 := Lib.hid (show es4.length ≤ 1000 by rw [hes4]; have := List.length_filter_le (fun x : Ent => !spends [hb] x.tx) es1; omega)
    rw [he34] at HP17
    have HP110 := Lib.hid (show PoolAt (Tn T1 w6 v1') w10 O1 w3.heap.size v1' es4 from HP17.out.kp HK10.out (by omega) (fun i hi e => by have := HV1.out i hi; omega) (fun i _ e => .inl ⟨HT1.out i (by omega), by omega⟩) (fun _ _ h => h) HP17.out.tO HP17.out.tv)
    have HBK2 := Lib.hid (J5.out.kp hkg (fun e => by have := (HLT1.out _ e).1; omega))
    have HAT2 := Lib.hid (At.kpX J6.out (Nat.le_refl _) hkg (fun b off e h => by have h1 := J7.out b off e; have h2 := (HLT1.out b h).2; omega))
    have HB10 := Lib.hid (show Below w.heap.size w w10 from Kp.from_elder HB7.out HK10.out (fun i hi e => by omega))
    clear hft hsp hes4 he34 hrow hg hat hkg J1 J2 J3 J4 J5 J6 J7 HK SK SR1 SP2 SQ2 HR9 HKG HTA HTB HN1 HQ12
    refine wpAnyL_pure (i := 9) (v := ?_) rfl (by kernel_rfl) (by kernel_rfl) (by kernel_rfl) (fun _ _ _ h => h) (Or.inl ⟨by rfl, ?_⟩) ?_
    rotate_left
    · (intro w' _; go_simp <;> with_reducible rfl)
    simp only [Act.put, List.setIfInBounds_toArray, List.set_cons_zero, List.set_cons_succ, List.getElem_toArray, List.getElem_cons_zero, List.getElem_cons_succ]
    refine wpAnyL_done (by kernel_rfl) ?_ _
    go_wp2_with fail
    refine (all_any _ es4 O1 w3.heap.size v1' w10 HP110.out HE4.out).mono ?_
    rintro e w11 ⟨A4, c4, rfl, hi4, hb11⟩
    obtain ⟨A4', c4', hv4, _, _, hat4⟩ := hi4.at_
    injection hv4 with e1 e2 e3
    subst e1 e3
    clear e2
    have HAT4 := Lib.hid hat4
    have HBK3 := Lib.hid (HBK2.out.below hb11 HBK2.out.lt)
    have HAT3 := Lib.hid (At.kpX HAT2.out (Nat.le_refl _) (Kp.of_below (S := fun _ => False) hb11) (fun _ _ _ h => h))
    have HB11 := Lib.hid (HB10.out.trans (hb11.mono HB10.out.size))
    clear hb11 hi4 hat4
    go_wp2_with fail
    refine (all0_any es4 O2 A3 c3 w11 HBK3.out HAT3.out HE4.out).mono ?_
    rintro e w12 ⟨A5, c5, rfl, hi5, hb12⟩
    obtain ⟨A5', c5', hv5, _, _, hat5⟩ := hi5.at_
    injection hv5 with e1 e2 e3
    subst e1 e3
    clear e2
    have HSM := Lib.hid (sameids_any (es4.map Ent.id) (es4.map Ent.id) A4 A5 c4 c5 w12.heap.size w12.heap.size w12 (At.kpX HAT4.out (Nat.le_refl _) (Kp.of_below (S := fun _ => False) hb12) (fun _ _ _ h => h)) (Nat.le_refl _) hat5 (Nat.le_refl _) (by rw [List.length_map]; have := HE4.out; omega) (by rw [List.length_map]; have := HE4.out; omega))
    rw [List.length_map, decide_eq_true rfl] at HSM
    have HB12 := Lib.hid (HB11.out.trans (hb12.mono HB11.out.size))
    clear hb12 hi5 hat5
    go_wp2_with fail
    refine HSM.out.mono ?_
    rintro e w13 ⟨rfl, hb13⟩
    have HB13 := Lib.hid (HB12.out.trans (hb13.mono HB12.out.size))
    clear hb13
    go_wp2_with fail
    go_ret
    exact ⟨rfl, HB13.out⟩
end Go.Proofs.YtacbibflhdmcoaaDoor
