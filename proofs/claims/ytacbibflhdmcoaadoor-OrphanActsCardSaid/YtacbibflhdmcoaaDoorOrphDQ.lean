/- OrphDQ, merged: OrphDT, OrphDA. -/
import Derived.Test.YtacbibflhdmcoaaDoorOrphDP
import Derived.Test.YtacbibflhdmcoaaDoorTxRPoints
import Derived.Test.YtacbibflhdmcoaaDoorTxRCheck
import Derived.Test.YtacbibflhdmcoaaDoorTxRId
/- The document's Take. -/
namespace Go.Proofs.YtacbibflhdmcoaaDoor.O14
open Go.RowKit Go.Deep T7
set_option linter.unusedVariables false
set_option linter.unusedSimpArgs false
set_option maxRecDepth 100000
set_option maxHeartbeats 2000000
attribute [local go_sem ↓] Go.wp_at_zero Go.wp_at_succ

theorem goes_false (p : Ent → Bool) (ps : List EP) (n k : Nat) (hk : k < n) (hl : k ≤ ps.length) : (goesRow p ps n k).set k (.bool false) = goesRow p ps n k := by
  unfold goesRow
  rw [show n - k = (n - (k + 1)) + 1 by omega, List.replicate_succ]
  rw [List.set_append_right _ _ (by rw [List.length_map, List.length_take]; omega)]
  rw [List.length_map, List.length_take, show k - min k ps.length = 0 by omega]
  simp
theorem goes_bool (p : Ent → Bool) (ps : List EP) (n k : Nat) : ∀ v ∈ goesRow p ps n k, ∃ b, v = .bool b := by
  intro v hv
  unfold goesRow at hv
  rcases List.mem_append.1 hv with h | h
  · obtain ⟨x, _, rfl⟩ := List.mem_map.1 h; exact ⟨_, rfl⟩
  · exact ⟨false, List.eq_of_mem_replicate h⟩
theorem wpList_load_midg {P : Program} {ops : Array Oper} {rest : List Oper} {o : Oper} {a : Go.Act} {w : World} {Q : Exit → Go.Act → World → Prop} (hw : Region.wanted o (yielded ops a.tmps) = true) (ty : TypeId) (x : Operand) (ho : o.op = .load ty x) (b off : Nat) (hx : a.eval x = .pointer (some ⟨b, off, none⟩)) (cs : List Value) (d : TypeDesc) (hc : w.rangeAt b off cs)
    (hu : P.underlying ty = some d) (hd : d.isRow = true) (hi : (P.info? ty).map (·.size) = some cs.length) (h : wpList P ops Q rest (a.put o.dst (.agg cs.toArray)) w) : wpList P ops Q (o :: rest) a w :=
  wpList_wanted hw fun _ hK => wp_load_mid ty x ho b off hx cs d hc hu hd hi (hK _ _ h)
theorem dent_tx {w : World} {x : EP} {t g : Nat} (h : Bk w g t (dPair x).toArray) (hl : x.1.id.length = 32) : w.cell? ⟨g, 33, none⟩ = some (.int .u32 (x.1.tx.version : Int)) ∧ w.cell? ⟨g, 34, none⟩ = some x.2.1 ∧ w.cell? ⟨g, 35, none⟩ = some x.2.2 := by
  refine ⟨?_, ?_, ?_⟩
  · rw [h.cell 33]
    simp only [List.getElem?_toArray, dPair, dCells]
    rw [List.getElem?_append_right (by rw [List.length_map, hl]; omega), List.length_map, hl]
    rfl
  · rw [h.cell 34]
    simp only [List.getElem?_toArray, dPair, dCells]
    rw [List.getElem?_append_right (by rw [List.length_map, hl]; omega), List.length_map, hl]
    rfl
  · rw [h.cell 35]
    simp only [List.getElem?_toArray, dPair, dCells]
    rw [List.getElem?_append_right (by rw [List.length_map, hl]; omega), List.length_map, hl]
    rfl
theorem At.kpZ {α : Type} {k : Nat} {R : List Value → α → Prop} {w w' : World} {B : Nat} {A : Option Addr} {l : List α} {S : Nat → Prop} (h : At k R w B A l) (hB : B ≤ w.heap.size) (hk : Kp S w w') (hS : ∀ b off, A = some ⟨b, off, none⟩ → ¬ S b) : At k R w' w'.heap.size A l := fun i hi => by
  obtain ⟨b, off, vs, h1, h2, h3, h4⟩ := h i hi
  have hb : b < w.heap.size := Nat.lt_of_lt_of_le h2 hB
  exact ⟨b, off, vs, h1, Nat.lt_of_lt_of_le hb hk.size, h3, fun j hj => (hk.cell (p := ⟨b, _, none⟩) hb (hS b off h1)).trans (h4 j hj)⟩
def DTake (B : Nat) (w : World) (O : Nat) (ps : List EP) (p : Ent → Bool) (e : Ending) (w' : World) : Prop :=
  ∃ vg vr, e = .returned vg ∧ DRow w' vg (gone p ps) ∧ (∀ x ∈ gone p ps, DOk B w' x) ∧ DPool B w' O vr (left p ps) ∧ (∀ i, vg.ownBlock = some i → w.heap.size ≤ i) ∧ (∀ i, vr.ownBlock = some i → w.heap.size ≤ i) ∧ Kp (fun i => i = O) w w'
theorem dtake_any (ps : List EP) (B O : Nat) (v : Value) (l : List (List UInt8)) (Al : Option Addr) (cl Bl : Nat) (w : World) (h : DPool B w O v ps) (hB : B ≤ w.heap.size) (hn : ps.length ≤ 1000) (hl : HashesAt w Bl Al l) (hBl : Bl ≤ w.heap.size) (hll : l.length ≤ 1000000) (hform : ∀ x ∈ ps, x.1.tx.ins.length ≤ 1000) :
    Calls Tryd.prog 14 #[.pointer (some ⟨O, 0, none⟩), .slice Al l.length cl] w (DTake B w O ps fun x => spends l x.tx) := by
  obtain ⟨pp, hpp⟩ : ∃ pp : Ent → Bool, pp = fun x => spends l x.tx := ⟨_, rfl⟩
  have HPP := Lib.hid hpp
  rw [← hpp]
  obtain ⟨n, hn'⟩ : ∃ n, n = ps.length := ⟨_, rfl⟩
  rw [← hn'] at hn
  obtain ⟨AV, cV, hv, hvc, hvm, hrg⟩ := h.row
  rw [← hn'] at hv
  subst hv
  have HRG := Lib.hid hrg
  have HN := Lib.hid hn'
  have HP := Lib.hid h
  have HLS := Lib.hid hl
  have HFORM := Lib.hid hform
  have hOl : O < w.heap.size := h.bk.lt
  have hmk := run_make_rows (P := Tryd.prog) 83 4 _ 1 1 Tryd.underlying83 bool_info .i64 .i64 n (by omega) (by omega)
  obtain ⟨z0, hz0⟩ : ∃ z0, z0 = madeCells (Value.bool false).cells (n * 1) := ⟨_, rfl⟩
  rw [← hz0] at hmk
  have hz1 : z0 = (goesRow pp ps n 0).toArray := by rw [hz0]; exact goes_zero pp ps n
  rw [hz1] at hmk
  obtain ⟨g0, hg0⟩ : ∃ g0, g0 = goesRow pp ps n 0 := ⟨_, rfl⟩
  rw [← hg0] at hmk
  have c0 : w.cell? ⟨O, 0, none⟩ = some (.slice AV n cV) := (h.bk.cell 0).trans rfl
  have hZL := zeroDent_len
  have hZE := zero_dent
  clear hz0 hz1 hrg h hn' hpp hl hform
  generalize (dCells ⟨0, Txs.none, List.replicate 32 0, 0⟩ (.slice none 0 0) (.slice none 0 0)).toArray = ze at hZL hZE
  have HZEL := Lib.hid hZL
  have HIZ := Lib.hid hZE
  clear hZL hZE
  have HPZ := zero_pt
  have HPZL := Lib.hid (show (ptCells ⟨List.replicate 32 0, 0, []⟩).toArray.size = 33 by simp [ptCells])
  generalize (ptCells ⟨List.replicate 32 0, 0, []⟩).toArray = zp at HPZ HPZL
  have HZP := Lib.hid HPZ
  clear HPZ
  obtain ⟨w1, hw1⟩ : ∃ w1, w1 = w.alloc (.cells g0.toArray 4) := ⟨_, rfl⟩
  have HG1 := Lib.hid (show Bk w1 w.heap.size 4 (goesRow pp ps n 0).toArray by rw [hw1, hg0]; exact Bk.new _ _ _)
  have hb1 : Below w.heap.size w w1 := by rw [hw1]; exact Joins.below_alloc1 _ _
  have HB1 := Lib.hid hb1
  have c1 : w1.cell? ⟨O, 0, none⟩ = some (.slice AV n cV) := (hb1.cell (p := ⟨O, 0, none⟩) hOl).trans c0
  obtain ⟨q, hq⟩ : ∃ q, q = w.heap.size := ⟨_, rfl⟩
  rw [← hq] at HG1
  have hqg : w.heap.size ≤ q := by omega
  clear hb1 hg0
  go_enter Tryd.func14, Tryd.ntmps14
  go_upto_region 2 with (fail)
  rw [← hw1, ← hq]
  clear hw1 hmk c0 hq
  go_wp2_with fail
  clear c1
  go_loopw [21] (fun iv wr => ∃ (k : Nat), iv = .int .i64 (k : Int) ∧ k ≤ n ∧ Hid (Bk wr q 4 (goesRow pp ps n k).toArray) ∧ Hid (Below w.heap.size w wr)) (fun iv _ => n - (intOf iv).toNat)
  case atStart => exact ⟨0, rfl, Nat.zero_le _, HG1, HB1⟩
  case round =>
    obtain ⟨k, rfl, hk, hg, hb⟩ := hrel
    have hzr := hb.out.size
    by_cases hlt : k < n
    · have hlt1 : k < ps.length := by rw [← HN.out]; exact hlt
      obtain ⟨b, off, rfl, hbl, hr⟩ := HRG.out k hlt1
      have hpk : DOk B w ps[k] := HP.out.all _ (List.getElem_mem hlt1)
      have HR := Lib.hid (rangeAt_below hr hb.out hbl)
      have HL := Lib.hid hpk.len
      have HONE := Lib.hid hpk.one
      have HSET := Lib.hid (goes_set pp ps n k hlt hlt1)
      have hgf := goes_false pp ps n k hlt (by omega)
      have hfo := HFORM.out _ (List.getElem_mem hlt1)
      have i1 : (0 : Int) ≤ (k : Int) := by omega
      have i2 : (k : Int) < (n : Int) := by omega
      generalize ps[k] = x at *
      obtain ⟨d, hd⟩ : ∃ d, d = pp x.1 := ⟨_, rfl⟩
      rw [← hd] at HSET
      rw [HPP.out] at hd
      obtain ⟨cs, hcs⟩ : ∃ cs, cs = dPair x := ⟨_, rfl⟩
      rw [← hcs] at HR HL HONE
      obtain ⟨wx, hwx⟩ : ∃ wx, wx = wr.alloc (.cells cs.toArray 56) := ⟨_, rfl⟩
      have hX : Bk wx wr.heap.size 56 (dPair x).toArray := by rw [hwx, ← hcs]; exact Bk.new _ _ _
      obtain ⟨hid32, hfin, Ai, ci, Ao, co, hxi, hxo, htx⟩ := hpk
      obtain ⟨x33, x34, x35⟩ := dent_tx hX hid32
      rw [hxi] at x34
      rw [hxo] at x35
      have HBX := Lib.hid (show Below w.heap.size w wx by rw [hwx]; exact hb.out.alloc hb.out.size _)
      have hgx : Bk wx q 4 (goesRow pp ps n k).toArray := by rw [hwx]; exact hg.out.alloc _
      have HGX := Lib.hid hgx
      have hzx : wr.heap.size < wx.heap.size := hX.lt
      have gq : (wx.cell? ⟨q, k, none⟩).isSome = true := by
        rw [hgx.cell]
        simp only [List.getElem?_toArray]
        rw [List.getElem?_eq_getElem (by rw [goes_len pp ps n k hk (by rw [← HN.out]; exact hk)]; exact hlt)]; rfl
      obtain ⟨g1, hgc⟩ := Option.isSome_iff_exists.1 gq
      have gf := hgx.frozen k
      clear hr hcs hX hgx gq
      go_upto_region 5 with (refine wpList_elem2 rfl rfl rfl rfl 56 (.tmp 24) (.tmp 7) (.tmp 25) (.tmp 23) rfl rfl rfl rfl b (off + k * 37) (by rfl) cs _ HR.out Tryd.underlying56 rfl (by rw [HL.out]; exact size_dent) ze HIZ.out (by rw [HZEL.out, HL.out]) HONE.out (.int .i64 (k : Int)) (by rfl) (by rfl) (by rfl) ?_)
      rw [← hwx]
      clear hwx
      replace hd : d = spends l x.1.tx := hd
      generalize x.1.tx = tv at *
      have HBXW := HBX
      have HTV := Lib.hid (fun W (hW : Below wx.heap.size wx W) => htx.below ((HBX.out.trans (hW.mono HBX.out.size)).mono hB))
      have HPTS := Lib.hid (rpoints_any tv Ai Ao ci co B wx (htx.below (HBX.out.mono hB)) (Nat.le_trans hB HBX.out.size) hfo)
      unfold txV at HPTS
      have hbwx := HBX.out.size
      have hqx : q < wx.heap.size := HGX.out.lt
      clear htx hgc gf
      go_wp2_with fail
      refine HPTS.out.mono ?_
      rintro e wp ⟨Ap, cp, rfl, _, _, hpts, hbp⟩
      have HBP := Lib.hid (HBX.out.trans (hbp.mono HBX.out.size))
      have HTSP := Lib.hid hpts
      have HGP := Lib.hid (HGX.out.below hbp hqx)
      have hzp := hbp.size
      clear hbp hpts x33 x34 x35 HPTS
      obtain ⟨ni, hni⟩ : ∃ ni, ni = tv.ins.length := ⟨_, rfl⟩
      have HNI := Lib.hid hni
      rw [← hni] at hfo ⊢
      have HHD := Lib.hid (show d = tv.ins.any fun x => l.any fun y => decide (y = x.hash) from hd)
      obtain ⟨gr, hgr⟩ : ∃ gr, gr = goesRow pp ps n k := ⟨_, rfl⟩
      have HGRL := Lib.hid (show gr.length = n by rw [hgr]; exact goes_len pp ps n k hk (by rw [← HN.out]; exact hk))
      have HGRB := Lib.hid (show ∀ v ∈ gr, ∃ b, v = .bool b by rw [hgr]; exact goes_bool pp ps n k)
      have HGR0 := Lib.hid (show gr.set k (.bool false) = gr by rw [hgr]; exact hgf)
      rw [← hgr] at HGP HSET
      clear hni hd hgf hgr
      go_wp2_with fail
      go_loopw [30] (fun iv wr => ∃ (m : Nat) (bb : Bool), iv = .int .i64 (m : Int) ∧ m ≤ ni ∧ Hid (bb = ((tv.ins.take m).any fun x => l.any fun y => decide (y = x.hash))) ∧ Hid (Bk wr q 4 (gr.set k (.bool bb)).toArray) ∧ Hid (Below w.heap.size w wr) ∧ Hid (Below wp.heap.size wp wp) ∧ Hid (At 33 IsPt wr wr.heap.size Ap tv.ins)) (fun iv _ => ni - (intOf iv).toNat)
      case atStart => exact ⟨0, false, rfl, Nat.zero_le _, Lib.hid (by simp), Lib.hid (by rw [HGR0.out]; exact HGP.out), HBP, Lib.hid (Below.refl _ _), HTSP⟩
      case round =>
        obtain ⟨m, bb, rfl, hm, hbd, hgb, hb2, _, hpt2⟩ := hrel
        have hzr2 := hb2.out.size
        by_cases hlm : m < ni
        · have hlm1 : m < tv.ins.length := by rw [← HNI.out]; exact hlm
          obtain ⟨bp, op, rfl, hbpB, hrp, hokp⟩ := PtsAt.range hpt2.out hlm1
          have m1 : (0 : Int) ≤ (m : Int) := by omega
          have m2 : (m : Int) < (ni : Int) := by omega
          have HM1 := Lib.hid (show ((tv.ins.take (m + 1)).any fun x => l.any fun y => decide (y = x.hash)) = (bb || l.any fun y => decide (y = tv.ins[m].hash)) by
            rw [List.take_succ_eq_append_getElem hlm1, List.any_append, ← hbd.out]
            simp)
          have HRH0 := Lib.hid (fun W (hW : Below w.heap.size w W) => rhas_any l Al cl Bl tv.ins[m].hash hokp.1 W (At.below HLS.out (hW.mono hBl)) (Nat.le_trans hBl hW.size) hll)
          generalize tv.ins[m] = y at *
          have HRP := Lib.hid hrp
          have HLP := Lib.hid (ptCells_len hokp)
          have HOP := Lib.hid (ptCells_one y)
          obtain ⟨hs, hhs⟩ : ∃ hs, hs = y.hash.map byteV := ⟨_, rfl⟩
          have HHSL := Lib.hid (show hs.length = 32 by rw [hhs, List.length_map]; exact hokp.1)
          have HPC := Lib.hid (show ptCells y = hs ++ [.int .u32 (y.n : Int)] by rw [hhs]; rfl)
          rw [← hhs] at HRH0
          generalize ptCells y = pc at *
          obtain ⟨d1, hd1⟩ : ∃ d1, d1 = l.any fun z => decide (z = y.hash) := ⟨_, rfl⟩
          rw [← hd1] at HM1 HRH0
          obtain ⟨wy, hwy⟩ : ∃ wy, wy = wr.alloc (.cells pc.toArray 78) := ⟨_, rfl⟩
          have hby : Below wr.heap.size wr wy := by rw [hwy]; exact Joins.below_alloc1 _ _
          have HHR := Lib.hid (show wy.rangeAt wr.heap.size 0 hs from range_head (by have := bk_range (Bk.new wr 78 pc.toArray); rw [← hwy, HPC.out] at this; exact this))
          have HBY := Lib.hid (hb2.out.trans (hby.mono hb2.out.size))
          have HGY := Lib.hid (hgb.out.below hby hgb.out.lt)
          have HPY := Lib.hid (At.kpZ hpt2.out (Nat.le_refl _) (Kp.of_below (S := fun _ => False) hby) (fun _ _ _ h => h))
          have gc : wy.cell? ⟨q, k, none⟩ = some (.bool bb) := by
            rw [HGY.out.cell k]
            simp only [List.getElem?_toArray]
            rw [List.getElem?_set_self (by rw [HGRL.out]; exact hlt)]
          have gf := HGY.out.frozen k
          have hlm' : m + 1 ≤ ni := hlm
          have hpq : bp ≠ q := by
            intro e
            subst e
            have h0 : ∃ u, pc[0]? = some u ∧ ∀ b, u ≠ .bool b := by
              have hl0 : hs ≠ [] := by intro h0; have := HHSL.out; rw [h0] at this; simp at this
              rw [HPC.out, hhs]
              match y.hash, hokp.1 with
              | z :: zs, _ => exact ⟨byteV z, rfl, fun b h => by unfold byteV at h; cases h⟩
            obtain ⟨u, hu, hub⟩ := h0
            have h1 := hrp 0 u hu
            rw [hgb.out.cell] at h1
            simp only [List.getElem?_toArray] at h1
            have h2 := List.mem_of_getElem? h1
            have h3 : ∃ b, u = .bool b := by
              rcases List.mem_or_eq_of_mem_set h2 with h | h
              · exact HGRB.out u h
              · exact ⟨_, h⟩
            obtain ⟨b, hb'⟩ := h3
            exact hub b hb'
          have HNE := Lib.hid (show ∀ b off, (some (⟨bp, op, none⟩ : Addr)) = some ⟨b, off, none⟩ → ¬ (b = q) from fun b off e h => by cases e; exact hpq h)
          clear hpq
          clear hrp hokp hhs hd1 hby
          go_upto_region 8 with (refine wpList_elem rfl rfl rfl 78 (.tmp 32) (.tmp 9) (.tmp 33) rfl rfl rfl bp (op + m * 33) (by rfl) pc _ HRP.out Tryd.underlying78 rfl (by rw [HLP.out]; exact size_pt) zp HZP.out (by rw [HPZL.out, HLP.out]) HOP.out (by rfl) (by rfl) ?_)
          rw [← hwy]
          clear hwy
          cases bb with
          | true =>
            go_wp2_with fail
            go_roundw
            case rel => exact ⟨m + 1, true, by go_num, hlm', Lib.hid (by rw [HM1.out]; rfl), Lib.hid (by have := HGY.out.set k (.bool true); rw [List.setIfInBounds_toArray, List.set_set] at this; exact this), Lib.hid (HBY.out.setCell (p := ⟨q, k, none⟩) hqg _), Lib.hid (Below.refl _ _), Lib.hid (At.kpZ HPY.out (Nat.le_refl _) (kp_cell1 _ _ _ _) HNE.out)⟩
            case measure => simp [intOf]; omega
          | false =>
            go_wp2_with (refine wpList_load_midg (by rfl) 54 (.tmp 42) rfl wr.heap.size 0 (by rfl) hs _ HHR.out Tryd.underlying54 rfl (by rw [HHSL.out]; exact size_hash0) ?_)
            refine (HRH0.out wy HBY.out).mono ?_
            rintro e wz ⟨rfl, hbz⟩
            have HGZ := Lib.hid (HGY.out.below hbz HGY.out.lt)
            have HBZ := Lib.hid (HBY.out.trans (hbz.mono HBY.out.size))
            have HPZ2 := Lib.hid (At.kpZ HPY.out (Nat.le_refl _) (Kp.of_below (S := fun _ => False) hbz) (fun _ _ _ h => h))
            have gcz : wz.cell? ⟨q, k, none⟩ = some (.bool false) := by
              rw [HGZ.out.cell k]
              simp only [List.getElem?_toArray]
              rw [List.getElem?_set_self (by rw [HGRL.out]; exact hlt)]
            have gfz := HGZ.out.frozen k
            clear hbz gc gf
            go_wp2_with fail
            go_roundw
            case rel => exact ⟨m + 1, d1, by go_num, hlm', Lib.hid (by rw [HM1.out]; rfl), Lib.hid (by have := HGZ.out.set k (.bool d1); rw [List.setIfInBounds_toArray, List.set_set] at this; exact this), Lib.hid (HBZ.out.setCell (p := ⟨q, k, none⟩) hqg _), Lib.hid (Below.refl _ _), Lib.hid (At.kpZ HPZ2.out (Nat.le_refl _) (kp_cell1 _ _ _ _) HNE.out)⟩
            case measure => simp [intOf]; omega
        · obtain rfl : m = ni := by omega
          have hbt : bb = d := by rw [hbd.out, HHD.out, HNI.out, List.take_of_length_le (Nat.le_refl _)]
          subst hbt
          go_wp2_with fail
          go_roundw
          case rel => exact ⟨k + 1, by go_num, by omega, Lib.hid (by rw [← HSET.out]; exact hgb.out), hb2⟩
          case measure => simp [intOf]; omega
    · obtain rfl : k = n := by omega
      have hfull := goes_full pp ps k HN.out
      rw [hfull] at hg
      have HPr := Lib.hid (show DPool B wr O (.slice AV k cV) ps from HP.out.kp (S := fun _ => False) (Kp.of_below hb.out) hB (fun _ _ h => h) (fun h => h) (fun _ _ h => h))
      have HPT := Lib.hid (dpart_any ps pp B O q k (.slice AV k cV) wr HPr.out (by omega) (by rw [← HN.out]; exact hn) hg.out)
      rw [← HN.out] at HPT
      go_wp2_with fail
      refine HPT.out.mono ?_
      rintro e w2 ⟨vg, vr, rfl, g1, g2, g3, g4, g5, g6⟩
      have hz2 := g6.size
      go_wp2_with fail
      go_ret
      exact ⟨vg, vr, rfl, g1, g2, g3, fun i hi => by have := g4 i hi; omega, fun i hi => by have := g5 i hi; omega, (Kp.of_below hb.out).trans_of g6 (fun _ _ h => h)⟩
end Go.Proofs.YtacbibflhdmcoaaDoor.O14
/- The document's Add. -/
namespace Go.Proofs.YtacbibflhdmcoaaDoor.O14
open Go.RowKit Go.Deep T7
set_option linter.unusedVariables false
set_option linter.unusedSimpArgs false
set_option maxRecDepth 100000
set_option maxHeartbeats 2000000
attribute [local go_sem ↓] Go.wp_at_zero Go.wp_at_succ

/-- what the document's Add leaves: who waits, who went, the error -/
def DAdd (D : Nat) (w : World) (O : Nat) (v : Value) (es : List Ent) (gone : List (List UInt8)) (err : Int) (e : Ending) (w' : World) : Prop :=
  ∃ A1 c1 v' ps', e = .returned (.tuple #[.slice A1 gone.length c1, .int .i64 err]) ∧ HashesAt w' w'.heap.size A1 gone ∧ DPool D w' O v' ps' ∧ ps'.map (·.1) = es ∧ (∀ i, v'.ownBlock = some i → v.ownBlock = some i ∨ w.heap.size ≤ i) ∧ Kp (fun i => i = O) w w'
theorem DAdd.same {D : Nat} {w : World} {O : Nat} {v : Value} {ps : List EP} {err : Int} {w' : World} (h : DPool D w O v ps) (hD : D ≤ w.heap.size) (hb : Below w.heap.size w w') : DAdd D w O v (ps.map (·.1)) [] err (.returned (.tuple #[.slice none 0 0, .int .i64 err])) w' :=
  ⟨none, 0, v, ps, rfl, fun i hi => by simp at hi, h.kp (S := fun _ => False) (Kp.of_below hb) hD (fun _ _ h => h) (fun h => h) (fun _ _ h => h), rfl, fun i hi => .inl hi, Kp.of_below hb⟩
theorem dadd_bad (ps : List EP) (D O : Nat) (v : Value) (src : Int) (t : Txs.Tx) (A A' : Option Addr) (c c' B : Nat) (now : Nat) (w : World) (h : DPool D w O v ps) (hD : D ≤ w.heap.size) (ht : TxAt w B t A c A' c') (hB : B ≤ w.heap.size) (hc : Txs.check t ≠ 0) :
    Calls Tryd.prog 13 #[.pointer (some ⟨O, 0, none⟩), .int .i64 src, txV t A c A' c', .int .u64 (now : Int)] w (DAdd D w O v (ps.map (·.1)) [] (Txs.check t)) := by
  have HP := Lib.hid h
  have HC := Lib.hid (rcheck_any t A A' c c' B)
  have HT := Lib.hid ht
  clear h ht
  unfold txV at HC ⊢
  obtain ⟨k, hk⟩ : ∃ k, k = Txs.check t := ⟨_, rfl⟩
  rw [← hk] at HC hc ⊢
  clear hk
  go_enter Tryd.func13, Tryd.ntmps13
  go_wp2_with fail
  refine (HC.out _ (HT.out.below ((Joins.below_alloc1 w _).mono hB)) (by simp; omega)).mono ?_
  rintro e w3 ⟨rfl, hb3⟩
  have HB3 := Lib.hid ((Joins.below_alloc1 w (.cells #[.int .u32 (t.version : Int), .slice A t.ins.length c, .slice A' t.outs.length c'] 35)).trans (hb3.mono (by simp)))
  clear hb3
  go_wp2_with fail
  go_ret2
  exact DAdd.same HP.out hD HB3.out
theorem dadd_there (ps : List EP) (D O : Nat) (v : Value) (src : Int) (t : Txs.Tx) (A A' : Option Addr) (c c' B : Nat) (now : Nat) (w : World) (hlay : Laid w) (h : DPool D w O v ps) (hD : D ≤ w.heap.size) (ht : TxAt w B t A c A' c') (hB : B ≤ w.heap.size) (hc : Txs.check t = 0)
    (hh : ((ps.map (·.1.id)).any fun x => decide (x = Txs.id t)) = true) (hn : ps.length ≤ 1000) :
    Calls Tryd.prog 13 #[.pointer (some ⟨O, 0, none⟩), .int .i64 src, txV t A c A' c', .int .u64 (now : Int)] w (DAdd D w O v (ps.map (·.1)) [] 10) := by
  have HP := Lib.hid h
  have HC := Lib.hid (fun W h1 h2 => hc ▸ rcheck_any t A A' c c' B W h1 h2)
  have hic := Txs.idErr_of hc
  have HI := Lib.hid (fun W (hl : Laid W) h1 h2 => hic ▸ rid_any t A A' c c' B W hl h1 h2)
  have HT := Lib.hid ht
  have HLY := Lib.hid hlay
  obtain ⟨id, hid'⟩ : ∃ id, id = Txs.id t := ⟨_, rfl⟩
  have HIL := Lib.hid (show id.length = 32 by rw [hid']; exact id_len t)
  have HII := Lib.hid hid'
  rw [← hid'] at HI hh
  obtain ⟨ia, hia⟩ : ∃ ia, ia = bytesArr id := ⟨_, rfl⟩
  have HIA := Lib.hid hia
  have HIS := Lib.hid (show ia.size = 32 by rw [hia]; simp [bytesArr, HIL.out])
  have HI1 := Lib.hid (show ia.all (·.oneCell') = true by rw [hia]; simp [bytesArr, Value.oneCell', byteV])
  rw [← hia] at HI
  have HHAS := Lib.hid (show ∀ W, DPool D W O v ps → D ≤ W.heap.size → Calls Tryd.prog 36 #[.pointer (some ⟨O, 0, none⟩), .agg ia] W fun e w' => e = .returned (.bool true) ∧ Below W.heap.size W w' from fun W hp hd => by
    have := dhas_any ps D O v id HIL.out W hd hp hn
    rw [show ((ps.map (·.1.id)).any fun x => decide (x = id)) = true from hh] at this
    rw [hia]
    exact this)
  obtain ⟨zs, hzs⟩ : ∃ zs, zs = bytesArr (List.replicate 32 (0 : UInt8)) := ⟨_, rfl⟩
  have HZ := Lib.hid (show (Tryd.prog.info? 54).map (·.zero) = some (some (.agg zs)) by rw [hzs]; exact zero_hash)
  have HZL := Lib.hid (show zs.size = 32 by rw [hzs]; simp [bytesArr])
  clear h ht hc hic hlay hid' hia hh hzs
  unfold txV at HC HI ⊢
  go_enter Tryd.func13, Tryd.ntmps13
  go_wp2_with fail
  refine (HC.out _ (HT.out.below ((Joins.below_alloc1 w _).mono hB)) (by simp; omega)).mono ?_
  rintro e w3 ⟨rfl, hb3⟩
  have HB3 := Lib.hid ((Joins.below_alloc1 w (.cells #[.int .u32 (t.version : Int), .slice A t.ins.length c, .slice A' t.outs.length c'] 35)).trans (hb3.mono (by simp)))
  have HK3 := Lib.hid (Bk.below (Bk.new w 35 #[.int .u32 (t.version : Int), .slice A t.ins.length c, .slice A' t.outs.length c']) hb3 (by simp))
  have k0 : w3.cell? ⟨w.heap.size, 0, none⟩ = some (.int .u32 (t.version : Int)) := (HK3.out.cell 0).trans rfl
  have k1 : w3.cell? ⟨w.heap.size, 1, none⟩ = some (.slice A t.ins.length c) := (HK3.out.cell 1).trans rfl
  have k2 : w3.cell? ⟨w.heap.size, 2, none⟩ = some (.slice A' t.outs.length c') := (HK3.out.cell 2).trans rfl
  have hz3 : w.heap.size + 1 ≤ w3.heap.size := by have := hb3.size; simpa using this
  clear hb3
  go_wp2_with fail
  refine (HI.out _ (HLY.out.below HB3.out) (HT.out.below (HB3.out.mono hB)) (by omega)).mono ?_
  rintro e w4 ⟨rfl, hb4⟩
  have HB4 := Lib.hid (HB3.out.trans (hb4.mono (by omega)))
  have HK4 := Lib.hid (HK3.out.below hb4 (by omega))
  have hz4 : w.heap.size + 1 ≤ w4.heap.size := by have := hb4.size; omega
  clear hb4 k0 k1 k2 HK3 HC HI
  go_upto_region 5 with (first
    | (refine wpList_allocOf rfl 54 rfl zs HZ.out ?_)
    | (refine wpList_store_row rfl 54 (.tmp 11) (.tmp 22) rfl w4.heap.size ia (by rfl) (by rfl) 54 zs ?hg (by rw [HIS.out]; exact size_hash) (by rw [HIS.out]; exact HZL.out) HI1.out ?_))
  case hg => exact Bk.new _ _ _
  obtain ⟨w5, hw5⟩ : ∃ w5, w5 = (w4.alloc (.cells zs 54)).setRow w4.heap.size ia := ⟨_, rfl⟩
  have HH5 := Lib.hid (show Bk w5 w4.heap.size 54 ia by rw [hw5]; exact setRow_heap _ _ _ _ _ _ (Bk.new w4 _ zs))
  have hb45 : Below w4.heap.size w4 w5 := by rw [hw5]; exact below_setRow ((Below.refl _ _).alloc (Nat.le_refl _) _) (Nat.le_refl _) _
  have hz5 : w5.heap.size = w4.heap.size + 1 := by rw [hw5]; simp [World.setRow]
  have HB5 := Lib.hid (HB4.out.trans (hb45.mono (by omega)))
  have HK5 := Lib.hid (HK4.out.below hb45 (by omega))
  obtain ⟨H, hH⟩ : ∃ H, H = w4.heap.size := ⟨_, rfl⟩
  rw [← hw5]
  rw [← hH] at HH5 hz5 hz4 ⊢
  clear hw5 hb45 HK4 hH
  go_wp2_with (refine wpList_load_row rfl 54 (.tmp 11) rfl H (by rfl) 54 ia (0, 0) _ HH5.out Tryd.underlying54 rfl (by rw [HIS.out]; exact size_hash) ?_)
  have HP5 := Lib.hid (HP.out.kp (S := fun _ => False) (Kp.of_below HB5.out) hD (fun _ _ h => h) (fun h => h) (fun _ _ h => h))
  refine (HHAS.out _ HP5.out (Nat.le_trans hD HB5.out.size)).mono ?_
  rintro e w6 ⟨rfl, hb6⟩
  have HB6 := Lib.hid (HB5.out.trans (hb6.mono (by omega)))
  clear hb6
  go_wp2_with fail
  go_ret2
  exact DAdd.same HP.out hD HB6.out
end Go.Proofs.YtacbibflhdmcoaaDoor.O14
