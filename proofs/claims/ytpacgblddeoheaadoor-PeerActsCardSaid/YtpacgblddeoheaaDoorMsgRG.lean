/- MsgRG, merged: TxRWhole, MsgRGet. -/
import Derived.Test.YtpacgblddeoheaaDoorTxRG
import Derived.Test.YtpacgblddeoheaaDoorTxWhole
import Derived.Test.YtpacgblddeoheaaDoorMsgRef
/- The document's Whole. -/
namespace Go.Proofs.YtpacgblddeoheaaDoor.T7
open Go.RowKit Go.Deep
set_option linter.unusedVariables false
set_option linter.unusedSimpArgs false
set_option maxRecDepth 100000
attribute [local go_sem ↓] Go.wp_at_zero Go.wp_at_succ

set_option maxHeartbeats 2000000 in
theorem rwhole_any (A : Option Addr) (n c B : Nat) (b : List UInt8) (w : World) (hl : b.length = n) (hc : n ≤ c) (hm : c ≤ maxLen) (hn : n ≤ 140737488351232) (hat : BytesAt w B A b) (hB : B ≤ w.heap.size) :
    Calls Tryd.prog 61 #[.slice A n c] w fun e w' => WholeOut w w' (Txs.whole b) e := by
  obtain ⟨w1, hw1⟩ : ∃ w1, w1 = w.alloc (.cells (txCells 0 (.slice none 0 0) (.slice none 0 0)) 49) := ⟨_, rfl⟩
  have hw1' : w1 = w.alloc (.cells #[.int .u32 0, .slice none 0 0, .slice none 0 0] 49) := hw1
  have HW := Lib.hid (show Below w.heap.size w w1 by rw [hw1]; exact Joins.below_alloc1 _ _)
  have HZ := Lib.hid (show w1.heap.size = w.heap.size + 1 by rw [hw1]; simp)
  have HR := Lib.hid (show Bk w1 w.heap.size 49 (txCells 0 (.slice none 0 0) (.slice none 0 0)) by rw [hw1]; exact Bk.new _ _ _)
  have HG := Lib.hid (rget_walk A n c B b w1 hl hc hm hn (At.below hat (HW.out.mono hB)) (by rw [HZ.out]; omega))
  have HWH := Lib.hid (show Txs.whole b = if (Txs.get b).2.2 ≠ 0 then (Txs.none, (Txs.get b).2.2) else if (Txs.get b).2.1 ≠ b.length then (Txs.none, 5) else ((Txs.get b).1, 0) from rfl)
  have hgn := get_n b
  rw [hl] at HWH hgn
  generalize Txs.get b = r at *
  obtain ⟨t, m, e⟩ := r
  simp only at HG HWH hgn
  clear hw1 hat hl
  go_enter Tryd.func61, Tryd.ntmps61
  go_wp2_with fail
  rw [← hw1']
  clear hw1'
  refine HG.out.mono ?_
  rintro e' w2 ⟨A1, c1, A2, c2, rfl, hat2, hb2⟩
  unfold txV
  simp only at hat2
  have HA2 := Lib.hid hat2
  have HR2 := Lib.hid (HR.out.below hb2 (by rw [HZ.out]; omega))
  have HW2 := Lib.hid (HW.out.trans (hb2.mono (by rw [HZ.out]; omega)))
  have hz2 := hb2.size
  rw [HZ.out] at hz2
  generalize hv : t.version = ver at *
  have HV := Lib.hid hv
  clear hat2 hb2 HG hv
  obtain ⟨w3, hw3⟩ : ∃ w3, w3 = w2.alloc (.cells (txCells ver (.slice A1 t.ins.length c1) (.slice A2 t.outs.length c2)) 49) := ⟨_, rfl⟩
  have hw3' : w3 = w2.alloc (.cells #[.int .u32 (ver : Int), .slice A1 t.ins.length c1, .slice A2 t.outs.length c2] 49) := hw3
  have HR3 := Lib.hid (show Bk w3 w.heap.size 49 (txCells 0 (.slice none 0 0) (.slice none 0 0)) by rw [hw3]; exact HR2.out.alloc _)
  have HT3 := Lib.hid (show Bk w3 w2.heap.size 49 (txCells ver (.slice A1 t.ins.length c1) (.slice A2 t.outs.length c2)) by rw [hw3]; exact Bk.new _ _ _)
  have HB23 := Lib.hid (show Below w2.heap.size w2 w3 by rw [hw3]; exact Joins.below_alloc1 _ _)
  have HW3 := Lib.hid (HW2.out.trans (HB23.out.mono HW2.out.size))
  have HA3 := Lib.hid ((HA2.out.kp ((Kp.of_below (S := fun _ => False) HB23.out)) (fun _ _ h => h.elim)))
  have t0 : w3.cell? ⟨w2.heap.size, 0, none⟩ = some (.int .u32 (ver : Int)) := (HT3.out.cell 0).trans rfl
  have t1 : w3.cell? ⟨w2.heap.size, 1, none⟩ = some (.slice A1 t.ins.length c1) := (HT3.out.cell 1).trans rfl
  have t2 : w3.cell? ⟨w2.heap.size, 2, none⟩ = some (.slice A2 t.outs.length c2) := (HT3.out.cell 2).trans rfl
  have r0 : w3.cell? ⟨w.heap.size, 0, none⟩ = some (.int .u32 0) := (HR3.out.cell 0).trans rfl
  have r1 : w3.cell? ⟨w.heap.size, 1, none⟩ = some (.slice none 0 0) := (HR3.out.cell 1).trans rfl
  have r2 : w3.cell? ⟨w.heap.size, 2, none⟩ = some (.slice none 0 0) := (HR3.out.cell 2).trans rfl
  have fr0 := HR3.out.frozen 0
  have fr1 := HR3.out.frozen 1
  have fr2 := HR3.out.frozen 2
  have hfin : ∀ (vi vo : Value) (v : Nat), Kp (fun i => i = w.heap.size) w3 (((w3.setCell ⟨w.heap.size, 0, none⟩ (.int .u32 (v : Int))).setCell ⟨w.heap.size, 1, none⟩ vi).setCell ⟨w.heap.size, 2, none⟩ vo) :=
    fun vi vo v => ((kp_cell1 _ _ _ _).trans (kp_cell1 _ _ _ _)).trans (kp_cell1 _ _ _ _)
  have HFIN := Lib.hid hfin
  have hbk : ∀ (vi vo : Value) (v : Nat), Bk (((w3.setCell ⟨w.heap.size, 0, none⟩ (.int .u32 (v : Int))).setCell ⟨w.heap.size, 1, none⟩ vi).setCell ⟨w.heap.size, 2, none⟩ vo) w.heap.size 49 (txCells v vi vo) :=
    fun vi vo v => ((HR3.out.set 0 _).set 1 _).set 2 _
  have HBK := Lib.hid hbk
  have hrw : ∀ (x : Int) (hr : Txs.whole b = (Txs.none, x)), ∀ vz, vz = (.tuple #[.agg (txCells 0 (.slice none 0 0) (.slice none 0 0)), .int .i64 x] : Value) → ∀ wz, Below w.heap.size w wz → WholeOut w wz (Txs.whole b) (.returned vz) := by
    intro x hr vz hvz wz hwz
    rw [hr, hvz]
    exact ⟨none, 0, none, 0, rfl, none_new _ _, hwz⟩
  have HRW := Lib.hid hrw
  clear hw3 hfin hbk hrw HW2 HR2 HA2
  have hcase : (e ≠ 0 ∧ True) ∨ (e = 0 ∧ m ≠ n) ∨ (e = 0 ∧ m = n) := by
    by_cases h : e = 0
    · by_cases h2 : m = n
      · exact .inr (.inr ⟨h, h2⟩)
      · exact .inr (.inl ⟨h, h2⟩)
    · exact .inl ⟨h, trivial⟩
  rcases hcase with ⟨he, -⟩ | ⟨he, hmn⟩ | ⟨he, hmn⟩
  · have he1 : (e == 0) = false := by rw [beq_eq_false_iff_ne]; exact he
    have he2 : (e != 0) = true := by rw [bne_iff_ne]; exact he
    have HX := Lib.hid (show Txs.whole b = (Txs.none, e) by rw [HWH.out, if_pos he])
    clear he
    go_upto_region 2 with (fail)
    rw [← hw3']
    clear hw3'
    go_wp2_with fail
    obtain ⟨wz, hwz⟩ : ∃ wz, wz = ((w3.setCell ⟨w.heap.size, 0, none⟩ (.int .u32 0)).setCell ⟨w.heap.size, 1, none⟩ (.slice none 0 0)).setCell ⟨w.heap.size, 2, none⟩ (.slice none 0 0) := ⟨_, rfl⟩
    have hz : Bk wz w.heap.size 49 (txCells 0 (.slice none 0 0) (.slice none 0 0)) := by rw [hwz]; exact HBK.out _ _ _
    have hkz : Kp (fun i => i = w.heap.size) w3 wz := by rw [hwz]; exact HFIN.out _ _ 0
    rw [← hwz]
    refine bodyPost_ret (results_row_tmp rfl _ _ w.heap.size 49 (txCells 0 (.slice none 0 0) (.slice none 0 0)) (0, 0) _ rfl hz Tryd.underlying49 rfl size_tx (.int .i64 e) (by rfl)) rfl ?_
    exact HRW.out e HX.out _ rfl _ (Kp.from_elder HW3.out hkz (fun i hi => by omega))
  · subst he
    have hmn2 : (m : Int) < (n : Int) := by omega
    have HX := Lib.hid (show Txs.whole b = (Txs.none, 5) by rw [HWH.out, if_neg (by simp), if_pos hmn])
    clear hmn
    go_upto_region 2 with (fail)
    rw [← hw3']
    clear hw3'
    go_wp2_with fail
    obtain ⟨wz, hwz⟩ : ∃ wz, wz = ((w3.setCell ⟨w.heap.size, 0, none⟩ (.int .u32 0)).setCell ⟨w.heap.size, 1, none⟩ (.slice none 0 0)).setCell ⟨w.heap.size, 2, none⟩ (.slice none 0 0) := ⟨_, rfl⟩
    have hz : Bk wz w.heap.size 49 (txCells 0 (.slice none 0 0) (.slice none 0 0)) := by rw [hwz]; exact HBK.out _ _ _
    have hkz : Kp (fun i => i = w.heap.size) w3 wz := by rw [hwz]; exact HFIN.out _ _ 0
    rw [← hwz]
    refine bodyPost_ret (results_row_tmp rfl _ _ w.heap.size 49 (txCells 0 (.slice none 0 0) (.slice none 0 0)) (0, 0) _ rfl hz Tryd.underlying49 rfl size_tx (.int .i64 5) (by rfl)) rfl ?_
    exact HRW.out 5 HX.out _ rfl _ (Kp.from_elder HW3.out hkz (fun i hi => by omega))
  · subst he
    have hmn2 : ¬ (m : Int) < (n : Int) := by omega
    have HX := Lib.hid (show Txs.whole b = (t, 0) by rw [HWH.out, if_neg (by simp), if_neg (by simp [hmn])])
    clear hmn
    go_upto_region 2 with (fail)
    rw [← hw3']
    clear hw3'
    go_wp2_with fail
    obtain ⟨wz, hwz⟩ : ∃ wz, wz = ((w3.setCell ⟨w.heap.size, 0, none⟩ (.int .u32 (ver : Int))).setCell ⟨w.heap.size, 1, none⟩ (.slice A1 t.ins.length c1)).setCell ⟨w.heap.size, 2, none⟩ (.slice A2 t.outs.length c2) := ⟨_, rfl⟩
    have hz : Bk wz w.heap.size 49 (txCells ver (.slice A1 t.ins.length c1) (.slice A2 t.outs.length c2)) := by rw [hwz]; exact HBK.out _ _ _
    have hkz : Kp (fun i => i = w.heap.size) w3 wz := by rw [hwz]; exact HFIN.out _ _ _
    rw [← hwz]
    refine bodyPost_ret (results_row_tmp rfl _ _ w.heap.size 49 (txCells ver (.slice A1 t.ins.length c1) (.slice A2 t.outs.length c2)) (0, 0) _ rfl hz Tryd.underlying49 rfl size_tx (.int .i64 0) (by rfl)) rfl ?_
    rw [HX.out]
    refine ⟨A1, c1, A2, c2, by unfold txV; rw [HV.out]; rfl, ?_, Kp.from_elder HW3.out hkz (fun i hi => by omega)⟩
    exact (HA3.out.kp hkz (fun i _ e => by rw [HZ.out]; omega)).mono (by rw [HZ.out]; omega)
end Go.Proofs.YtpacgblddeoheaaDoor.T7
/- The document's Get. -/
namespace Go.Proofs.YtpacgblddeoheaaDoor.M8
open Go.RowKit Go.Deep T7
set_option linter.unusedVariables false
set_option linter.unusedSimpArgs false
set_option maxRecDepth 100000
attribute [local go_sem ↓] Go.wp_at_zero Go.wp_at_succ

set_option maxHeartbeats 8000000 in
theorem rget_k2 (A : Option Addr) (L c B : Nat) (b : List UInt8) (w : World) (hl : b.length = L) (hc : L ≤ c) (hm : c ≤ maxLen) (hn : L ≤ 140737488351232) (hat : BytesAt w B A b) (hB : B ≤ w.heap.size) :
    Calls Tryd.prog 39 #[.string ⟨(Msgs.shp 2).cmd.toArray⟩, .slice A L c] w fun e w' => MsgOut w w' (Msgs.getOf 2 b) e := by
  have HAT := Lib.hid hat
  have HL := Lib.hid hl
  have HMX := Lib.hid hm
  have HFX := Lib.hid (fun W => fixed_yes 2 rfl W)
  rw [show fixedOf (Msgs.shp 2) = 0 from rfl] at HFX
  obtain ⟨ck, hck⟩ : ∃ ck, ck = (Msgs.shp 2).cmd := ⟨_, rfl⟩
  rw [← hck]
  have HCK := Lib.hid hck
  obtain ⟨w0, hw0⟩ : ∃ w0, w0 = w.alloc (.cells zeroM 51) := ⟨_, rfl⟩
  have hw0' : w0 = w.alloc (.cells #[.int .i64 0, .int .u64 0, .int .u32 0, .slice none 0 0, .int .u32 0, .slice none 0 0, .slice none 0 0] 51) := hw0
  obtain ⟨g, hg⟩ : ∃ g, g = w.heap.size := ⟨_, rfl⟩
  have HR0 := Lib.hid (show Bk w0 g 51 zeroM by rw [hw0, hg]; exact Bk.new _ _ _)
  have HB0 := Lib.hid (show Below w.heap.size w w0 by rw [hw0]; exact Joins.below_alloc1 _ _)
  have hz0 : g + 1 ≤ w0.heap.size := by rw [hw0, hg]; simp
  have hgB : B ≤ g := by omega
  have hgw : w.heap.size ≤ g := by omega
  have HG := Lib.hid hg
  unfold maxLen at hm
  clear hw0 hat hl hck
  go_enter Tryd.func39, Tryd.ntmps39
  go_wp2_with fail
  rw [← hw0', ← hg]
  clear hw0' hg
  go_loop [6] (fun u => ∃ j : Nat, 1 ≤ j ∧ j ≤ 2 ∧ u = .int .i64 (j : Int)) (fun u => 2 - (intOf u).toNat)
  case atStart => exact ⟨1, by omega, by omega, rfl⟩
  case round =>
    obtain ⟨j, hj1, hj2, rfl⟩ := hrel
    by_cases hlt : j < 2
    · have hkj : Msgs.known (j : Int) = true := Msgs.known_iff.2 ⟨by omega, by omega⟩
      have HNM := Lib.hid (fun W => name_yes (j : Int) hkj W)
      obtain ⟨cj, hcj⟩ : ∃ cj, cj = (Msgs.shp (j : Int)).cmd := ⟨_, rfl⟩
      have hne : (cj == ck) = false := by
        rw [beq_eq_false_iff_ne, HCK.out, hcj]
        exact fun h => absurd (Msgs.cmd_inj hkj rfl h) (by omega)
      rw [← hcj] at HNM
      have j1 : (j : Int) ≤ 11 := by omega
      clear hcj hkj
      go_wp2_with (go_at_call 56; refine (HNM.out _).mono ?_; rintro e w' ⟨rfl, rfl⟩)
      go_round
      case rel => exact ⟨j + 1, by omega, by omega, by go_num⟩
      case measure => simp [intOf]; omega
    · obtain rfl : j = 2 := by omega
      have HNM := Lib.hid (fun W => name_yes 2 rfl W)
      rw [← HCK.out] at HNM
      clear hlt
      try simp only [Int.cast_ofNat_Int, Int.natCast_one]
      have hce : (ck == ck) = true := beq_self_eq_true _
      go_upto_region 7 with (go_at_call 56; refine (HNM.out _).mono ?_; rintro e w' ⟨rfl, rfl⟩)
      obtain ⟨gm, hgm⟩ : ∃ gm, gm = w0.heap.size := ⟨_, rfl⟩
      obtain ⟨w3, hw3⟩ : ∃ w3, w3 = w0.alloc (.cells (mCells 2 0 0 (.slice none 0 0) 0 (.slice none 0 0) (.slice none 0 0)) 51) := ⟨_, rfl⟩
      have hw3' : w3 = w0.alloc (.cells #[.int .i64 2, .int .u64 0, .int .u32 0, .slice none 0 0, .int .u32 0, .slice none 0 0, .slice none 0 0] 51) := hw3
      have HM3 := Lib.hid (show Bk w3 gm 51 (mCells 2 0 0 (.slice none 0 0) 0 (.slice none 0 0) (.slice none 0 0)) by rw [hw3, hgm]; exact Bk.new _ _ _)
      have HR3 := Lib.hid (show Bk w3 g 51 zeroM by rw [hw3]; exact HR0.out.alloc _)
      have HB3 := Lib.hid (show Below w.heap.size w w3 by rw [hw3]; exact HB0.out.alloc HB0.out.size _)
      have hz3 : gm + 1 ≤ w3.heap.size := by rw [hw3, hgm]; simp
      have hgg : g + 1 ≤ gm := by omega
      rw [← hw3', ← hgm]
      clear hw3 hw3' hgm hz0 HR0 HB0 hce
      have HGO := Lib.hid (show Msgs.getOf 2 b = Msgs.plain 2 b from rfl)
      have HPE := Lib.hid (plain_err 2 b)
      have hER : errP (Msgs.shp 2) b = if L < 0 then 4 else if 0 < L then 5 else if (Msgs.shp 2).most < Msgs.codeOf (Msgs.shp 2) b then 6 else 0 := by unfold errP; rw [HL.out]; rfl
      rcases Nat.lt_trichotomy L 0 with q | q | q
      · have HX := Lib.hid (show Msgs.getOf 2 b = (Msgs.none, 4) by
          have h4 : errP (Msgs.shp 2) b = 4 := by rw [hER, if_pos q]
          rw [HGO.out, HPE.out.1 (by rw [h4]; decide), h4])
        have q' : (L : Int) < 0 := by omega
        clear hER
        go_wp2_with (first | (go_at_call 57; refine (HFX.out _).mono ?_; rintro e w' ⟨rfl, rfl⟩) | (refine wpList_store_row rfl 51 (.tmp 4) _ rfl g zeroM (by rfl) (by rfl) 51 zeroM HR3.out (by exact size_msg) rfl zeroM_one ?_))
        refine bodyPost_ret (results_row_tmp rfl _ _ g 51 zeroM (0, 0) _ rfl (setRow_heap _ _ _ _ _ _ HR3.out) Tryd.underlying51 rfl (by exact size_msg) (.int .i64 4) (by rfl)) rfl ?_
        rw [HX.out]
        exact ⟨none, 0, none, 0, none, 0, rfl, none_new _ _, below_row HB3.out (by omega) _⟩
      · subst q
        rw [if_neg (by omega), if_neg (by omega)] at hER
        have hE0 : errP (Msgs.shp 2) b = 0 := by rw [hER, if_neg (by show ¬ (0 < Msgs.codeOf (Msgs.shp 2) b); rw [show Msgs.codeOf (Msgs.shp 2) b = 0 from rfl]; omega)]
        clear hER
        go_upto_region 49 with (go_at_call 57; refine (HFX.out _).mono ?_; rintro e w' ⟨rfl, rfl⟩)
        obtain ⟨mm, hmm⟩ : ∃ mm, mm = mCells 2 (0) (0) (.slice none ([] : List (List UInt8)).length 0) 0 (.slice none 0 0) (.slice none 0 0) := ⟨_, rfl⟩
        have HV := Lib.hid (show msgV ⟨2, 0, 0, [], Txs.none⟩ none 0 none 0 none 0 = .agg mm by rw [hmm]; rfl)
        have HMM := Lib.hid (show Bk w3 gm 51 mm by rw [hmm]; exact HM3.out)
        have HAT2 := Lib.hid (show ∀ wz, Kp (fun i => i < w.heap.size ∨ i = g) w3 wz → MsgAt wz wz.heap.size ⟨2, 0, 0, [], Txs.none⟩ none 0 none 0 none 0 from fun wz kz => ⟨by show _ ≤ (2 : Int); decide, by show (2 : Int) ≤ _; decide, by show (0 : Nat) < _; omega, by show (0 : Nat) < _; omega, Nat.le_refl _, by simp [maxLen], fun i hi => by simp at hi, none_tx _ _⟩)
        have HX := Lib.hid (show Msgs.getOf 2 b = (⟨2, 0, 0, [], Txs.none⟩, 0) by rw [HGO.out, HPE.out.2 hE0]; rfl)
        clear hmm
        have HML := Lib.hid (msgV_cells HV.out).1
        have HMO := Lib.hid (msgV_cells HV.out).2
        go_wp2_with (first
          | (refine wpList_load_row rfl 51 (.tmp 7) rfl gm (by rfl) 51 mm (0, 0) _ HMM.out Tryd.underlying51 rfl (by rw [HML.out]; exact size_msg) ?_)
          | (refine wpList_store_row rfl 51 (.tmp 4) _ rfl g mm (by rfl) (by rfl) 51 zeroM HR3.out (by rw [HML.out]; exact size_msg) (by rw [HML.out]; rfl) HMO.out ?_))
        refine bodyPost_ret (results_row_tmp rfl _ _ g 51 mm (0, 0) _ rfl (setRow_heap _ _ _ _ _ _ HR3.out) Tryd.underlying51 rfl (by rw [HML.out]; exact size_msg) (.int .i64 0) (by rfl)) rfl ?_
        have kz : Kp (fun i => i = g) w3 (w3.setRow g mm) := Kp.setRow7 (S := fun i => i = g) (Kp.refl _ _) (fun _ => rfl) mm
        rw [HX.out]
        exact ⟨_, _, _, _, _, _, by rw [HV.out], (fun wz hz => HAT2.out wz ((kz.mono (fun _ _ h => .inr h)).trans (hz.mono (fun _ _ h => .inl h)))), below_row HB3.out (by omega) mm⟩
      · have HX := Lib.hid (show Msgs.getOf 2 b = (Msgs.none, 5) by
          have h4 : errP (Msgs.shp 2) b = 5 := by rw [hER, if_neg (by omega), if_pos q]
          rw [HGO.out, HPE.out.1 (by rw [h4]; decide), h4])
        have q' : ¬ (L : Int) < 0 := by omega
        have q'' : (0 : Int) < (L : Int) := by omega
        clear hER
        go_wp2_with (first | (go_at_call 57; refine (HFX.out _).mono ?_; rintro e w' ⟨rfl, rfl⟩) | (refine wpList_store_row rfl 51 (.tmp 4) _ rfl g zeroM (by rfl) (by rfl) 51 zeroM HR3.out (by exact size_msg) rfl zeroM_one ?_))
        refine bodyPost_ret (results_row_tmp rfl _ _ g 51 zeroM (0, 0) _ rfl (setRow_heap _ _ _ _ _ _ HR3.out) Tryd.underlying51 rfl (by exact size_msg) (.int .i64 5) (by rfl)) rfl ?_
        rw [HX.out]
        exact ⟨none, 0, none, 0, none, 0, rfl, none_new _ _, below_row HB3.out (by omega) _⟩
set_option maxHeartbeats 8000000 in
theorem rget_k3 (A : Option Addr) (L c B : Nat) (b : List UInt8) (w : World) (hl : b.length = L) (hc : L ≤ c) (hm : c ≤ maxLen) (hn : L ≤ 140737488351232) (hat : BytesAt w B A b) (hB : B ≤ w.heap.size) :
    Calls Tryd.prog 39 #[.string ⟨(Msgs.shp 3).cmd.toArray⟩, .slice A L c] w fun e w' => MsgOut w w' (Msgs.getOf 3 b) e := by
  have HAT := Lib.hid hat
  have HL := Lib.hid hl
  have HMX := Lib.hid hm
  have HFX := Lib.hid (fun W => fixed_yes 3 rfl W)
  rw [show fixedOf (Msgs.shp 3) = 8 from rfl] at HFX
  obtain ⟨ck, hck⟩ : ∃ ck, ck = (Msgs.shp 3).cmd := ⟨_, rfl⟩
  rw [← hck]
  have HCK := Lib.hid hck
  obtain ⟨w0, hw0⟩ : ∃ w0, w0 = w.alloc (.cells zeroM 51) := ⟨_, rfl⟩
  have hw0' : w0 = w.alloc (.cells #[.int .i64 0, .int .u64 0, .int .u32 0, .slice none 0 0, .int .u32 0, .slice none 0 0, .slice none 0 0] 51) := hw0
  obtain ⟨g, hg⟩ : ∃ g, g = w.heap.size := ⟨_, rfl⟩
  have HR0 := Lib.hid (show Bk w0 g 51 zeroM by rw [hw0, hg]; exact Bk.new _ _ _)
  have HB0 := Lib.hid (show Below w.heap.size w w0 by rw [hw0]; exact Joins.below_alloc1 _ _)
  have hz0 : g + 1 ≤ w0.heap.size := by rw [hw0, hg]; simp
  have hgB : B ≤ g := by omega
  have hgw : w.heap.size ≤ g := by omega
  have HG := Lib.hid hg
  unfold maxLen at hm
  clear hw0 hat hl hck
  go_enter Tryd.func39, Tryd.ntmps39
  go_wp2_with fail
  rw [← hw0', ← hg]
  clear hw0' hg
  go_loop [6] (fun u => ∃ j : Nat, 1 ≤ j ∧ j ≤ 3 ∧ u = .int .i64 (j : Int)) (fun u => 3 - (intOf u).toNat)
  case atStart => exact ⟨1, by omega, by omega, rfl⟩
  case round =>
    obtain ⟨j, hj1, hj2, rfl⟩ := hrel
    by_cases hlt : j < 3
    · have hkj : Msgs.known (j : Int) = true := Msgs.known_iff.2 ⟨by omega, by omega⟩
      have HNM := Lib.hid (fun W => name_yes (j : Int) hkj W)
      obtain ⟨cj, hcj⟩ : ∃ cj, cj = (Msgs.shp (j : Int)).cmd := ⟨_, rfl⟩
      have hne : (cj == ck) = false := by
        rw [beq_eq_false_iff_ne, HCK.out, hcj]
        exact fun h => absurd (Msgs.cmd_inj hkj rfl h) (by omega)
      rw [← hcj] at HNM
      have j1 : (j : Int) ≤ 11 := by omega
      clear hcj hkj
      go_wp2_with (go_at_call 56; refine (HNM.out _).mono ?_; rintro e w' ⟨rfl, rfl⟩)
      go_round
      case rel => exact ⟨j + 1, by omega, by omega, by go_num⟩
      case measure => simp [intOf]; omega
    · obtain rfl : j = 3 := by omega
      have HNM := Lib.hid (fun W => name_yes 3 rfl W)
      rw [← HCK.out] at HNM
      clear hlt
      try simp only [Int.cast_ofNat_Int, Int.natCast_one]
      have hce : (ck == ck) = true := beq_self_eq_true _
      go_upto_region 7 with (go_at_call 56; refine (HNM.out _).mono ?_; rintro e w' ⟨rfl, rfl⟩)
      obtain ⟨gm, hgm⟩ : ∃ gm, gm = w0.heap.size := ⟨_, rfl⟩
      obtain ⟨w3, hw3⟩ : ∃ w3, w3 = w0.alloc (.cells (mCells 3 0 0 (.slice none 0 0) 0 (.slice none 0 0) (.slice none 0 0)) 51) := ⟨_, rfl⟩
      have hw3' : w3 = w0.alloc (.cells #[.int .i64 3, .int .u64 0, .int .u32 0, .slice none 0 0, .int .u32 0, .slice none 0 0, .slice none 0 0] 51) := hw3
      have HM3 := Lib.hid (show Bk w3 gm 51 (mCells 3 0 0 (.slice none 0 0) 0 (.slice none 0 0) (.slice none 0 0)) by rw [hw3, hgm]; exact Bk.new _ _ _)
      have HR3 := Lib.hid (show Bk w3 g 51 zeroM by rw [hw3]; exact HR0.out.alloc _)
      have HB3 := Lib.hid (show Below w.heap.size w w3 by rw [hw3]; exact HB0.out.alloc HB0.out.size _)
      have hz3 : gm + 1 ≤ w3.heap.size := by rw [hw3, hgm]; simp
      have hgg : g + 1 ≤ gm := by omega
      rw [← hw3', ← hgm]
      clear hw3 hw3' hgm hz0 HR0 HB0 hce
      have HGO := Lib.hid (show Msgs.getOf 3 b = Msgs.plain 3 b from rfl)
      have HPE := Lib.hid (plain_err 3 b)
      have hER : errP (Msgs.shp 3) b = if L < 8 then 4 else if 8 < L then 5 else if (Msgs.shp 3).most < Msgs.codeOf (Msgs.shp 3) b then 6 else 0 := by unfold errP; rw [HL.out]; rfl
      rcases Nat.lt_trichotomy L 8 with q | q | q
      · have HX := Lib.hid (show Msgs.getOf 3 b = (Msgs.none, 4) by
          have h4 : errP (Msgs.shp 3) b = 4 := by rw [hER, if_pos q]
          rw [HGO.out, HPE.out.1 (by rw [h4]; decide), h4])
        have q' : (L : Int) < 8 := by omega
        clear hER
        go_wp2_with (first | (go_at_call 57; refine (HFX.out _).mono ?_; rintro e w' ⟨rfl, rfl⟩) | (refine wpList_store_row rfl 51 (.tmp 4) _ rfl g zeroM (by rfl) (by rfl) 51 zeroM HR3.out (by exact size_msg) rfl zeroM_one ?_))
        refine bodyPost_ret (results_row_tmp rfl _ _ g 51 zeroM (0, 0) _ rfl (setRow_heap _ _ _ _ _ _ HR3.out) Tryd.underlying51 rfl (by exact size_msg) (.int .i64 4) (by rfl)) rfl ?_
        rw [HX.out]
        exact ⟨none, 0, none, 0, none, 0, rfl, none_new _ _, below_row HB3.out (by omega) _⟩
      · subst q
        rw [if_neg (by omega), if_neg (by omega)] at hER
        have hE0 : errP (Msgs.shp 3) b = 0 := by rw [hER, if_neg (by show ¬ (0 < Msgs.codeOf (Msgs.shp 3) b); rw [show Msgs.codeOf (Msgs.shp 3) b = 0 from rfl]; omega)]
        clear hER
        have HGN := Lib.hid (fun W (h : BytesAt W B A b) => rget_yes A c B b (by rw [HL.out]; omega) W h)
        rw [HL.out] at HGN
        have HNV := Lib.hid (show Msgs.numOf (Msgs.shp 3) b = Oct.val b by unfold Msgs.numOf; show Oct.val ((b.drop 0).take 8) = _; rw [List.drop_zero, List.take_of_length_le (by rw [HL.out]; exact Nat.le_refl _)])
        have hvl := Oct.val_lt b
        rw [HL.out] at hvl
        have m1 : w3.cell? ⟨gm, 1, none⟩ = some (.int .u64 0) := (HM3.out.cell 1).trans rfl
        have f1 := HM3.out.frozen 1
        have hvl' : Oct.val b < 18446744073709551616 := by simpa using hvl
        obtain ⟨x, hx⟩ : ∃ x, x = Oct.val b := ⟨_, rfl⟩
        rw [← hx] at HGN HNV hvl'
        clear hvl hx
        go_upto_region 49 with (first | (go_at_call 57; refine (HFX.out _).mono ?_; rintro e w' ⟨rfl, rfl⟩) | (go_at_call 58; refine (HGN.out _ (At.below HAT.out (HB3.out.mono hB))).mono ?_; rintro e w' ⟨rfl, rfl⟩))
        obtain ⟨w5, hw5⟩ : ∃ w5, w5 = w3.setCell ⟨gm, 1, none⟩ (.int .u64 (x : Int)) := ⟨_, rfl⟩
        have k35 : Kp (fun i => i = gm) w3 w5 := by rw [hw5]; exact kp_cell1 _ _ _ _
        have HM5 := Lib.hid (show Bk w5 gm 51 (mCells 3 x 0 (.slice none 0 0) 0 (.slice none 0 0) (.slice none 0 0)) by rw [hw5]; exact HM3.out.set 1 _)
        have HR5 := Lib.hid (HR3.out.kp k35 (by show ¬ g = gm; omega))
        have HB5 := Lib.hid (Kp.from_elder HB3.out k35 (fun i hi e => by omega))
        have hz5 := k35.size
        rw [← hw5]
        clear hw5 k35 m1 f1
        obtain ⟨mm, hmm⟩ : ∃ mm, mm = mCells 3 (x) (0) (.slice none ([] : List (List UInt8)).length 0) 0 (.slice none 0 0) (.slice none 0 0) := ⟨_, rfl⟩
        have HV := Lib.hid (show msgV ⟨3, x, 0, [], Txs.none⟩ none 0 none 0 none 0 = .agg mm by rw [hmm]; rfl)
        have HMM := Lib.hid (show Bk w5 gm 51 mm by rw [hmm]; exact HM5.out)
        have HAT2 := Lib.hid (show ∀ wz, Kp (fun i => i < w.heap.size ∨ i = g) w5 wz → MsgAt wz wz.heap.size ⟨3, x, 0, [], Txs.none⟩ none 0 none 0 none 0 from fun wz kz => ⟨by show _ ≤ (3 : Int); decide, by show (3 : Int) ≤ _; decide, hvl', by show (0 : Nat) < _; omega, Nat.le_refl _, by simp [maxLen], fun i hi => by simp at hi, none_tx _ _⟩)
        have HX := Lib.hid (show Msgs.getOf 3 b = (⟨3, x, 0, [], Txs.none⟩, 0) by rw [HGO.out, HPE.out.2 hE0, HNV.out]; rfl)
        clear hmm
        have HML := Lib.hid (msgV_cells HV.out).1
        have HMO := Lib.hid (msgV_cells HV.out).2
        go_wp2_with (first
          | (refine wpList_load_row rfl 51 (.tmp 7) rfl gm (by rfl) 51 mm (0, 0) _ HMM.out Tryd.underlying51 rfl (by rw [HML.out]; exact size_msg) ?_)
          | (refine wpList_store_row rfl 51 (.tmp 4) _ rfl g mm (by rfl) (by rfl) 51 zeroM HR5.out (by rw [HML.out]; exact size_msg) (by rw [HML.out]; rfl) HMO.out ?_))
        refine bodyPost_ret (results_row_tmp rfl _ _ g 51 mm (0, 0) _ rfl (setRow_heap _ _ _ _ _ _ HR5.out) Tryd.underlying51 rfl (by rw [HML.out]; exact size_msg) (.int .i64 0) (by rfl)) rfl ?_
        have kz : Kp (fun i => i = g) w5 (w5.setRow g mm) := Kp.setRow7 (S := fun i => i = g) (Kp.refl _ _) (fun _ => rfl) mm
        rw [HX.out]
        exact ⟨_, _, _, _, _, _, by rw [HV.out], (fun wz hz => HAT2.out wz ((kz.mono (fun _ _ h => .inr h)).trans (hz.mono (fun _ _ h => .inl h)))), below_row HB5.out (by omega) mm⟩
      · have HX := Lib.hid (show Msgs.getOf 3 b = (Msgs.none, 5) by
          have h4 : errP (Msgs.shp 3) b = 5 := by rw [hER, if_neg (by omega), if_pos q]
          rw [HGO.out, HPE.out.1 (by rw [h4]; decide), h4])
        have q' : ¬ (L : Int) < 8 := by omega
        have q'' : (8 : Int) < (L : Int) := by omega
        clear hER
        go_wp2_with (first | (go_at_call 57; refine (HFX.out _).mono ?_; rintro e w' ⟨rfl, rfl⟩) | (refine wpList_store_row rfl 51 (.tmp 4) _ rfl g zeroM (by rfl) (by rfl) 51 zeroM HR3.out (by exact size_msg) rfl zeroM_one ?_))
        refine bodyPost_ret (results_row_tmp rfl _ _ g 51 zeroM (0, 0) _ rfl (setRow_heap _ _ _ _ _ _ HR3.out) Tryd.underlying51 rfl (by exact size_msg) (.int .i64 5) (by rfl)) rfl ?_
        rw [HX.out]
        exact ⟨none, 0, none, 0, none, 0, rfl, none_new _ _, below_row HB3.out (by omega) _⟩
set_option maxHeartbeats 8000000 in
theorem rget_k4 (A : Option Addr) (L c B : Nat) (b : List UInt8) (w : World) (hl : b.length = L) (hc : L ≤ c) (hm : c ≤ maxLen) (hn : L ≤ 140737488351232) (hat : BytesAt w B A b) (hB : B ≤ w.heap.size) :
    Calls Tryd.prog 39 #[.string ⟨(Msgs.shp 4).cmd.toArray⟩, .slice A L c] w fun e w' => MsgOut w w' (Msgs.getOf 4 b) e := by
  have HAT := Lib.hid hat
  have HL := Lib.hid hl
  have HMX := Lib.hid hm
  have HFX := Lib.hid (fun W => fixed_yes 4 rfl W)
  rw [show fixedOf (Msgs.shp 4) = 8 from rfl] at HFX
  obtain ⟨ck, hck⟩ : ∃ ck, ck = (Msgs.shp 4).cmd := ⟨_, rfl⟩
  rw [← hck]
  have HCK := Lib.hid hck
  obtain ⟨w0, hw0⟩ : ∃ w0, w0 = w.alloc (.cells zeroM 51) := ⟨_, rfl⟩
  have hw0' : w0 = w.alloc (.cells #[.int .i64 0, .int .u64 0, .int .u32 0, .slice none 0 0, .int .u32 0, .slice none 0 0, .slice none 0 0] 51) := hw0
  obtain ⟨g, hg⟩ : ∃ g, g = w.heap.size := ⟨_, rfl⟩
  have HR0 := Lib.hid (show Bk w0 g 51 zeroM by rw [hw0, hg]; exact Bk.new _ _ _)
  have HB0 := Lib.hid (show Below w.heap.size w w0 by rw [hw0]; exact Joins.below_alloc1 _ _)
  have hz0 : g + 1 ≤ w0.heap.size := by rw [hw0, hg]; simp
  have hgB : B ≤ g := by omega
  have hgw : w.heap.size ≤ g := by omega
  have HG := Lib.hid hg
  unfold maxLen at hm
  clear hw0 hat hl hck
  go_enter Tryd.func39, Tryd.ntmps39
  go_wp2_with fail
  rw [← hw0', ← hg]
  clear hw0' hg
  go_loop [6] (fun u => ∃ j : Nat, 1 ≤ j ∧ j ≤ 4 ∧ u = .int .i64 (j : Int)) (fun u => 4 - (intOf u).toNat)
  case atStart => exact ⟨1, by omega, by omega, rfl⟩
  case round =>
    obtain ⟨j, hj1, hj2, rfl⟩ := hrel
    by_cases hlt : j < 4
    · have hkj : Msgs.known (j : Int) = true := Msgs.known_iff.2 ⟨by omega, by omega⟩
      have HNM := Lib.hid (fun W => name_yes (j : Int) hkj W)
      obtain ⟨cj, hcj⟩ : ∃ cj, cj = (Msgs.shp (j : Int)).cmd := ⟨_, rfl⟩
      have hne : (cj == ck) = false := by
        rw [beq_eq_false_iff_ne, HCK.out, hcj]
        exact fun h => absurd (Msgs.cmd_inj hkj rfl h) (by omega)
      rw [← hcj] at HNM
      have j1 : (j : Int) ≤ 11 := by omega
      clear hcj hkj
      go_wp2_with (go_at_call 56; refine (HNM.out _).mono ?_; rintro e w' ⟨rfl, rfl⟩)
      go_round
      case rel => exact ⟨j + 1, by omega, by omega, by go_num⟩
      case measure => simp [intOf]; omega
    · obtain rfl : j = 4 := by omega
      have HNM := Lib.hid (fun W => name_yes 4 rfl W)
      rw [← HCK.out] at HNM
      clear hlt
      try simp only [Int.cast_ofNat_Int, Int.natCast_one]
      have hce : (ck == ck) = true := beq_self_eq_true _
      go_upto_region 7 with (go_at_call 56; refine (HNM.out _).mono ?_; rintro e w' ⟨rfl, rfl⟩)
      obtain ⟨gm, hgm⟩ : ∃ gm, gm = w0.heap.size := ⟨_, rfl⟩
      obtain ⟨w3, hw3⟩ : ∃ w3, w3 = w0.alloc (.cells (mCells 4 0 0 (.slice none 0 0) 0 (.slice none 0 0) (.slice none 0 0)) 51) := ⟨_, rfl⟩
      have hw3' : w3 = w0.alloc (.cells #[.int .i64 4, .int .u64 0, .int .u32 0, .slice none 0 0, .int .u32 0, .slice none 0 0, .slice none 0 0] 51) := hw3
      have HM3 := Lib.hid (show Bk w3 gm 51 (mCells 4 0 0 (.slice none 0 0) 0 (.slice none 0 0) (.slice none 0 0)) by rw [hw3, hgm]; exact Bk.new _ _ _)
      have HR3 := Lib.hid (show Bk w3 g 51 zeroM by rw [hw3]; exact HR0.out.alloc _)
      have HB3 := Lib.hid (show Below w.heap.size w w3 by rw [hw3]; exact HB0.out.alloc HB0.out.size _)
      have hz3 : gm + 1 ≤ w3.heap.size := by rw [hw3, hgm]; simp
      have hgg : g + 1 ≤ gm := by omega
      rw [← hw3', ← hgm]
      clear hw3 hw3' hgm hz0 HR0 HB0 hce
      have HGO := Lib.hid (show Msgs.getOf 4 b = Msgs.plain 4 b from rfl)
      have HPE := Lib.hid (plain_err 4 b)
      have hER : errP (Msgs.shp 4) b = if L < 8 then 4 else if 8 < L then 5 else if (Msgs.shp 4).most < Msgs.codeOf (Msgs.shp 4) b then 6 else 0 := by unfold errP; rw [HL.out]; rfl
      rcases Nat.lt_trichotomy L 8 with q | q | q
      · have HX := Lib.hid (show Msgs.getOf 4 b = (Msgs.none, 4) by
          have h4 : errP (Msgs.shp 4) b = 4 := by rw [hER, if_pos q]
          rw [HGO.out, HPE.out.1 (by rw [h4]; decide), h4])
        have q' : (L : Int) < 8 := by omega
        clear hER
        go_wp2_with (first | (go_at_call 57; refine (HFX.out _).mono ?_; rintro e w' ⟨rfl, rfl⟩) | (refine wpList_store_row rfl 51 (.tmp 4) _ rfl g zeroM (by rfl) (by rfl) 51 zeroM HR3.out (by exact size_msg) rfl zeroM_one ?_))
        refine bodyPost_ret (results_row_tmp rfl _ _ g 51 zeroM (0, 0) _ rfl (setRow_heap _ _ _ _ _ _ HR3.out) Tryd.underlying51 rfl (by exact size_msg) (.int .i64 4) (by rfl)) rfl ?_
        rw [HX.out]
        exact ⟨none, 0, none, 0, none, 0, rfl, none_new _ _, below_row HB3.out (by omega) _⟩
      · subst q
        rw [if_neg (by omega), if_neg (by omega)] at hER
        have hE0 : errP (Msgs.shp 4) b = 0 := by rw [hER, if_neg (by show ¬ (0 < Msgs.codeOf (Msgs.shp 4) b); rw [show Msgs.codeOf (Msgs.shp 4) b = 0 from rfl]; omega)]
        clear hER
        have HGN := Lib.hid (fun W (h : BytesAt W B A b) => rget_yes A c B b (by rw [HL.out]; omega) W h)
        rw [HL.out] at HGN
        have HNV := Lib.hid (show Msgs.numOf (Msgs.shp 4) b = Oct.val b by unfold Msgs.numOf; show Oct.val ((b.drop 0).take 8) = _; rw [List.drop_zero, List.take_of_length_le (by rw [HL.out]; exact Nat.le_refl _)])
        have hvl := Oct.val_lt b
        rw [HL.out] at hvl
        have m1 : w3.cell? ⟨gm, 1, none⟩ = some (.int .u64 0) := (HM3.out.cell 1).trans rfl
        have f1 := HM3.out.frozen 1
        have hvl' : Oct.val b < 18446744073709551616 := by simpa using hvl
        obtain ⟨x, hx⟩ : ∃ x, x = Oct.val b := ⟨_, rfl⟩
        rw [← hx] at HGN HNV hvl'
        clear hvl hx
        go_upto_region 49 with (first | (go_at_call 57; refine (HFX.out _).mono ?_; rintro e w' ⟨rfl, rfl⟩) | (go_at_call 58; refine (HGN.out _ (At.below HAT.out (HB3.out.mono hB))).mono ?_; rintro e w' ⟨rfl, rfl⟩))
        obtain ⟨w5, hw5⟩ : ∃ w5, w5 = w3.setCell ⟨gm, 1, none⟩ (.int .u64 (x : Int)) := ⟨_, rfl⟩
        have k35 : Kp (fun i => i = gm) w3 w5 := by rw [hw5]; exact kp_cell1 _ _ _ _
        have HM5 := Lib.hid (show Bk w5 gm 51 (mCells 4 x 0 (.slice none 0 0) 0 (.slice none 0 0) (.slice none 0 0)) by rw [hw5]; exact HM3.out.set 1 _)
        have HR5 := Lib.hid (HR3.out.kp k35 (by show ¬ g = gm; omega))
        have HB5 := Lib.hid (Kp.from_elder HB3.out k35 (fun i hi e => by omega))
        have hz5 := k35.size
        rw [← hw5]
        clear hw5 k35 m1 f1
        obtain ⟨mm, hmm⟩ : ∃ mm, mm = mCells 4 (x) (0) (.slice none ([] : List (List UInt8)).length 0) 0 (.slice none 0 0) (.slice none 0 0) := ⟨_, rfl⟩
        have HV := Lib.hid (show msgV ⟨4, x, 0, [], Txs.none⟩ none 0 none 0 none 0 = .agg mm by rw [hmm]; rfl)
        have HMM := Lib.hid (show Bk w5 gm 51 mm by rw [hmm]; exact HM5.out)
        have HAT2 := Lib.hid (show ∀ wz, Kp (fun i => i < w.heap.size ∨ i = g) w5 wz → MsgAt wz wz.heap.size ⟨4, x, 0, [], Txs.none⟩ none 0 none 0 none 0 from fun wz kz => ⟨by show _ ≤ (4 : Int); decide, by show (4 : Int) ≤ _; decide, hvl', by show (0 : Nat) < _; omega, Nat.le_refl _, by simp [maxLen], fun i hi => by simp at hi, none_tx _ _⟩)
        have HX := Lib.hid (show Msgs.getOf 4 b = (⟨4, x, 0, [], Txs.none⟩, 0) by rw [HGO.out, HPE.out.2 hE0, HNV.out]; rfl)
        clear hmm
        have HML := Lib.hid (msgV_cells HV.out).1
        have HMO := Lib.hid (msgV_cells HV.out).2
        go_wp2_with (first
          | (refine wpList_load_row rfl 51 (.tmp 7) rfl gm (by rfl) 51 mm (0, 0) _ HMM.out Tryd.underlying51 rfl (by rw [HML.out]; exact size_msg) ?_)
          | (refine wpList_store_row rfl 51 (.tmp 4) _ rfl g mm (by rfl) (by rfl) 51 zeroM HR5.out (by rw [HML.out]; exact size_msg) (by rw [HML.out]; rfl) HMO.out ?_))
        refine bodyPost_ret (results_row_tmp rfl _ _ g 51 mm (0, 0) _ rfl (setRow_heap _ _ _ _ _ _ HR5.out) Tryd.underlying51 rfl (by rw [HML.out]; exact size_msg) (.int .i64 0) (by rfl)) rfl ?_
        have kz : Kp (fun i => i = g) w5 (w5.setRow g mm) := Kp.setRow7 (S := fun i => i = g) (Kp.refl _ _) (fun _ => rfl) mm
        rw [HX.out]
        exact ⟨_, _, _, _, _, _, by rw [HV.out], (fun wz hz => HAT2.out wz ((kz.mono (fun _ _ h => .inr h)).trans (hz.mono (fun _ _ h => .inl h)))), below_row HB5.out (by omega) mm⟩
      · have HX := Lib.hid (show Msgs.getOf 4 b = (Msgs.none, 5) by
          have h4 : errP (Msgs.shp 4) b = 5 := by rw [hER, if_neg (by omega), if_pos q]
          rw [HGO.out, HPE.out.1 (by rw [h4]; decide), h4])
        have q' : ¬ (L : Int) < 8 := by omega
        have q'' : (8 : Int) < (L : Int) := by omega
        clear hER
        go_wp2_with (first | (go_at_call 57; refine (HFX.out _).mono ?_; rintro e w' ⟨rfl, rfl⟩) | (refine wpList_store_row rfl 51 (.tmp 4) _ rfl g zeroM (by rfl) (by rfl) 51 zeroM HR3.out (by exact size_msg) rfl zeroM_one ?_))
        refine bodyPost_ret (results_row_tmp rfl _ _ g 51 zeroM (0, 0) _ rfl (setRow_heap _ _ _ _ _ _ HR3.out) Tryd.underlying51 rfl (by exact size_msg) (.int .i64 5) (by rfl)) rfl ?_
        rw [HX.out]
        exact ⟨none, 0, none, 0, none, 0, rfl, none_new _ _, below_row HB3.out (by omega) _⟩
set_option maxHeartbeats 8000000 in
theorem rget_k1 (A : Option Addr) (L c B : Nat) (b : List UInt8) (w : World) (hl : b.length = L) (hc : L ≤ c) (hm : c ≤ maxLen) (hn : L ≤ 140737488351232) (hat : BytesAt w B A b) (hB : B ≤ w.heap.size) :
    Calls Tryd.prog 39 #[.string ⟨(Msgs.shp 1).cmd.toArray⟩, .slice A L c] w fun e w' => MsgOut w w' (Msgs.getOf 1 b) e := by
  have HAT := Lib.hid hat
  have HL := Lib.hid hl
  have HMX := Lib.hid hm
  have HFX := Lib.hid (fun W => fixed_yes 1 rfl W)
  rw [show fixedOf (Msgs.shp 1) = 12 from rfl] at HFX
  obtain ⟨ck, hck⟩ : ∃ ck, ck = (Msgs.shp 1).cmd := ⟨_, rfl⟩
  rw [← hck]
  have HCK := Lib.hid hck
  obtain ⟨w0, hw0⟩ : ∃ w0, w0 = w.alloc (.cells zeroM 51) := ⟨_, rfl⟩
  have hw0' : w0 = w.alloc (.cells #[.int .i64 0, .int .u64 0, .int .u32 0, .slice none 0 0, .int .u32 0, .slice none 0 0, .slice none 0 0] 51) := hw0
  obtain ⟨g, hg⟩ : ∃ g, g = w.heap.size := ⟨_, rfl⟩
  have HR0 := Lib.hid (show Bk w0 g 51 zeroM by rw [hw0, hg]; exact Bk.new _ _ _)
  have HB0 := Lib.hid (show Below w.heap.size w w0 by rw [hw0]; exact Joins.below_alloc1 _ _)
  have hz0 : g + 1 ≤ w0.heap.size := by rw [hw0, hg]; simp
  have hgB : B ≤ g := by omega
  have hgw : w.heap.size ≤ g := by omega
  have HG := Lib.hid hg
  unfold maxLen at hm
  clear hw0 hat hl hck
  go_enter Tryd.func39, Tryd.ntmps39
  go_wp2_with fail
  rw [← hw0', ← hg]
  clear hw0' hg
  go_loop [6] (fun u => ∃ j : Nat, 1 ≤ j ∧ j ≤ 1 ∧ u = .int .i64 (j : Int)) (fun u => 1 - (intOf u).toNat)
  case atStart => exact ⟨1, by omega, by omega, rfl⟩
  case round =>
    obtain ⟨j, hj1, hj2, rfl⟩ := hrel
    by_cases hlt : j < 1
    · have hkj : Msgs.known (j : Int) = true := Msgs.known_iff.2 ⟨by omega, by omega⟩
      have HNM := Lib.hid (fun W => name_yes (j : Int) hkj W)
      obtain ⟨cj, hcj⟩ : ∃ cj, cj = (Msgs.shp (j : Int)).cmd := ⟨_, rfl⟩
      have hne : (cj == ck) = false := by
        rw [beq_eq_false_iff_ne, HCK.out, hcj]
        exact fun h => absurd (Msgs.cmd_inj hkj rfl h) (by omega)
      rw [← hcj] at HNM
      have j1 : (j : Int) ≤ 11 := by omega
      clear hcj hkj
      go_wp2_with (go_at_call 56; refine (HNM.out _).mono ?_; rintro e w' ⟨rfl, rfl⟩)
      go_round
      case rel => exact ⟨j + 1, by omega, by omega, by go_num⟩
      case measure => simp [intOf]; omega
    · obtain rfl : j = 1 := by omega
      have HNM := Lib.hid (fun W => name_yes 1 rfl W)
      rw [← HCK.out] at HNM
      clear hlt
      try simp only [Int.cast_ofNat_Int, Int.natCast_one]
      have hce : (ck == ck) = true := beq_self_eq_true _
      go_upto_region 7 with (go_at_call 56; refine (HNM.out _).mono ?_; rintro e w' ⟨rfl, rfl⟩)
      obtain ⟨gm, hgm⟩ : ∃ gm, gm = w0.heap.size := ⟨_, rfl⟩
      obtain ⟨w3, hw3⟩ : ∃ w3, w3 = w0.alloc (.cells (mCells 1 0 0 (.slice none 0 0) 0 (.slice none 0 0) (.slice none 0 0)) 51) := ⟨_, rfl⟩
      have hw3' : w3 = w0.alloc (.cells #[.int .i64 1, .int .u64 0, .int .u32 0, .slice none 0 0, .int .u32 0, .slice none 0 0, .slice none 0 0] 51) := hw3
      have HM3 := Lib.hid (show Bk w3 gm 51 (mCells 1 0 0 (.slice none 0 0) 0 (.slice none 0 0) (.slice none 0 0)) by rw [hw3, hgm]; exact Bk.new _ _ _)
      have HR3 := Lib.hid (show Bk w3 g 51 zeroM by rw [hw3]; exact HR0.out.alloc _)
      have HB3 := Lib.hid (show Below w.heap.size w w3 by rw [hw3]; exact HB0.out.alloc HB0.out.size _)
      have hz3 : gm + 1 ≤ w3.heap.size := by rw [hw3, hgm]; simp
      have hgg : g + 1 ≤ gm := by omega
      rw [← hw3', ← hgm]
      clear hw3 hw3' hgm hz0 HR0 HB0 hce
      have HGO := Lib.hid (show Msgs.getOf 1 b = Msgs.plain 1 b from rfl)
      have HPE := Lib.hid (plain_err 1 b)
      have hER : errP (Msgs.shp 1) b = if L < 12 then 4 else if 12 < L then 5 else if (Msgs.shp 1).most < Msgs.codeOf (Msgs.shp 1) b then 6 else 0 := by unfold errP; rw [HL.out]; rfl
      rcases Nat.lt_trichotomy L 12 with q | q | q
      · have HX := Lib.hid (show Msgs.getOf 1 b = (Msgs.none, 4) by
          have h4 : errP (Msgs.shp 1) b = 4 := by rw [hER, if_pos q]
          rw [HGO.out, HPE.out.1 (by rw [h4]; decide), h4])
        have q' : (L : Int) < 12 := by omega
        clear hER
        go_wp2_with (first | (go_at_call 57; refine (HFX.out _).mono ?_; rintro e w' ⟨rfl, rfl⟩) | (refine wpList_store_row rfl 51 (.tmp 4) _ rfl g zeroM (by rfl) (by rfl) 51 zeroM HR3.out (by exact size_msg) rfl zeroM_one ?_))
        refine bodyPost_ret (results_row_tmp rfl _ _ g 51 zeroM (0, 0) _ rfl (setRow_heap _ _ _ _ _ _ HR3.out) Tryd.underlying51 rfl (by exact size_msg) (.int .i64 4) (by rfl)) rfl ?_
        rw [HX.out]
        exact ⟨none, 0, none, 0, none, 0, rfl, none_new _ _, below_row HB3.out (by omega) _⟩
      · subst q
        rw [if_neg (by omega), if_neg (by omega)] at hER
        have hcv := Oct.val_lt ((b.drop 0).take 4)
        rw [List.drop_zero, List.length_take, Nat.min_eq_left (by rw [HL.out]; omega)] at hcv
        have HCV := Lib.hid (show Msgs.codeOf (Msgs.shp 1) b = Oct.val (b.take 4) by unfold Msgs.codeOf; show Oct.val ((b.drop 0).take 4) = _; rw [List.drop_zero])
        have HNV := Lib.hid (show Msgs.numOf (Msgs.shp 1) b = Oct.val (b.drop 4) by unfold Msgs.numOf; show Oct.val ((b.drop 4).take 8) = _; rw [List.take_of_length_le (by rw [List.length_drop, HL.out]; exact Nat.le_refl _)])
        have hcv' : Oct.val (b.take 4) < 4294967296 := by simpa using hcv
        have hE0 : errP (Msgs.shp 1) b = 0 := by rw [hER, if_neg (by rw [HCV.out]; show ¬ (4294967295 < Oct.val (b.take 4)); omega)]
        clear hER hcv
        have HG4 := Lib.hid (fun W (h : BytesAt W B A (b.take 4)) => rget_yes A c B (b.take 4) (by rw [List.length_take, HL.out]; omega) W h)
        rw [List.length_take, HL.out] at HG4
        obtain ⟨bb, off, hAe, -, -⟩ := HAT.out.cell (i := 0) (by rw [HL.out]; omega)
        subst hAe
        have HG8 := Lib.hid (fun W (h : BytesAt W B (some ⟨bb, off + 4, none⟩) (b.drop 4)) => rget_yes (some ⟨bb, off + 4, none⟩) (c - 4) B (b.drop 4) (by rw [List.length_drop, HL.out]; omega) W h)
        rw [List.length_drop, HL.out] at HG8
        have hvl := Oct.val_lt (b.drop 4)
        rw [List.length_drop, HL.out] at hvl
        have hvl' : Oct.val (b.drop 4) < 18446744073709551616 := by simpa using hvl
        have A4 := Lib.hid (BytesAt.take HAT.out 4)
        have A8 := Lib.hid (BytesAt.drop HAT.out 4)
        have m1 : w3.cell? ⟨gm, 1, none⟩ = some (.int .u64 0) := (HM3.out.cell 1).trans rfl
        have f1 := HM3.out.frozen 1
        have m2 : w3.cell? ⟨gm, 2, none⟩ = some (.int .u32 0) := (HM3.out.cell 2).trans rfl
        have f2 := HM3.out.frozen 2
        obtain ⟨x, hx⟩ : ∃ x, x = Oct.val (b.take 4) := ⟨_, rfl⟩
        rw [← hx] at HG4 HCV hcv'
        obtain ⟨y, hy⟩ : ∃ y, y = Oct.val (b.drop 4) := ⟨_, rfl⟩
        rw [← hy] at HG8 HNV hvl'
        have c4 : ¬ (c : Int) = 4 := by omega
        have c4' : ¬ c = 4 := by omega
        have c12 : (12 : Int) ≤ (c : Int) := by omega
        have x1 : (x : Int) < 4294967296 := by omega
        have x0 : (0 : Int) ≤ (x : Int) := by omega
        clear hvl hx hy
        go_upto_region 17 with (first | (go_at_call 57; refine (HFX.out _).mono ?_; rintro e w' ⟨rfl, rfl⟩) | (go_at_call 58; refine (HG4.out _ (At.below A4.out (HB3.out.mono hB))).mono ?_; rintro e w' ⟨rfl, rfl⟩))
        obtain ⟨w4, hw4⟩ : ∃ w4, w4 = w3.setCell ⟨gm, 2, none⟩ (.int .u32 (x : Int)) := ⟨_, rfl⟩
        have k34 : Kp (fun i => i = gm) w3 w4 := by rw [hw4]; exact kp_cell1 _ _ _ _
        have HM4 := Lib.hid (show Bk w4 gm 51 (mCells 1 0 x (.slice none 0 0) 0 (.slice none 0 0) (.slice none 0 0)) by rw [hw4]; exact HM3.out.set 2 _)
        have HR4 := Lib.hid (HR3.out.kp k34 (by show ¬ g = gm; omega))
        have HB4 := Lib.hid (Kp.from_elder HB3.out k34 (fun i hi e => by omega))
        have hz4 := k34.size
        rw [← hw4]
        clear hw4 k34 m1 f1 m2 f2
        have m1 : w4.cell? ⟨gm, 1, none⟩ = some (.int .u64 0) := (HM4.out.cell 1).trans rfl
        have f1 := HM4.out.frozen 1
        go_upto_region 49 with (go_at_call 58; refine (HG8.out _ (At.below A8.out (HB4.out.mono hB))).mono ?_; rintro e w' ⟨rfl, rfl⟩)
        obtain ⟨w5, hw5⟩ : ∃ w5, w5 = w4.setCell ⟨gm, 1, none⟩ (.int .u64 (y : Int)) := ⟨_, rfl⟩
        have k35 : Kp (fun i => i = gm) w4 w5 := by rw [hw5]; exact kp_cell1 _ _ _ _
        have HM5 := Lib.hid (show Bk w5 gm 51 (mCells 1 y x (.slice none 0 0) 0 (.slice none 0 0) (.slice none 0 0)) by rw [hw5]; exact HM4.out.set 1 _)
        have HR5 := Lib.hid (HR4.out.kp k35 (by show ¬ g = gm; omega))
        have HB5 := Lib.hid (Kp.from_elder HB4.out k35 (fun i hi e => by omega))
        have hz5 := k35.size
        rw [← hw5]
        clear hw5 k35 m1 f1
        obtain ⟨mm, hmm⟩ : ∃ mm, mm = mCells 1 (y) (x) (.slice none ([] : List (List UInt8)).length 0) 0 (.slice none 0 0) (.slice none 0 0) := ⟨_, rfl⟩
        have HV := Lib.hid (show msgV ⟨1, y, x, [], Txs.none⟩ none 0 none 0 none 0 = .agg mm by rw [hmm]; rfl)
        have HMM := Lib.hid (show Bk w5 gm 51 mm by rw [hmm]; exact HM5.out)
        have HAT2 := Lib.hid (show ∀ wz, Kp (fun i => i < w.heap.size ∨ i = g) w5 wz → MsgAt wz wz.heap.size ⟨1, y, x, [], Txs.none⟩ none 0 none 0 none 0 from fun wz kz => ⟨by show _ ≤ (1 : Int); decide, by show (1 : Int) ≤ _; decide, hvl', hcv', Nat.le_refl _, by simp [maxLen], fun i hi => by simp at hi, none_tx _ _⟩)
        have HX := Lib.hid (show Msgs.getOf 1 b = (⟨1, y, x, [], Txs.none⟩, 0) by rw [HGO.out, HPE.out.2 hE0, HNV.out, HCV.out]; rfl)
        clear hmm
        have HML := Lib.hid (msgV_cells HV.out).1
        have HMO := Lib.hid (msgV_cells HV.out).2
        go_wp2_with (first
          | (refine wpList_load_row rfl 51 (.tmp 7) rfl gm (by rfl) 51 mm (0, 0) _ HMM.out Tryd.underlying51 rfl (by rw [HML.out]; exact size_msg) ?_)
          | (refine wpList_store_row rfl 51 (.tmp 4) _ rfl g mm (by rfl) (by rfl) 51 zeroM HR5.out (by rw [HML.out]; exact size_msg) (by rw [HML.out]; rfl) HMO.out ?_))
        refine bodyPost_ret (results_row_tmp rfl _ _ g 51 mm (0, 0) _ rfl (setRow_heap _ _ _ _ _ _ HR5.out) Tryd.underlying51 rfl (by rw [HML.out]; exact size_msg) (.int .i64 0) (by rfl)) rfl ?_
        have kz : Kp (fun i => i = g) w5 (w5.setRow g mm) := Kp.setRow7 (S := fun i => i = g) (Kp.refl _ _) (fun _ => rfl) mm
        rw [HX.out]
        exact ⟨_, _, _, _, _, _, by rw [HV.out], (fun wz hz => HAT2.out wz ((kz.mono (fun _ _ h => .inr h)).trans (hz.mono (fun _ _ h => .inl h)))), below_row HB5.out (by omega) mm⟩
      · have HX := Lib.hid (show Msgs.getOf 1 b = (Msgs.none, 5) by
          have h4 : errP (Msgs.shp 1) b = 5 := by rw [hER, if_neg (by omega), if_pos q]
          rw [HGO.out, HPE.out.1 (by rw [h4]; decide), h4])
        have q' : ¬ (L : Int) < 12 := by omega
        have q'' : (12 : Int) < (L : Int) := by omega
        clear hER
        go_wp2_with (first | (go_at_call 57; refine (HFX.out _).mono ?_; rintro e w' ⟨rfl, rfl⟩) | (refine wpList_store_row rfl 51 (.tmp 4) _ rfl g zeroM (by rfl) (by rfl) 51 zeroM HR3.out (by exact size_msg) rfl zeroM_one ?_))
        refine bodyPost_ret (results_row_tmp rfl _ _ g 51 zeroM (0, 0) _ rfl (setRow_heap _ _ _ _ _ _ HR3.out) Tryd.underlying51 rfl (by exact size_msg) (.int .i64 5) (by rfl)) rfl ?_
        rw [HX.out]
        exact ⟨none, 0, none, 0, none, 0, rfl, none_new _ _, below_row HB3.out (by omega) _⟩
set_option maxHeartbeats 8000000 in
theorem rget_k10 (A : Option Addr) (L c B : Nat) (b : List UInt8) (w : World) (hl : b.length = L) (hc : L ≤ c) (hm : c ≤ maxLen) (hn : L ≤ 140737488351232) (hat : BytesAt w B A b) (hB : B ≤ w.heap.size) :
    Calls Tryd.prog 39 #[.string ⟨(Msgs.shp 10).cmd.toArray⟩, .slice A L c] w fun e w' => MsgOut w w' (Msgs.getOf 10 b) e := by
  have HAT := Lib.hid hat
  have HL := Lib.hid hl
  have HMX := Lib.hid hm
  have HFX := Lib.hid (fun W => fixed_yes 10 rfl W)
  rw [show fixedOf (Msgs.shp 10) = 33 from rfl] at HFX
  obtain ⟨ck, hck⟩ : ∃ ck, ck = (Msgs.shp 10).cmd := ⟨_, rfl⟩
  rw [← hck]
  have HCK := Lib.hid hck
  obtain ⟨w0, hw0⟩ : ∃ w0, w0 = w.alloc (.cells zeroM 51) := ⟨_, rfl⟩
  have hw0' : w0 = w.alloc (.cells #[.int .i64 0, .int .u64 0, .int .u32 0, .slice none 0 0, .int .u32 0, .slice none 0 0, .slice none 0 0] 51) := hw0
  obtain ⟨g, hg⟩ : ∃ g, g = w.heap.size := ⟨_, rfl⟩
  have HR0 := Lib.hid (show Bk w0 g 51 zeroM by rw [hw0, hg]; exact Bk.new _ _ _)
  have HB0 := Lib.hid (show Below w.heap.size w w0 by rw [hw0]; exact Joins.below_alloc1 _ _)
  have hz0 : g + 1 ≤ w0.heap.size := by rw [hw0, hg]; simp
  have hgB : B ≤ g := by omega
  have hgw : w.heap.size ≤ g := by omega
  have HG := Lib.hid hg
  unfold maxLen at hm
  clear hw0 hat hl hck
  go_enter Tryd.func39, Tryd.ntmps39
  go_wp2_with fail
  rw [← hw0', ← hg]
  clear hw0' hg
  go_loop [6] (fun u => ∃ j : Nat, 1 ≤ j ∧ j ≤ 10 ∧ u = .int .i64 (j : Int)) (fun u => 10 - (intOf u).toNat)
  case atStart => exact ⟨1, by omega, by omega, rfl⟩
  case round =>
    obtain ⟨j, hj1, hj2, rfl⟩ := hrel
    by_cases hlt : j < 10
    · have hkj : Msgs.known (j : Int) = true := Msgs.known_iff.2 ⟨by omega, by omega⟩
      have HNM := Lib.hid (fun W => name_yes (j : Int) hkj W)
      obtain ⟨cj, hcj⟩ : ∃ cj, cj = (Msgs.shp (j : Int)).cmd := ⟨_, rfl⟩
      have hne : (cj == ck) = false := by
        rw [beq_eq_false_iff_ne, HCK.out, hcj]
        exact fun h => absurd (Msgs.cmd_inj hkj rfl h) (by omega)
      rw [← hcj] at HNM
      have j1 : (j : Int) ≤ 11 := by omega
      clear hcj hkj
      go_wp2_with (go_at_call 56; refine (HNM.out _).mono ?_; rintro e w' ⟨rfl, rfl⟩)
      go_round
      case rel => exact ⟨j + 1, by omega, by omega, by go_num⟩
      case measure => simp [intOf]; omega
    · obtain rfl : j = 10 := by omega
      have HNM := Lib.hid (fun W => name_yes 10 rfl W)
      rw [← HCK.out] at HNM
      clear hlt
      try simp only [Int.cast_ofNat_Int, Int.natCast_one]
      have hce : (ck == ck) = true := beq_self_eq_true _
      go_upto_region 7 with (go_at_call 56; refine (HNM.out _).mono ?_; rintro e w' ⟨rfl, rfl⟩)
      obtain ⟨gm, hgm⟩ : ∃ gm, gm = w0.heap.size := ⟨_, rfl⟩
      obtain ⟨w3, hw3⟩ : ∃ w3, w3 = w0.alloc (.cells (mCells 10 0 0 (.slice none 0 0) 0 (.slice none 0 0) (.slice none 0 0)) 51) := ⟨_, rfl⟩
      have hw3' : w3 = w0.alloc (.cells #[.int .i64 10, .int .u64 0, .int .u32 0, .slice none 0 0, .int .u32 0, .slice none 0 0, .slice none 0 0] 51) := hw3
      have HM3 := Lib.hid (show Bk w3 gm 51 (mCells 10 0 0 (.slice none 0 0) 0 (.slice none 0 0) (.slice none 0 0)) by rw [hw3, hgm]; exact Bk.new _ _ _)
      have HR3 := Lib.hid (show Bk w3 g 51 zeroM by rw [hw3]; exact HR0.out.alloc _)
      have HB3 := Lib.hid (show Below w.heap.size w w3 by rw [hw3]; exact HB0.out.alloc HB0.out.size _)
      have hz3 : gm + 1 ≤ w3.heap.size := by rw [hw3, hgm]; simp
      have hgg : g + 1 ≤ gm := by omega
      rw [← hw3', ← hgm]
      clear hw3 hw3' hgm hz0 HR0 HB0 hce
      have HGO := Lib.hid (show Msgs.getOf 10 b = Msgs.plain 10 b from rfl)
      have HPE := Lib.hid (plain_err 10 b)
      have hER : errP (Msgs.shp 10) b = if L < 33 then 4 else if 33 < L then 5 else if (Msgs.shp 10).most < Msgs.codeOf (Msgs.shp 10) b then 6 else 0 := by unfold errP; rw [HL.out]; rfl
      rcases Nat.lt_trichotomy L 33 with q | q | q
      · have HX := Lib.hid (show Msgs.getOf 10 b = (Msgs.none, 4) by
          have h4 : errP (Msgs.shp 10) b = 4 := by rw [hER, if_pos q]
          rw [HGO.out, HPE.out.1 (by rw [h4]; decide), h4])
        have q' : (L : Int) < 33 := by omega
        clear hER
        go_wp2_with (first | (go_at_call 57; refine (HFX.out _).mono ?_; rintro e w' ⟨rfl, rfl⟩) | (refine wpList_store_row rfl 51 (.tmp 4) _ rfl g zeroM (by rfl) (by rfl) 51 zeroM HR3.out (by exact size_msg) rfl zeroM_one ?_))
        refine bodyPost_ret (results_row_tmp rfl _ _ g 51 zeroM (0, 0) _ rfl (setRow_heap _ _ _ _ _ _ HR3.out) Tryd.underlying51 rfl (by exact size_msg) (.int .i64 4) (by rfl)) rfl ?_
        rw [HX.out]
        exact ⟨none, 0, none, 0, none, 0, rfl, none_new _ _, below_row HB3.out (by omega) _⟩
      · subst q
        rw [if_neg (by omega), if_neg (by omega)] at hER
        have hcb := Oct.val_lt ((b.drop 32).take 1)
        rw [List.length_take, List.length_drop, HL.out] at hcb
        have hE0 : errP (Msgs.shp 10) b = 0 := by
          rw [hER, if_neg (by show ¬ (255 < Oct.val ((b.drop 32).take 1)); simp at hcb; omega)]
        clear hER
        have hcv : Oct.val ((b.drop 32).take 1) < 256 := by simpa using hcb
        obtain ⟨bb, off, hAe, -, hc32⟩ := HAT.out.cell (i := 32) (by rw [HL.out]; omega)
        subst hAe
        have hb32 : (b.drop 32).take 1 = [b[32]'(by rw [HL.out]; omega)] := by
          rw [List.drop_eq_getElem_cons (by rw [HL.out]; omega)]
          rfl
        have hxv : (b[32]'(by rw [HL.out]; omega)).toNat = Oct.val ((b.drop 32).take 1) := by rw [hb32]; simp [Oct.val]
        rw [hxv] at hc32
        obtain ⟨x, hx⟩ : ∃ x, x = Oct.val ((b.drop 32).take 1) := ⟨_, rfl⟩
        rw [← hx] at hc32 hcv
        have HCV := Lib.hid (show Msgs.codeOf (Msgs.shp 10) b = x from hx.symm)
        have HNV := Lib.hid (show Msgs.numOf (Msgs.shp 10) b = 0 from rfl)
        have HC32 := Lib.hid hc32
        have HIDX := Lib.hid (fun W (hb : Below w.heap.size w W) => ids_any (some ⟨bb, off, none⟩) 32 c B 1 (b.take 32) W (by rw [List.length_take, HL.out]; omega) (by omega) HMX.out (At.below (BytesAt.take HAT.out 32) (hb.mono hB)) (Nat.le_trans hB hb.size) rfl (by omega))
        have HHE := Lib.hid (show Msgs.hashes (b.take 32) 1 = Msgs.hashes b 1 by simp [Msgs.hashes, List.take_take])
        clear hcb hb32 hxv hx hc32
        go_wp2_with (go_at_call 57; refine (HFX.out _).mono ?_; rintro e w' ⟨rfl, rfl⟩)
        refine (HIDX.out w3 HB3.out).mono ?_
        rintro e w4 ⟨A4, c4, rfl, hc4, hm4, hh4, hA4, hb4⟩
        rw [HHE.out] at hh4
        have HM4 := Lib.hid (HM3.out.below hb4 (by omega))
        have HR4 := Lib.hid (HR3.out.below hb4 (by omega))
        have HB4 := Lib.hid (HB3.out.trans (hb4.mono HB3.out.size))
        have HH4 := Lib.hid hh4
        have HA4 := Lib.hid hA4
        have hz4 := hb4.size
        have m3 : w4.cell? ⟨gm, 3, none⟩ = some (.slice none 0 0) := (HM4.out.cell 3).trans rfl
        have f3 := HM4.out.frozen 3
        clear hb4 hh4 hA4
        go_upto_region 23 with (fail)
        obtain ⟨w5, hw5⟩ : ∃ w5, w5 = w4.setCell ⟨gm, 3, none⟩ (.slice A4 1 c4) := ⟨_, rfl⟩
        have k45 : Kp (fun i => i = gm) w4 w5 := by rw [hw5]; exact kp_cell1 _ _ _ _
        have HM5 := Lib.hid (show Bk w5 gm 51 (mCells 10 0 0 (.slice A4 1 c4) 0 (.slice none 0 0) (.slice none 0 0)) by rw [hw5]; exact HM4.out.set 3 _)
        have HR5 := Lib.hid (HR4.out.kp k45 (by show ¬ g = gm; omega))
        have HB5 := Lib.hid (Kp.from_elder HB4.out k45 (fun i hi e => by omega))
        have HH5 := Lib.hid (hashes_kp HH4.out k45 (fun a ha => by have := HA4.out a ha; omega))
        have hz5 := k45.size
        rw [← hw5]
        clear hw5 k45 m3 f3
        have m2 : w5.cell? ⟨gm, 2, none⟩ = some (.int .u32 0) := (HM5.out.cell 2).trans rfl
        have f2 := HM5.out.frozen 2
        have cb : w5.cell? ⟨bb, off + 32, none⟩ = some (.int .u8 (x : Int)) := by
          obtain ⟨b2, o2, he, hlt2, hcc⟩ := HAT.out.cell (i := 32) (by rw [HL.out]; omega)
          injection he with he
          injection he with he1 he2
          subst he1; subst he2
          exact (HB5.out.cell (p := ⟨bb, _, none⟩) (by show bb < w.heap.size; omega)).trans HC32.out
        go_upto_region 49 with (fail)
        obtain ⟨w6, hw6⟩ : ∃ w6, w6 = w5.setCell ⟨gm, 2, none⟩ (.int .u32 (x : Int)) := ⟨_, rfl⟩
        have k56 : Kp (fun i => i = gm) w5 w6 := by rw [hw6]; exact kp_cell1 _ _ _ _
        have HM6 := Lib.hid (show Bk w6 gm 51 (mCells 10 0 x (.slice A4 1 c4) 0 (.slice none 0 0) (.slice none 0 0)) by rw [hw6]; exact HM5.out.set 2 _)
        have HR6 := Lib.hid (HR5.out.kp k56 (by show ¬ g = gm; omega))
        have HB6 := Lib.hid (Kp.from_elder HB5.out k56 (fun i hi e => by omega))
        have HH6 := Lib.hid (hashes_kp HH5.out k56 (fun a ha => by have := HA4.out a ha; omega))
        have hz6 := k56.size
        rw [← hw6]
        clear hw6 k56 m2 f2 cb
        obtain ⟨mm, hmm⟩ : ∃ mm, mm = mCells 10 (0) (x) (.slice A4 ((Msgs.hashes b 1) : List (List UInt8)).length c4) 0 (.slice none 0 0) (.slice none 0 0) := ⟨_, rfl⟩
        have HV := Lib.hid (show msgV ⟨10, 0, x, (Msgs.hashes b 1), Txs.none⟩ A4 c4 none 0 none 0 = .agg mm by rw [hmm]; rfl)
        have HMM := Lib.hid (show Bk w6 gm 51 mm by rw [hmm]; exact HM6.out)
        have HAT2 := Lib.hid (show ∀ wz, Kp (fun i => i < w.heap.size ∨ i = g) w6 wz → MsgAt wz wz.heap.size ⟨10, 0, x, (Msgs.hashes b 1), Txs.none⟩ A4 c4 none 0 none 0 from fun wz kz => ⟨by show _ ≤ (10 : Int); decide, by show (10 : Int) ≤ _; decide, by show (0 : Nat) < _; omega, by show x < _; omega, hc4, hm4, hashes_kpS HH6.out kz (fun a ha => by have := HA4.out a ha; show ¬ (a.block < w.heap.size ∨ a.block = g); omega), none_tx _ _⟩)
        have HX := Lib.hid (show Msgs.getOf 10 b = (⟨10, 0, x, (Msgs.hashes b 1), Txs.none⟩, 0) by rw [HGO.out, HPE.out.2 hE0, HNV.out, HCV.out]; rfl)
        clear hmm
        have HML := Lib.hid (msgV_cells HV.out).1
        have HMO := Lib.hid (msgV_cells HV.out).2
        go_wp2_with (first
          | (refine wpList_load_row rfl 51 (.tmp 7) rfl gm (by rfl) 51 mm (0, 0) _ HMM.out Tryd.underlying51 rfl (by rw [HML.out]; exact size_msg) ?_)
          | (refine wpList_store_row rfl 51 (.tmp 4) _ rfl g mm (by rfl) (by rfl) 51 zeroM HR6.out (by rw [HML.out]; exact size_msg) (by rw [HML.out]; rfl) HMO.out ?_))
        refine bodyPost_ret (results_row_tmp rfl _ _ g 51 mm (0, 0) _ rfl (setRow_heap _ _ _ _ _ _ HR6.out) Tryd.underlying51 rfl (by rw [HML.out]; exact size_msg) (.int .i64 0) (by rfl)) rfl ?_
        have kz : Kp (fun i => i = g) w6 (w6.setRow g mm) := Kp.setRow7 (S := fun i => i = g) (Kp.refl _ _) (fun _ => rfl) mm
        rw [HX.out]
        exact ⟨_, _, _, _, _, _, by rw [HV.out], (fun wz hz => HAT2.out wz ((kz.mono (fun _ _ h => .inr h)).trans (hz.mono (fun _ _ h => .inl h)))), below_row HB6.out (by omega) mm⟩
      · have HX := Lib.hid (show Msgs.getOf 10 b = (Msgs.none, 5) by
          have h4 : errP (Msgs.shp 10) b = 5 := by rw [hER, if_neg (by omega), if_pos q]
          rw [HGO.out, HPE.out.1 (by rw [h4]; decide), h4])
        have q' : ¬ (L : Int) < 33 := by omega
        have q'' : (33 : Int) < (L : Int) := by omega
        clear hER
        go_wp2_with (first | (go_at_call 57; refine (HFX.out _).mono ?_; rintro e w' ⟨rfl, rfl⟩) | (refine wpList_store_row rfl 51 (.tmp 4) _ rfl g zeroM (by rfl) (by rfl) 51 zeroM HR3.out (by exact size_msg) rfl zeroM_one ?_))
        refine bodyPost_ret (results_row_tmp rfl _ _ g 51 zeroM (0, 0) _ rfl (setRow_heap _ _ _ _ _ _ HR3.out) Tryd.underlying51 rfl (by exact size_msg) (.int .i64 5) (by rfl)) rfl ?_
        rw [HX.out]
        exact ⟨none, 0, none, 0, none, 0, rfl, none_new _ _, below_row HB3.out (by omega) _⟩
set_option maxHeartbeats 8000000 in
theorem rget_k11 (A : Option Addr) (L c B : Nat) (b : List UInt8) (w : World) (hl : b.length = L) (hc : L ≤ c) (hm : c ≤ maxLen) (hn : L ≤ 140737488351232) (hat : BytesAt w B A b) (hB : B ≤ w.heap.size) :
    Calls Tryd.prog 39 #[.string ⟨(Msgs.shp 11).cmd.toArray⟩, .slice A L c] w fun e w' => MsgOut w w' (Msgs.getOf 11 b) e := by
  have HAT := Lib.hid hat
  have HL := Lib.hid hl
  have HMX := Lib.hid hm
  have HFX := Lib.hid (fun W => fixed_yes 11 rfl W)
  rw [show fixedOf (Msgs.shp 11) = 1 from rfl] at HFX
  obtain ⟨ck, hck⟩ : ∃ ck, ck = (Msgs.shp 11).cmd := ⟨_, rfl⟩
  rw [← hck]
  have HCK := Lib.hid hck
  obtain ⟨w0, hw0⟩ : ∃ w0, w0 = w.alloc (.cells zeroM 51) := ⟨_, rfl⟩
  have hw0' : w0 = w.alloc (.cells #[.int .i64 0, .int .u64 0, .int .u32 0, .slice none 0 0, .int .u32 0, .slice none 0 0, .slice none 0 0] 51) := hw0
  obtain ⟨g, hg⟩ : ∃ g, g = w.heap.size := ⟨_, rfl⟩
  have HR0 := Lib.hid (show Bk w0 g 51 zeroM by rw [hw0, hg]; exact Bk.new _ _ _)
  have HB0 := Lib.hid (show Below w.heap.size w w0 by rw [hw0]; exact Joins.below_alloc1 _ _)
  have hz0 : g + 1 ≤ w0.heap.size := by rw [hw0, hg]; simp
  have hgB : B ≤ g := by omega
  have hgw : w.heap.size ≤ g := by omega
  have HG := Lib.hid hg
  unfold maxLen at hm
  clear hw0 hat hl hck
  go_enter Tryd.func39, Tryd.ntmps39
  go_wp2_with fail
  rw [← hw0', ← hg]
  clear hw0' hg
  go_loop [6] (fun u => ∃ j : Nat, 1 ≤ j ∧ j ≤ 11 ∧ u = .int .i64 (j : Int)) (fun u => 11 - (intOf u).toNat)
  case atStart => exact ⟨1, by omega, by omega, rfl⟩
  case round =>
    obtain ⟨j, hj1, hj2, rfl⟩ := hrel
    by_cases hlt : j < 11
    · have hkj : Msgs.known (j : Int) = true := Msgs.known_iff.2 ⟨by omega, by omega⟩
      have HNM := Lib.hid (fun W => name_yes (j : Int) hkj W)
      obtain ⟨cj, hcj⟩ : ∃ cj, cj = (Msgs.shp (j : Int)).cmd := ⟨_, rfl⟩
      have hne : (cj == ck) = false := by
        rw [beq_eq_false_iff_ne, HCK.out, hcj]
        exact fun h => absurd (Msgs.cmd_inj hkj rfl h) (by omega)
      rw [← hcj] at HNM
      have j1 : (j : Int) ≤ 11 := by omega
      clear hcj hkj
      go_wp2_with (go_at_call 56; refine (HNM.out _).mono ?_; rintro e w' ⟨rfl, rfl⟩)
      go_round
      case rel => exact ⟨j + 1, by omega, by omega, by go_num⟩
      case measure => simp [intOf]; omega
    · obtain rfl : j = 11 := by omega
      have HNM := Lib.hid (fun W => name_yes 11 rfl W)
      rw [← HCK.out] at HNM
      clear hlt
      try simp only [Int.cast_ofNat_Int, Int.natCast_one]
      have hce : (ck == ck) = true := beq_self_eq_true _
      go_upto_region 7 with (go_at_call 56; refine (HNM.out _).mono ?_; rintro e w' ⟨rfl, rfl⟩)
      obtain ⟨gm, hgm⟩ : ∃ gm, gm = w0.heap.size := ⟨_, rfl⟩
      obtain ⟨w3, hw3⟩ : ∃ w3, w3 = w0.alloc (.cells (mCells 11 0 0 (.slice none 0 0) 0 (.slice none 0 0) (.slice none 0 0)) 51) := ⟨_, rfl⟩
      have hw3' : w3 = w0.alloc (.cells #[.int .i64 11, .int .u64 0, .int .u32 0, .slice none 0 0, .int .u32 0, .slice none 0 0, .slice none 0 0] 51) := hw3
      have HM3 := Lib.hid (show Bk w3 gm 51 (mCells 11 0 0 (.slice none 0 0) 0 (.slice none 0 0) (.slice none 0 0)) by rw [hw3, hgm]; exact Bk.new _ _ _)
      have HR3 := Lib.hid (show Bk w3 g 51 zeroM by rw [hw3]; exact HR0.out.alloc _)
      have HB3 := Lib.hid (show Below w.heap.size w w3 by rw [hw3]; exact HB0.out.alloc HB0.out.size _)
      have hz3 : gm + 1 ≤ w3.heap.size := by rw [hw3, hgm]; simp
      have hgg : g + 1 ≤ gm := by omega
      rw [← hw3', ← hgm]
      clear hw3 hw3' hgm hz0 HR0 HB0 hce
      have HGO := Lib.hid (show Msgs.getOf 11 b = Msgs.plain 11 b from rfl)
      have HPE := Lib.hid (plain_err 11 b)
      have hER : errP (Msgs.shp 11) b = if L < 1 then 4 else if 1 < L then 5 else if (Msgs.shp 11).most < Msgs.codeOf (Msgs.shp 11) b then 6 else 0 := by unfold errP; rw [HL.out]; rfl
      rcases Nat.lt_trichotomy L 1 with q | q | q
      · have HX := Lib.hid (show Msgs.getOf 11 b = (Msgs.none, 4) by
          have h4 : errP (Msgs.shp 11) b = 4 := by rw [hER, if_pos q]
          rw [HGO.out, HPE.out.1 (by rw [h4]; decide), h4])
        have q' : (L : Int) < 1 := by omega
        clear hER
        go_wp2_with (first | (go_at_call 57; refine (HFX.out _).mono ?_; rintro e w' ⟨rfl, rfl⟩) | (refine wpList_store_row rfl 51 (.tmp 4) _ rfl g zeroM (by rfl) (by rfl) 51 zeroM HR3.out (by exact size_msg) rfl zeroM_one ?_))
        refine bodyPost_ret (results_row_tmp rfl _ _ g 51 zeroM (0, 0) _ rfl (setRow_heap _ _ _ _ _ _ HR3.out) Tryd.underlying51 rfl (by exact size_msg) (.int .i64 4) (by rfl)) rfl ?_
        rw [HX.out]
        exact ⟨none, 0, none, 0, none, 0, rfl, none_new _ _, below_row HB3.out (by omega) _⟩
      · subst q
        rw [if_neg (by omega), if_neg (by omega)] at hER
        obtain ⟨bb, off, hAe, hbB, hc0⟩ := HAT.out.cell (i := 0) (by rw [HL.out]; omega)
        subst hAe
        have hb0 : (b.drop 0).take 1 = [b[0]'(by rw [HL.out]; omega)] := by
          rw [List.drop_eq_getElem_cons (by rw [HL.out]; omega)]
          rfl
        have hxv : (b[0]'(by rw [HL.out]; omega)).toNat = Oct.val ((b.drop 0).take 1) := by rw [hb0]; simp [Oct.val]
        have hxb := (b[0]'(by rw [HL.out]; omega)).toNat_lt
        rw [hxv] at hc0 hxb
        obtain ⟨x, hx⟩ : ∃ x, x = Oct.val ((b.drop 0).take 1) := ⟨_, rfl⟩
        rw [← hx] at hc0 hxb
        have HCV := Lib.hid (show Msgs.codeOf (Msgs.shp 11) b = x from hx.symm)
        have HNV := Lib.hid (show Msgs.numOf (Msgs.shp 11) b = 0 from rfl)
        rw [HCV.out] at hER
        have c3 : w3.cell? ⟨bb, off, none⟩ = some (.int .u8 (x : Int)) := (HB3.out.cell (p := ⟨bb, _, none⟩) (by show bb < w.heap.size; omega)).trans hc0
        have m2 : w3.cell? ⟨gm, 2, none⟩ = some (.int .u32 0) := (HM3.out.cell 2).trans rfl
        have f2 := HM3.out.frozen 2
        have x0 : (0 : Int) ≤ (x : Int) := by omega
        have x256 : (x : Int) < 256 := by omega
        clear hb0 hxv hx hc0
        rcases Nat.lt_or_ge 1 x with qx | qx
        · have h6 : errP (Msgs.shp 11) b = 6 := by rw [hER, if_pos (show (Msgs.shp 11).most < x from qx)]
          have HX := Lib.hid (show Msgs.getOf 11 b = (Msgs.none, 6) by rw [HGO.out, HPE.out.1 (by rw [h6]; decide), h6])
          have qx' : (1 : Int) < (x : Int) := by omega
          clear hER h6
          go_wp2_with (first | (go_at_call 57; refine (HFX.out _).mono ?_; rintro e w' ⟨rfl, rfl⟩) | (refine wpList_store_row rfl 51 (.tmp 4) _ rfl g zeroM (by rfl) (by rfl) 51 zeroM HR3.out (by exact size_msg) rfl zeroM_one ?_))
          refine bodyPost_ret (results_row_tmp rfl _ _ g 51 zeroM (0, 0) _ rfl (setRow_heap _ _ _ _ _ _ HR3.out) Tryd.underlying51 rfl (by exact size_msg) (.int .i64 6) (by rfl)) rfl ?_
          rw [HX.out]
          exact ⟨none, 0, none, 0, none, 0, rfl, none_new _ _, below_row HB3.out (by omega) _⟩
        · have hE0 : errP (Msgs.shp 11) b = 0 := by rw [hER, if_neg (show ¬ (Msgs.shp 11).most < x from by show ¬ 1 < x; omega)]
          have qx' : ¬ (1 : Int) < (x : Int) := by omega
          clear hER
          go_upto_region 49 with (go_at_call 57; refine (HFX.out _).mono ?_; rintro e w' ⟨rfl, rfl⟩)
          obtain ⟨w5, hw5⟩ : ∃ w5, w5 = w3.setCell ⟨gm, 2, none⟩ (.int .u32 (x : Int)) := ⟨_, rfl⟩
          have k35 : Kp (fun i => i = gm) w3 w5 := by rw [hw5]; exact kp_cell1 _ _ _ _
          have HM5 := Lib.hid (show Bk w5 gm 51 (mCells 11 0 x (.slice none 0 0) 0 (.slice none 0 0) (.slice none 0 0)) by rw [hw5]; exact HM3.out.set 2 _)
          have HR5 := Lib.hid (HR3.out.kp k35 (by show ¬ g = gm; omega))
          have HB5 := Lib.hid (Kp.from_elder HB3.out k35 (fun i hi e => by omega))
          have hz5 := k35.size
          rw [← hw5]
          clear hw5 k35 m2 f2 c3
          obtain ⟨mm, hmm⟩ : ∃ mm, mm = mCells 11 (0) (x) (.slice none ([] : List (List UInt8)).length 0) 0 (.slice none 0 0) (.slice none 0 0) := ⟨_, rfl⟩
          have HV := Lib.hid (show msgV ⟨11, 0, x, [], Txs.none⟩ none 0 none 0 none 0 = .agg mm by rw [hmm]; rfl)
          have HMM := Lib.hid (show Bk w5 gm 51 mm by rw [hmm]; exact HM5.out)
          have HAT2 := Lib.hid (show ∀ wz, Kp (fun i => i < w.heap.size ∨ i = g) w5 wz → MsgAt wz wz.heap.size ⟨11, 0, x, [], Txs.none⟩ none 0 none 0 none 0 from fun wz kz => ⟨by show _ ≤ (11 : Int); decide, by show (11 : Int) ≤ _; decide, by show (0 : Nat) < _; omega, by show x < _; omega, Nat.le_refl _, by simp [maxLen], fun i hi => by simp at hi, none_tx _ _⟩)
          have HX := Lib.hid (show Msgs.getOf 11 b = (⟨11, 0, x, [], Txs.none⟩, 0) by rw [HGO.out, HPE.out.2 hE0, HNV.out, HCV.out]; rfl)
          clear hmm
          have HML := Lib.hid (msgV_cells HV.out).1
          have HMO := Lib.hid (msgV_cells HV.out).2
          go_wp2_with (first
            | (refine wpList_load_row rfl 51 (.tmp 7) rfl gm (by rfl) 51 mm (0, 0) _ HMM.out Tryd.underlying51 rfl (by rw [HML.out]; exact size_msg) ?_)
            | (refine wpList_store_row rfl 51 (.tmp 4) _ rfl g mm (by rfl) (by rfl) 51 zeroM HR5.out (by rw [HML.out]; exact size_msg) (by rw [HML.out]; rfl) HMO.out ?_))
          refine bodyPost_ret (results_row_tmp rfl _ _ g 51 mm (0, 0) _ rfl (setRow_heap _ _ _ _ _ _ HR5.out) Tryd.underlying51 rfl (by rw [HML.out]; exact size_msg) (.int .i64 0) (by rfl)) rfl ?_
          have kz : Kp (fun i => i = g) w5 (w5.setRow g mm) := Kp.setRow7 (S := fun i => i = g) (Kp.refl _ _) (fun _ => rfl) mm
          rw [HX.out]
          exact ⟨_, _, _, _, _, _, by rw [HV.out], (fun wz hz => HAT2.out wz ((kz.mono (fun _ _ h => .inr h)).trans (hz.mono (fun _ _ h => .inl h)))), below_row HB5.out (by omega) mm⟩
      · have HX := Lib.hid (show Msgs.getOf 11 b = (Msgs.none, 5) by
          have h4 : errP (Msgs.shp 11) b = 5 := by rw [hER, if_neg (by omega), if_pos q]
          rw [HGO.out, HPE.out.1 (by rw [h4]; decide), h4])
        have q' : ¬ (L : Int) < 1 := by omega
        have q'' : (1 : Int) < (L : Int) := by omega
        clear hER
        go_wp2_with (first | (go_at_call 57; refine (HFX.out _).mono ?_; rintro e w' ⟨rfl, rfl⟩) | (refine wpList_store_row rfl 51 (.tmp 4) _ rfl g zeroM (by rfl) (by rfl) 51 zeroM HR3.out (by exact size_msg) rfl zeroM_one ?_))
        refine bodyPost_ret (results_row_tmp rfl _ _ g 51 zeroM (0, 0) _ rfl (setRow_heap _ _ _ _ _ _ HR3.out) Tryd.underlying51 rfl (by exact size_msg) (.int .i64 5) (by rfl)) rfl ?_
        rw [HX.out]
        exact ⟨none, 0, none, 0, none, 0, rfl, none_new _ _, below_row HB3.out (by omega) _⟩
set_option maxHeartbeats 8000000 in
theorem rget_k8 (A : Option Addr) (L c B : Nat) (b : List UInt8) (w : World) (hl : b.length = L) (hc : L ≤ c) (hm : c ≤ maxLen) (hn : L ≤ 140737488351232) (hat : BytesAt w B A b) (hB : B ≤ w.heap.size) :
    Calls Tryd.prog 39 #[.string ⟨(Msgs.shp 8).cmd.toArray⟩, .slice A L c] w fun e w' => MsgOut w w' (Msgs.getOf 8 b) e := by
  have HAT := Lib.hid hat
  have HL := Lib.hid hl
  have HMX := Lib.hid hm
  have HFX := Lib.hid (fun W => fixed_yes 8 rfl W)
  rw [show fixedOf (Msgs.shp 8) = -1 from rfl] at HFX
  obtain ⟨ck, hck⟩ : ∃ ck, ck = (Msgs.shp 8).cmd := ⟨_, rfl⟩
  rw [← hck]
  have HCK := Lib.hid hck
  obtain ⟨w0, hw0⟩ : ∃ w0, w0 = w.alloc (.cells zeroM 51) := ⟨_, rfl⟩
  have hw0' : w0 = w.alloc (.cells #[.int .i64 0, .int .u64 0, .int .u32 0, .slice none 0 0, .int .u32 0, .slice none 0 0, .slice none 0 0] 51) := hw0
  obtain ⟨g, hg⟩ : ∃ g, g = w.heap.size := ⟨_, rfl⟩
  have HR0 := Lib.hid (show Bk w0 g 51 zeroM by rw [hw0, hg]; exact Bk.new _ _ _)
  have HB0 := Lib.hid (show Below w.heap.size w w0 by rw [hw0]; exact Joins.below_alloc1 _ _)
  have hz0 : g + 1 ≤ w0.heap.size := by rw [hw0, hg]; simp
  have hgB : B ≤ g := by omega
  have hgw : w.heap.size ≤ g := by omega
  have HG := Lib.hid hg
  unfold maxLen at hm
  clear hw0 hat hl hck
  go_enter Tryd.func39, Tryd.ntmps39
  go_wp2_with fail
  rw [← hw0', ← hg]
  clear hw0' hg
  go_loop [6] (fun u => ∃ j : Nat, 1 ≤ j ∧ j ≤ 8 ∧ u = .int .i64 (j : Int)) (fun u => 8 - (intOf u).toNat)
  case atStart => exact ⟨1, by omega, by omega, rfl⟩
  case round =>
    obtain ⟨j, hj1, hj2, rfl⟩ := hrel
    by_cases hlt : j < 8
    · have hkj : Msgs.known (j : Int) = true := Msgs.known_iff.2 ⟨by omega, by omega⟩
      have HNM := Lib.hid (fun W => name_yes (j : Int) hkj W)
      obtain ⟨cj, hcj⟩ : ∃ cj, cj = (Msgs.shp (j : Int)).cmd := ⟨_, rfl⟩
      have hne : (cj == ck) = false := by
        rw [beq_eq_false_iff_ne, HCK.out, hcj]
        exact fun h => absurd (Msgs.cmd_inj hkj rfl h) (by omega)
      rw [← hcj] at HNM
      have j1 : (j : Int) ≤ 11 := by omega
      clear hcj hkj
      go_wp2_with (go_at_call 56; refine (HNM.out _).mono ?_; rintro e w' ⟨rfl, rfl⟩)
      go_round
      case rel => exact ⟨j + 1, by omega, by omega, by go_num⟩
      case measure => simp [intOf]; omega
    · obtain rfl : j = 8 := by omega
      have HNM := Lib.hid (fun W => name_yes 8 rfl W)
      rw [← HCK.out] at HNM
      clear hlt
      try simp only [Int.cast_ofNat_Int, Int.natCast_one]
      have hce : (ck == ck) = true := beq_self_eq_true _
      go_upto_region 7 with (go_at_call 56; refine (HNM.out _).mono ?_; rintro e w' ⟨rfl, rfl⟩)
      obtain ⟨gm, hgm⟩ : ∃ gm, gm = w0.heap.size := ⟨_, rfl⟩
      obtain ⟨w3, hw3⟩ : ∃ w3, w3 = w0.alloc (.cells (mCells 8 0 0 (.slice none 0 0) 0 (.slice none 0 0) (.slice none 0 0)) 51) := ⟨_, rfl⟩
      have hw3' : w3 = w0.alloc (.cells #[.int .i64 8, .int .u64 0, .int .u32 0, .slice none 0 0, .int .u32 0, .slice none 0 0, .slice none 0 0] 51) := hw3
      have HM3 := Lib.hid (show Bk w3 gm 51 (mCells 8 0 0 (.slice none 0 0) 0 (.slice none 0 0) (.slice none 0 0)) by rw [hw3, hgm]; exact Bk.new _ _ _)
      have HR3 := Lib.hid (show Bk w3 g 51 zeroM by rw [hw3]; exact HR0.out.alloc _)
      have HB3 := Lib.hid (show Below w.heap.size w w3 by rw [hw3]; exact HB0.out.alloc HB0.out.size _)
      have hz3 : gm + 1 ≤ w3.heap.size := by rw [hw3, hgm]; simp
      have hgg : g + 1 ≤ gm := by omega
      rw [← hw3', ← hgm]
      clear hw3 hw3' hgm hz0 HR0 HB0 hce
      have HWH := Lib.hid (fun W (h1 : Below B w W) (h2 : B ≤ W.heap.size) => rwhole_any A L c B b W HL.out hc HMX.out hn (At.below HAT.out h1) h2)
      have HGO := Lib.hid (show Msgs.getOf 8 b = if (Txs.whole b).2 ≠ 0 then (Msgs.none, (Txs.whole b).2) else (⟨8, 0, 0, [], (Txs.whole b).1⟩, 0) from rfl)
      go_wp2_with (go_at_call 57; refine (HFX.out _).mono ?_; rintro e w' ⟨rfl, rfl⟩)
      refine (HWH.out _ (HB3.out.mono hB) (by omega)).mono ?_
      rintro e w4 ⟨A1, c1, A2, c2, rfl, hnew, hb4⟩
      unfold txV
      generalize Txs.whole b = q at *
      obtain ⟨tx, er⟩ := q
      simp only at hnew ⊢
      have HM4 := Lib.hid (HM3.out.below hb4 HM3.out.lt)
      have HR4 := Lib.hid (HR3.out.below hb4 HR3.out.lt)
      have HB4 := Lib.hid (HB3.out.trans (hb4.mono HB3.out.size))
      have hz4 := hb4.size
      have HNEW := Lib.hid hnew
      clear hnew hb4 HWH
      go_upto_region 46 with (fail)
      obtain ⟨gt, hgt⟩ : ∃ gt, gt = w4.heap.size := ⟨_, rfl⟩
      obtain ⟨w5, hw5⟩ : ∃ w5, w5 = w4.alloc (.cells #[.int .u32 (tx.version : Int), .slice A1 tx.ins.length c1, .slice A2 tx.outs.length c2] 49) := ⟨_, rfl⟩
      have HT5 := Lib.hid (show Bk w5 gt 49 #[.int .u32 (tx.version : Int), .slice A1 tx.ins.length c1, .slice A2 tx.outs.length c2] by rw [hw5, hgt]; exact Bk.new _ _ _)
      have k45 : Kp (fun _ => False) w4 w5 := by rw [hw5]; exact (Kp.refl _ _).alloc _
      have HM5 := Lib.hid (HM4.out.kp k45 (fun h => h))
      have HR5 := Lib.hid (HR4.out.kp k45 (fun h => h))
      have HB5 := Lib.hid (HB4.out.trans ((Kp.below k45).mono HB4.out.size))
      have hz5 := k45.size
      have hgt' : gm + 1 ≤ gt := by omega
      have HNW5 := Lib.hid (HNEW.out.kp k45 (fun i _ h => h.elim))
      rw [← hw5, ← hgt]
      clear hw5 hgt k45
      rcases Decidable.em (er = 0) with he | he
      · subst he
        have t0 : w5.cell? ⟨gt, 0, none⟩ = some (.int .u32 (tx.version : Int)) := (HT5.out.cell 0).trans rfl
        have t1 : w5.cell? ⟨gt, 1, none⟩ = some (.slice A1 tx.ins.length c1) := (HT5.out.cell 1).trans rfl
        have t2 : w5.cell? ⟨gt, 2, none⟩ = some (.slice A2 tx.outs.length c2) := (HT5.out.cell 2).trans rfl
        have n4 : w5.cell? ⟨gm, 4, none⟩ = some (.int .u32 0) := (HM5.out.cell 4).trans rfl
        have n5 : w5.cell? ⟨gm, 5, none⟩ = some (.slice none 0 0) := (HM5.out.cell 5).trans rfl
        have n6 : w5.cell? ⟨gm, 6, none⟩ = some (.slice none 0 0) := (HM5.out.cell 6).trans rfl
        have o4 := HM5.out.frozen 4
        have o5 := HM5.out.frozen 5
        have o6 := HM5.out.frozen 6
        go_upto_region 49 with (fail)
        obtain ⟨w6, hw6⟩ : ∃ w6, w6 = ((w5.setCell ⟨gm, 4, none⟩ (.int .u32 (tx.version : Int))).setCell ⟨gm, 5, none⟩ (.slice A1 tx.ins.length c1)).setCell ⟨gm, 6, none⟩ (.slice A2 tx.outs.length c2) := ⟨_, rfl⟩
        have k56 : Kp (fun i => i = gm) w5 w6 := by rw [hw6]; exact ((kp_cell1 _ _ _ _).trans (kp_cell1 _ _ _ _)).trans (kp_cell1 _ _ _ _)
        obtain ⟨mm, hmm⟩ : ∃ mm, mm = mCells 8 0 0 (.slice none 0 0) tx.version (.slice A1 tx.ins.length c1) (.slice A2 tx.outs.length c2) := ⟨_, rfl⟩
        have HMM := Lib.hid (show Bk w6 gm 51 mm by rw [hw6, hmm]; exact ((HM5.out.set 4 _).set 5 _).set 6 _)
        have HV := Lib.hid (show msgV ⟨8, 0, 0, [], tx⟩ none 0 A1 c1 A2 c2 = .agg mm by rw [hmm]; rfl)
        have HR6 := Lib.hid (HR5.out.kp k56 (by show ¬ g = gm; omega))
        have HB6 := Lib.hid (Kp.from_elder HB5.out k56 (fun i hi e => by omega))
        have hz6 := k56.size
        have HAT2 := Lib.hid (show ∀ wz, Kp (fun i => i < w.heap.size ∨ i = g) w6 wz → MsgAt wz wz.heap.size ⟨8, 0, 0, [], tx⟩ none 0 A1 c1 A2 c2 from fun wz kz => ⟨by show _ ≤ (8 : Int); decide, by show (8 : Int) ≤ _; decide, by show (0 : Nat) < _; omega, by show (0 : Nat) < _; omega, Nat.le_refl _, by simp [maxLen], fun i hi => by simp at hi, HNW5.out wz ((k56.mono (fun i _ e => by omega)).trans (kz.mono (fun i _ e => by omega)))⟩)
        have HX := Lib.hid (show Msgs.getOf 8 b = (⟨8, 0, 0, [], tx⟩, 0) by rw [HGO.out, if_neg (by simp)])
        rw [← hw6]
        clear hw6 hmm k56 t0 t1 t2 n4 n5 n6 o4 o5 o6
        have HML := Lib.hid (msgV_cells HV.out).1
        have HMO := Lib.hid (msgV_cells HV.out).2
        go_wp2_with (first
          | (refine wpList_load_row rfl 51 (.tmp 7) rfl gm (by rfl) 51 mm (0, 0) _ HMM.out Tryd.underlying51 rfl (by rw [HML.out]; exact size_msg) ?_)
          | (refine wpList_store_row rfl 51 (.tmp 4) _ rfl g mm (by rfl) (by rfl) 51 zeroM HR6.out (by rw [HML.out]; exact size_msg) (by rw [HML.out]; rfl) HMO.out ?_))
        refine bodyPost_ret (results_row_tmp rfl _ _ g 51 mm (0, 0) _ rfl (setRow_heap _ _ _ _ _ _ HR6.out) Tryd.underlying51 rfl (by rw [HML.out]; exact size_msg) (.int .i64 0) (by rfl)) rfl ?_
        have kz : Kp (fun i => i = g) w6 (w6.setRow g mm) := Kp.setRow7 (S := fun i => i = g) (Kp.refl _ _) (fun _ => rfl) mm
        rw [HX.out]
        exact ⟨_, _, _, _, _, _, by rw [HV.out], (fun wz hz => HAT2.out wz ((kz.mono (fun _ _ h => .inr h)).trans (hz.mono (fun _ _ h => .inl h)))), below_row HB6.out (by omega) mm⟩
      · have HX := Lib.hid (show Msgs.getOf 8 b = (Msgs.none, er) by rw [HGO.out, if_pos he])
        have e1 : (er != 0) = true := by rw [bne_iff_ne]; exact he
        clear he
        go_wp2_with (refine wpList_store_row rfl 51 (.tmp 4) _ rfl g zeroM (by rfl) (by rfl) 51 zeroM HR5.out (by exact size_msg) rfl zeroM_one ?_)
        refine bodyPost_ret (results_row_tmp rfl _ _ g 51 zeroM (0, 0) _ rfl (setRow_heap _ _ _ _ _ _ HR5.out) Tryd.underlying51 rfl (by exact size_msg) (.int .i64 er) (by rfl)) rfl ?_
        rw [HX.out]
        exact ⟨none, 0, none, 0, none, 0, rfl, none_new _ _, below_row HB5.out (by omega) _⟩
set_option maxHeartbeats 8000000 in
theorem rget_k9 (A : Option Addr) (L c B : Nat) (b : List UInt8) (w : World) (hl : b.length = L) (hc : L ≤ c) (hm : c ≤ maxLen) (hn : L ≤ 140737488351232) (hat : BytesAt w B A b) (hB : B ≤ w.heap.size) :
    Calls Tryd.prog 39 #[.string ⟨(Msgs.shp 9).cmd.toArray⟩, .slice A L c] w fun e w' => MsgOut w w' (Msgs.getOf 9 b) e := by
  have HAT := Lib.hid hat
  have HL := Lib.hid hl
  have HMX := Lib.hid hm
  have HFX := Lib.hid (fun W => fixed_yes 9 rfl W)
  rw [show fixedOf (Msgs.shp 9) = -1 from rfl] at HFX
  obtain ⟨ck, hck⟩ : ∃ ck, ck = (Msgs.shp 9).cmd := ⟨_, rfl⟩
  rw [← hck]
  have HCK := Lib.hid hck
  obtain ⟨w0, hw0⟩ : ∃ w0, w0 = w.alloc (.cells zeroM 51) := ⟨_, rfl⟩
  have hw0' : w0 = w.alloc (.cells #[.int .i64 0, .int .u64 0, .int .u32 0, .slice none 0 0, .int .u32 0, .slice none 0 0, .slice none 0 0] 51) := hw0
  obtain ⟨g, hg⟩ : ∃ g, g = w.heap.size := ⟨_, rfl⟩
  have HR0 := Lib.hid (show Bk w0 g 51 zeroM by rw [hw0, hg]; exact Bk.new _ _ _)
  have HB0 := Lib.hid (show Below w.heap.size w w0 by rw [hw0]; exact Joins.below_alloc1 _ _)
  have hz0 : g + 1 ≤ w0.heap.size := by rw [hw0, hg]; simp
  have hgB : B ≤ g := by omega
  have hgw : w.heap.size ≤ g := by omega
  have HG := Lib.hid hg
  unfold maxLen at hm
  clear hw0 hat hl hck
  go_enter Tryd.func39, Tryd.ntmps39
  go_wp2_with fail
  rw [← hw0', ← hg]
  clear hw0' hg
  go_loop [6] (fun u => ∃ j : Nat, 1 ≤ j ∧ j ≤ 9 ∧ u = .int .i64 (j : Int)) (fun u => 9 - (intOf u).toNat)
  case atStart => exact ⟨1, by omega, by omega, rfl⟩
  case round =>
    obtain ⟨j, hj1, hj2, rfl⟩ := hrel
    by_cases hlt : j < 9
    · have hkj : Msgs.known (j : Int) = true := Msgs.known_iff.2 ⟨by omega, by omega⟩
      have HNM := Lib.hid (fun W => name_yes (j : Int) hkj W)
      obtain ⟨cj, hcj⟩ : ∃ cj, cj = (Msgs.shp (j : Int)).cmd := ⟨_, rfl⟩
      have hne : (cj == ck) = false := by
        rw [beq_eq_false_iff_ne, HCK.out, hcj]
        exact fun h => absurd (Msgs.cmd_inj hkj rfl h) (by omega)
      rw [← hcj] at HNM
      have j1 : (j : Int) ≤ 11 := by omega
      clear hcj hkj
      go_wp2_with (go_at_call 56; refine (HNM.out _).mono ?_; rintro e w' ⟨rfl, rfl⟩)
      go_round
      case rel => exact ⟨j + 1, by omega, by omega, by go_num⟩
      case measure => simp [intOf]; omega
    · obtain rfl : j = 9 := by omega
      have HNM := Lib.hid (fun W => name_yes 9 rfl W)
      rw [← HCK.out] at HNM
      clear hlt
      try simp only [Int.cast_ofNat_Int, Int.natCast_one]
      have hce : (ck == ck) = true := beq_self_eq_true _
      go_upto_region 7 with (go_at_call 56; refine (HNM.out _).mono ?_; rintro e w' ⟨rfl, rfl⟩)
      obtain ⟨gm, hgm⟩ : ∃ gm, gm = w0.heap.size := ⟨_, rfl⟩
      obtain ⟨w3, hw3⟩ : ∃ w3, w3 = w0.alloc (.cells (mCells 9 0 0 (.slice none 0 0) 0 (.slice none 0 0) (.slice none 0 0)) 51) := ⟨_, rfl⟩
      have hw3' : w3 = w0.alloc (.cells #[.int .i64 9, .int .u64 0, .int .u32 0, .slice none 0 0, .int .u32 0, .slice none 0 0, .slice none 0 0] 51) := hw3
      have HM3 := Lib.hid (show Bk w3 gm 51 (mCells 9 0 0 (.slice none 0 0) 0 (.slice none 0 0) (.slice none 0 0)) by rw [hw3, hgm]; exact Bk.new _ _ _)
      have HR3 := Lib.hid (show Bk w3 g 51 zeroM by rw [hw3]; exact HR0.out.alloc _)
      have HB3 := Lib.hid (show Below w.heap.size w w3 by rw [hw3]; exact HB0.out.alloc HB0.out.size _)
      have hz3 : gm + 1 ≤ w3.heap.size := by rw [hw3, hgm]; simp
      have hgg : g + 1 ≤ gm := by omega
      rw [← hw3', ← hgm]
      clear hw3 hw3' hgm hz0 HR0 HB0 hce
      have HWH := Lib.hid (fun W (h1 : Below B w W) (h2 : B ≤ W.heap.size) => rwhole_any A L c B b W HL.out hc HMX.out hn (At.below HAT.out h1) h2)
      have HGO := Lib.hid (show Msgs.getOf 9 b = if (Txs.whole b).2 ≠ 0 then (Msgs.none, (Txs.whole b).2) else (⟨9, 0, 0, [], (Txs.whole b).1⟩, 0) from rfl)
      go_wp2_with (go_at_call 57; refine (HFX.out _).mono ?_; rintro e w' ⟨rfl, rfl⟩)
      refine (HWH.out _ (HB3.out.mono hB) (by omega)).mono ?_
      rintro e w4 ⟨A1, c1, A2, c2, rfl, hnew, hb4⟩
      unfold txV
      generalize Txs.whole b = q at *
      obtain ⟨tx, er⟩ := q
      simp only at hnew ⊢
      have HM4 := Lib.hid (HM3.out.below hb4 HM3.out.lt)
      have HR4 := Lib.hid (HR3.out.below hb4 HR3.out.lt)
      have HB4 := Lib.hid (HB3.out.trans (hb4.mono HB3.out.size))
      have hz4 := hb4.size
      have HNEW := Lib.hid hnew
      clear hnew hb4 HWH
      go_upto_region 46 with (fail)
      obtain ⟨gt, hgt⟩ : ∃ gt, gt = w4.heap.size := ⟨_, rfl⟩
      obtain ⟨w5, hw5⟩ : ∃ w5, w5 = w4.alloc (.cells #[.int .u32 (tx.version : Int), .slice A1 tx.ins.length c1, .slice A2 tx.outs.length c2] 49) := ⟨_, rfl⟩
      have HT5 := Lib.hid (show Bk w5 gt 49 #[.int .u32 (tx.version : Int), .slice A1 tx.ins.length c1, .slice A2 tx.outs.length c2] by rw [hw5, hgt]; exact Bk.new _ _ _)
      have k45 : Kp (fun _ => False) w4 w5 := by rw [hw5]; exact (Kp.refl _ _).alloc _
      have HM5 := Lib.hid (HM4.out.kp k45 (fun h => h))
      have HR5 := Lib.hid (HR4.out.kp k45 (fun h => h))
      have HB5 := Lib.hid (HB4.out.trans ((Kp.below k45).mono HB4.out.size))
      have hz5 := k45.size
      have hgt' : gm + 1 ≤ gt := by omega
      have HNW5 := Lib.hid (HNEW.out.kp k45 (fun i _ h => h.elim))
      rw [← hw5, ← hgt]
      clear hw5 hgt k45
      rcases Decidable.em (er = 0) with he | he
      · subst he
        have t0 : w5.cell? ⟨gt, 0, none⟩ = some (.int .u32 (tx.version : Int)) := (HT5.out.cell 0).trans rfl
        have t1 : w5.cell? ⟨gt, 1, none⟩ = some (.slice A1 tx.ins.length c1) := (HT5.out.cell 1).trans rfl
        have t2 : w5.cell? ⟨gt, 2, none⟩ = some (.slice A2 tx.outs.length c2) := (HT5.out.cell 2).trans rfl
        have n4 : w5.cell? ⟨gm, 4, none⟩ = some (.int .u32 0) := (HM5.out.cell 4).trans rfl
        have n5 : w5.cell? ⟨gm, 5, none⟩ = some (.slice none 0 0) := (HM5.out.cell 5).trans rfl
        have n6 : w5.cell? ⟨gm, 6, none⟩ = some (.slice none 0 0) := (HM5.out.cell 6).trans rfl
        have o4 := HM5.out.frozen 4
        have o5 := HM5.out.frozen 5
        have o6 := HM5.out.frozen 6
        go_upto_region 49 with (fail)
        obtain ⟨w6, hw6⟩ : ∃ w6, w6 = ((w5.setCell ⟨gm, 4, none⟩ (.int .u32 (tx.version : Int))).setCell ⟨gm, 5, none⟩ (.slice A1 tx.ins.length c1)).setCell ⟨gm, 6, none⟩ (.slice A2 tx.outs.length c2) := ⟨_, rfl⟩
        have k56 : Kp (fun i => i = gm) w5 w6 := by rw [hw6]; exact ((kp_cell1 _ _ _ _).trans (kp_cell1 _ _ _ _)).trans (kp_cell1 _ _ _ _)
        obtain ⟨mm, hmm⟩ : ∃ mm, mm = mCells 9 0 0 (.slice none 0 0) tx.version (.slice A1 tx.ins.length c1) (.slice A2 tx.outs.length c2) := ⟨_, rfl⟩
        have HMM := Lib.hid (show Bk w6 gm 51 mm by rw [hw6, hmm]; exact ((HM5.out.set 4 _).set 5 _).set 6 _)
        have HV := Lib.hid (show msgV ⟨9, 0, 0, [], tx⟩ none 0 A1 c1 A2 c2 = .agg mm by rw [hmm]; rfl)
        have HR6 := Lib.hid (HR5.out.kp k56 (by show ¬ g = gm; omega))
        have HB6 := Lib.hid (Kp.from_elder HB5.out k56 (fun i hi e => by omega))
        have hz6 := k56.size
        have HAT2 := Lib.hid (show ∀ wz, Kp (fun i => i < w.heap.size ∨ i = g) w6 wz → MsgAt wz wz.heap.size ⟨9, 0, 0, [], tx⟩ none 0 A1 c1 A2 c2 from fun wz kz => ⟨by show _ ≤ (9 : Int); decide, by show (9 : Int) ≤ _; decide, by show (0 : Nat) < _; omega, by show (0 : Nat) < _; omega, Nat.le_refl _, by simp [maxLen], fun i hi => by simp at hi, HNW5.out wz ((k56.mono (fun i _ e => by omega)).trans (kz.mono (fun i _ e => by omega)))⟩)
        have HX := Lib.hid (show Msgs.getOf 9 b = (⟨9, 0, 0, [], tx⟩, 0) by rw [HGO.out, if_neg (by simp)])
        rw [← hw6]
        clear hw6 hmm k56 t0 t1 t2 n4 n5 n6 o4 o5 o6
        have HML := Lib.hid (msgV_cells HV.out).1
        have HMO := Lib.hid (msgV_cells HV.out).2
        go_wp2_with (first
          | (refine wpList_load_row rfl 51 (.tmp 7) rfl gm (by rfl) 51 mm (0, 0) _ HMM.out Tryd.underlying51 rfl (by rw [HML.out]; exact size_msg) ?_)
          | (refine wpList_store_row rfl 51 (.tmp 4) _ rfl g mm (by rfl) (by rfl) 51 zeroM HR6.out (by rw [HML.out]; exact size_msg) (by rw [HML.out]; rfl) HMO.out ?_))
        refine bodyPost_ret (results_row_tmp rfl _ _ g 51 mm (0, 0) _ rfl (setRow_heap _ _ _ _ _ _ HR6.out) Tryd.underlying51 rfl (by rw [HML.out]; exact size_msg) (.int .i64 0) (by rfl)) rfl ?_
        have kz : Kp (fun i => i = g) w6 (w6.setRow g mm) := Kp.setRow7 (S := fun i => i = g) (Kp.refl _ _) (fun _ => rfl) mm
        rw [HX.out]
        exact ⟨_, _, _, _, _, _, by rw [HV.out], (fun wz hz => HAT2.out wz ((kz.mono (fun _ _ h => .inr h)).trans (hz.mono (fun _ _ h => .inl h)))), below_row HB6.out (by omega) mm⟩
      · have HX := Lib.hid (show Msgs.getOf 9 b = (Msgs.none, er) by rw [HGO.out, if_pos he])
        have e1 : (er != 0) = true := by rw [bne_iff_ne]; exact he
        clear he
        go_wp2_with (refine wpList_store_row rfl 51 (.tmp 4) _ rfl g zeroM (by rfl) (by rfl) 51 zeroM HR5.out (by exact size_msg) rfl zeroM_one ?_)
        refine bodyPost_ret (results_row_tmp rfl _ _ g 51 zeroM (0, 0) _ rfl (setRow_heap _ _ _ _ _ _ HR5.out) Tryd.underlying51 rfl (by exact size_msg) (.int .i64 er) (by rfl)) rfl ?_
        rw [HX.out]
        exact ⟨none, 0, none, 0, none, 0, rfl, none_new _ _, below_row HB5.out (by omega) _⟩
set_option maxHeartbeats 8000000 in
theorem rget_k5 (A : Option Addr) (L c B : Nat) (b : List UInt8) (w : World) (hl : b.length = L) (hc : L ≤ c) (hm : c ≤ maxLen) (hn : L ≤ 140737488351232) (hat : BytesAt w B A b) (hB : B ≤ w.heap.size) :
    Calls Tryd.prog 39 #[.string ⟨(Msgs.shp 5).cmd.toArray⟩, .slice A L c] w fun e w' => MsgOut w w' (Msgs.getOf 5 b) e := by
  have HAT := Lib.hid hat
  have HL := Lib.hid hl
  have HMX := Lib.hid hm
  have HFX := Lib.hid (fun W => fixed_yes 5 rfl W)
  rw [show fixedOf (Msgs.shp 5) = -1 from rfl] at HFX
  obtain ⟨ck, hck⟩ : ∃ ck, ck = (Msgs.shp 5).cmd := ⟨_, rfl⟩
  rw [← hck]
  have HCK := Lib.hid hck
  obtain ⟨w0, hw0⟩ : ∃ w0, w0 = w.alloc (.cells zeroM 51) := ⟨_, rfl⟩
  have hw0' : w0 = w.alloc (.cells #[.int .i64 0, .int .u64 0, .int .u32 0, .slice none 0 0, .int .u32 0, .slice none 0 0, .slice none 0 0] 51) := hw0
  obtain ⟨g, hg⟩ : ∃ g, g = w.heap.size := ⟨_, rfl⟩
  have HR0 := Lib.hid (show Bk w0 g 51 zeroM by rw [hw0, hg]; exact Bk.new _ _ _)
  have HB0 := Lib.hid (show Below w.heap.size w w0 by rw [hw0]; exact Joins.below_alloc1 _ _)
  have hz0 : g + 1 ≤ w0.heap.size := by rw [hw0, hg]; simp
  have hgB : B ≤ g := by omega
  have hgw : w.heap.size ≤ g := by omega
  have HG := Lib.hid hg
  unfold maxLen at hm
  clear hw0 hat hl hck
  go_enter Tryd.func39, Tryd.ntmps39
  go_wp2_with fail
  rw [← hw0', ← hg]
  clear hw0' hg
  go_loop [6] (fun u => ∃ j : Nat, 1 ≤ j ∧ j ≤ 5 ∧ u = .int .i64 (j : Int)) (fun u => 5 - (intOf u).toNat)
  case atStart => exact ⟨1, by omega, by omega, rfl⟩
  case round =>
    obtain ⟨j, hj1, hj2, rfl⟩ := hrel
    by_cases hlt : j < 5
    · have hkj : Msgs.known (j : Int) = true := Msgs.known_iff.2 ⟨by omega, by omega⟩
      have HNM := Lib.hid (fun W => name_yes (j : Int) hkj W)
      obtain ⟨cj, hcj⟩ : ∃ cj, cj = (Msgs.shp (j : Int)).cmd := ⟨_, rfl⟩
      have hne : (cj == ck) = false := by
        rw [beq_eq_false_iff_ne, HCK.out, hcj]
        exact fun h => absurd (Msgs.cmd_inj hkj rfl h) (by omega)
      rw [← hcj] at HNM
      have j1 : (j : Int) ≤ 11 := by omega
      clear hcj hkj
      go_wp2_with (go_at_call 56; refine (HNM.out _).mono ?_; rintro e w' ⟨rfl, rfl⟩)
      go_round
      case rel => exact ⟨j + 1, by omega, by omega, by go_num⟩
      case measure => simp [intOf]; omega
    · obtain rfl : j = 5 := by omega
      have HNM := Lib.hid (fun W => name_yes 5 rfl W)
      rw [← HCK.out] at HNM
      clear hlt
      try simp only [Int.cast_ofNat_Int, Int.natCast_one]
      have hce : (ck == ck) = true := beq_self_eq_true _
      go_upto_region 7 with (go_at_call 56; refine (HNM.out _).mono ?_; rintro e w' ⟨rfl, rfl⟩)
      obtain ⟨gm, hgm⟩ : ∃ gm, gm = w0.heap.size := ⟨_, rfl⟩
      obtain ⟨w3, hw3⟩ : ∃ w3, w3 = w0.alloc (.cells (mCells 5 0 0 (.slice none 0 0) 0 (.slice none 0 0) (.slice none 0 0)) 51) := ⟨_, rfl⟩
      have hw3' : w3 = w0.alloc (.cells #[.int .i64 5, .int .u64 0, .int .u32 0, .slice none 0 0, .int .u32 0, .slice none 0 0, .slice none 0 0] 51) := hw3
      have HM3 := Lib.hid (show Bk w3 gm 51 (mCells 5 0 0 (.slice none 0 0) 0 (.slice none 0 0) (.slice none 0 0)) by rw [hw3, hgm]; exact Bk.new _ _ _)
      have HR3 := Lib.hid (show Bk w3 g 51 zeroM by rw [hw3]; exact HR0.out.alloc _)
      have HB3 := Lib.hid (show Below w.heap.size w w3 by rw [hw3]; exact HB0.out.alloc HB0.out.size _)
      have hz3 : gm + 1 ≤ w3.heap.size := by rw [hw3, hgm]; simp
      have hgg : g + 1 ≤ gm := by omega
      rw [← hw3', ← hgm]
      clear hw3 hw3' hgm hz0 HR0 HB0 hce
      have HGO := Lib.hid (show Msgs.getOf 5 b = Msgs.many 5 b from rfl)
      have HRD := Lib.hid (fun W (h1 : Below B w W) (h2 : B ≤ W.heap.size) => rread_any A L c B b W HL.out hc HMX.out h2 (At.below HAT.out h1))
      have HML := Lib.hid (show Msgs.many 5 b = if (Oct.read b).2.2 ≠ 0 then (Msgs.none, (Oct.read b).2.2) else if (Oct.read b).1 = 0 then (Msgs.none, 9) else if 32 < (Oct.read b).1 then (Msgs.none, 5) else if b.length - (Oct.read b).2.1 < 32 * (Oct.read b).1 then (Msgs.none, 4) else if 32 * (Oct.read b).1 < b.length - (Oct.read b).2.1 then (Msgs.none, 5) else (⟨5, 0, 0, Msgs.hashes (b.drop (Oct.read b).2.1) (Oct.read b).1, Txs.none⟩, 0) from rfl)
      have hrb := Oct.read_back b
      unfold readV at HRD
      rw [HL.out] at HML hrb
      generalize Oct.read b = q at *
      obtain ⟨x, j, er⟩ := q
      simp only at hrb
      go_wp2_with (go_at_call 57; refine (HFX.out _).mono ?_; rintro e w' ⟨rfl, rfl⟩)
      refine (HRD.out _ (HB3.out.mono hB) (by omega)).mono ?_
      rintro e w4 ⟨rfl, hb4⟩
      have HM4 := Lib.hid (HM3.out.below hb4 HM3.out.lt)
      have HR4 := Lib.hid (HR3.out.below hb4 HR3.out.lt)
      have HB4 := Lib.hid (HB3.out.trans (hb4.mono HB3.out.size))
      have hz4 := hb4.size
      clear hb4 HRD
      simp only
      rcases hrb with ⟨r1, r2, r3, _⟩ | ⟨r1, r2, r3, r4, r5⟩
      · have HX := Lib.hid (show Msgs.getOf 5 b = (Msgs.none, er) by rw [HGO.out, HML.out, if_pos r1])
        have e1 : (er != 0) = true := by rw [bne_iff_ne]; exact r1
        clear r1 r2 r3 HML
        go_wp2_with (refine wpList_store_row rfl 51 (.tmp 4) _ rfl g zeroM (by rfl) (by rfl) 51 zeroM HR4.out (by exact size_msg) rfl zeroM_one ?_)
        refine bodyPost_ret (results_row_tmp rfl _ _ g 51 zeroM (0, 0) _ rfl (setRow_heap _ _ _ _ _ _ HR4.out) Tryd.underlying51 rfl (by exact size_msg) (.int .i64 er) (by rfl)) rfl ?_
        rw [HX.out]
        exact ⟨none, 0, none, 0, none, 0, rfl, none_new _ _, below_row HB4.out (by omega) _⟩
      · subst r1
        have hml := HML.out
        rw [if_neg (by simp)] at hml
        try simp only at hml
        have hj1 := Oct.size_pos x
        rw [← r3] at hj1
        have HLL := Lib.hid HL.out
        clear r3 r5 HML
        have hx0 : (0 : Int) ≤ (x : Int) := by omega
        rcases Nat.eq_zero_or_pos x with q1 | q1
        · rw [if_pos q1] at hml
          have HX := Lib.hid (show Msgs.getOf 5 b = (Msgs.none, 9) by rw [HGO.out, hml])
          subst q1
          clear hml
          go_wp2_with (refine wpList_store_row rfl 51 (.tmp 4) _ rfl g zeroM (by rfl) (by rfl) 51 zeroM HR4.out (by exact size_msg) rfl zeroM_one ?_)
          refine bodyPost_ret (results_row_tmp rfl _ _ g 51 zeroM (0, 0) _ rfl (setRow_heap _ _ _ _ _ _ HR4.out) Tryd.underlying51 rfl (by exact size_msg) (.int .i64 9) (by rfl)) rfl ?_
          rw [HX.out]
          exact ⟨none, 0, none, 0, none, 0, rfl, none_new _ _, below_row HB4.out (by omega) _⟩
        rw [if_neg (by omega)] at hml
        have q1' : ((x : Int) == 0) = false := by rw [beq_eq_false_iff_ne]; omega
        rcases Nat.lt_or_ge 32 x with q2 | q2
        · rw [if_pos q2] at hml
          have HX := Lib.hid (show Msgs.getOf 5 b = (Msgs.none, 5) by rw [HGO.out, hml])
          have q2' : (32 : Int) < (x : Int) := by omega
          clear hml
          go_wp2_with (refine wpList_store_row rfl 51 (.tmp 4) _ rfl g zeroM (by rfl) (by rfl) 51 zeroM HR4.out (by exact size_msg) rfl zeroM_one ?_)
          refine bodyPost_ret (results_row_tmp rfl _ _ g 51 zeroM (0, 0) _ rfl (setRow_heap _ _ _ _ _ _ HR4.out) Tryd.underlying51 rfl (by exact size_msg) (.int .i64 5) (by rfl)) rfl ?_
          rw [HX.out]
          exact ⟨none, 0, none, 0, none, 0, rfl, none_new _ _, below_row HB4.out (by omega) _⟩
        rw [if_neg (by omega)] at hml
        have q2' : ¬ (32 : Int) < (x : Int) := by omega
        have hx32 : (x : Int) ≤ 32 := by omega
        have i1 : (0 : Int) ≤ (j : Int) := by omega
        have i2 : (j : Int) ≤ (c : Int) := by omega
        have i3 : (j : Int) ≤ (L : Int) := by omega
        have hcase : L < 32 * x + j ∨ 32 * x + j < L ∨ L = 32 * x + j := by omega
        rcases hcase with q3 | q3 | q3
        · rw [if_pos (by omega)] at hml
          have HX := Lib.hid (show Msgs.getOf 5 b = (Msgs.none, 4) by rw [HGO.out, hml])
          have q3' : (L : Int) - (j : Int) < 32 * (x : Int) := by omega
          clear hml
          go_wp2_with (refine wpList_store_row rfl 51 (.tmp 4) _ rfl g zeroM (by rfl) (by rfl) 51 zeroM HR4.out (by exact size_msg) rfl zeroM_one ?_)
          refine bodyPost_ret (results_row_tmp rfl _ _ g 51 zeroM (0, 0) _ rfl (setRow_heap _ _ _ _ _ _ HR4.out) Tryd.underlying51 rfl (by exact size_msg) (.int .i64 4) (by rfl)) rfl ?_
          rw [HX.out]
          exact ⟨none, 0, none, 0, none, 0, rfl, none_new _ _, below_row HB4.out (by omega) _⟩
        · rw [if_neg (by omega), if_pos (by omega)] at hml
          have HX := Lib.hid (show Msgs.getOf 5 b = (Msgs.none, 5) by rw [HGO.out, hml])
          have q3' : ¬ (L : Int) - (j : Int) < 32 * (x : Int) := by omega
          have q4' : 32 * (x : Int) < (L : Int) - (j : Int) := by omega
          clear hml
          go_wp2_with (refine wpList_store_row rfl 51 (.tmp 4) _ rfl g zeroM (by rfl) (by rfl) 51 zeroM HR4.out (by exact size_msg) rfl zeroM_one ?_)
          refine bodyPost_ret (results_row_tmp rfl _ _ g 51 zeroM (0, 0) _ rfl (setRow_heap _ _ _ _ _ _ HR4.out) Tryd.underlying51 rfl (by exact size_msg) (.int .i64 5) (by rfl)) rfl ?_
          rw [HX.out]
          exact ⟨none, 0, none, 0, none, 0, rfl, none_new _ _, below_row HB4.out (by omega) _⟩
        · rw [if_neg (by omega), if_neg (by omega)] at hml
          have q3' : ¬ (L : Int) - (j : Int) < 32 * (x : Int) := by omega
          have q4' : ¬ 32 * (x : Int) < (L : Int) - (j : Int) := by omega
          have HX := Lib.hid (show Msgs.getOf 5 b = (⟨5, 0, 0, Msgs.hashes (b.drop j) x, Txs.none⟩, 0) by rw [HGO.out, hml])
          obtain ⟨bb, off, hAe, -, -⟩ := HAT.out.cell (i := 0) (by rw [HL.out]; omega)
          subst hAe
          have hcj : ¬ c = j := by omega
          have hcj' : ¬ (c : Int) = (j : Int) := by omega
          have hLj : L - j = 32 * x := by omega
          have HLJ := Lib.hid hLj
          have HIDX := Lib.hid (fun W (hb : Below w.heap.size w W) => ids_any (some ⟨bb, off + j, none⟩) (L - j) (c - j) B x (b.drop j) W (by rw [List.length_drop, HL.out]) (by omega) (by unfold maxLen; omega) (At.below (BytesAt.drop HAT.out j) (hb.mono hB)) (Nat.le_trans hB hb.size) hLj.symm (by omega))
          clear hml hLj q3
          go_wp2_with fail
          refine (HIDX.out w4 HB4.out).mono ?_
          rintro e w5 ⟨A5, c5, rfl, hc5, hm5, hh5, hA5, hb5⟩
          have HM5' := Lib.hid (HM4.out.below hb5 (by omega))
          have HR5 := Lib.hid (HR4.out.below hb5 (by omega))
          have HB5 := Lib.hid (HB4.out.trans (hb5.mono HB4.out.size))
          have HH5 := Lib.hid hh5
          have HA5 := Lib.hid hA5
          have hz5 := hb5.size
          have m3 : w5.cell? ⟨gm, 3, none⟩ = some (.slice none 0 0) := (HM5'.out.cell 3).trans rfl
          have f3 := HM5'.out.frozen 3
          clear hb5 hh5 hA5
          go_upto_region 49 with (fail)
          obtain ⟨w6, hw6⟩ : ∃ w6, w6 = w5.setCell ⟨gm, 3, none⟩ (.slice A5 x c5) := ⟨_, rfl⟩
          have k56 : Kp (fun i => i = gm) w5 w6 := by rw [hw6]; exact kp_cell1 _ _ _ _
          obtain ⟨mm, hmm⟩ : ∃ mm, mm = mCells 5 0 0 (.slice A5 x c5) 0 (.slice none 0 0) (.slice none 0 0) := ⟨_, rfl⟩
          have HMM := Lib.hid (show Bk w6 gm 51 mm by rw [hw6, hmm]; exact HM5'.out.set 3 _)
          have HXL := Lib.hid (show (Msgs.hashes (b.drop j) x).length = x from Msgs.hashes_len _ _)
          have HV := Lib.hid (show msgV ⟨5, 0, 0, Msgs.hashes (b.drop j) x, Txs.none⟩ A5 c5 none 0 none 0 = .agg mm by unfold msgV; rw [HXL.out, hmm]; rfl)
          have HR6 := Lib.hid (HR5.out.kp k56 (by show ¬ g = gm; omega))
          have HB6 := Lib.hid (Kp.from_elder HB5.out k56 (fun i hi e => by omega))
          have HH6 := Lib.hid (hashes_kp HH5.out k56 (fun a ha => by have := HA5.out a ha; omega))
          have hz6 := k56.size
          have HAT2 := Lib.hid (show ∀ wz, Kp (fun i => i < w.heap.size ∨ i = g) w6 wz → MsgAt wz wz.heap.size ⟨5, 0, 0, Msgs.hashes (b.drop j) x, Txs.none⟩ A5 c5 none 0 none 0 from fun wz kz => ⟨by show _ ≤ (5 : Int); decide, by show (5 : Int) ≤ _; decide, by show (0 : Nat) < _; omega, by show (0 : Nat) < _; omega, by show (Msgs.hashes (b.drop j) x).length ≤ _; rw [HXL.out]; exact hc5, hm5, hashes_kpS HH6.out kz (fun a ha => by have := HA5.out a ha; show ¬ (a.block < w.heap.size ∨ a.block = g); omega), none_tx _ _⟩)
          rw [← hw6]
          clear hw6 hmm k56 m3 f3
          have HML := Lib.hid (msgV_cells HV.out).1
          have HMO := Lib.hid (msgV_cells HV.out).2
          go_wp2_with (first
            | (refine wpList_load_row rfl 51 (.tmp 7) rfl gm (by rfl) 51 mm (0, 0) _ HMM.out Tryd.underlying51 rfl (by rw [HML.out]; exact size_msg) ?_)
            | (refine wpList_store_row rfl 51 (.tmp 4) _ rfl g mm (by rfl) (by rfl) 51 zeroM HR6.out (by rw [HML.out]; exact size_msg) (by rw [HML.out]; rfl) HMO.out ?_))
          refine bodyPost_ret (results_row_tmp rfl _ _ g 51 mm (0, 0) _ rfl (setRow_heap _ _ _ _ _ _ HR6.out) Tryd.underlying51 rfl (by rw [HML.out]; exact size_msg) (.int .i64 0) (by rfl)) rfl ?_
          have kz : Kp (fun i => i = g) w6 (w6.setRow g mm) := Kp.setRow7 (S := fun i => i = g) (Kp.refl _ _) (fun _ => rfl) mm
          rw [HX.out]
          exact ⟨_, _, _, _, _, _, by rw [HV.out], (fun wz hz => HAT2.out wz ((kz.mono (fun _ _ h => .inr h)).trans (hz.mono (fun _ _ h => .inl h)))), below_row HB6.out (by omega) mm⟩
set_option maxHeartbeats 8000000 in
theorem rget_k6 (A : Option Addr) (L c B : Nat) (b : List UInt8) (w : World) (hl : b.length = L) (hc : L ≤ c) (hm : c ≤ maxLen) (hn : L ≤ 140737488351232) (hat : BytesAt w B A b) (hB : B ≤ w.heap.size) :
    Calls Tryd.prog 39 #[.string ⟨(Msgs.shp 6).cmd.toArray⟩, .slice A L c] w fun e w' => MsgOut w w' (Msgs.getOf 6 b) e := by
  have HAT := Lib.hid hat
  have HL := Lib.hid hl
  have HMX := Lib.hid hm
  have HFX := Lib.hid (fun W => fixed_yes 6 rfl W)
  rw [show fixedOf (Msgs.shp 6) = -1 from rfl] at HFX
  obtain ⟨ck, hck⟩ : ∃ ck, ck = (Msgs.shp 6).cmd := ⟨_, rfl⟩
  rw [← hck]
  have HCK := Lib.hid hck
  obtain ⟨w0, hw0⟩ : ∃ w0, w0 = w.alloc (.cells zeroM 51) := ⟨_, rfl⟩
  have hw0' : w0 = w.alloc (.cells #[.int .i64 0, .int .u64 0, .int .u32 0, .slice none 0 0, .int .u32 0, .slice none 0 0, .slice none 0 0] 51) := hw0
  obtain ⟨g, hg⟩ : ∃ g, g = w.heap.size := ⟨_, rfl⟩
  have HR0 := Lib.hid (show Bk w0 g 51 zeroM by rw [hw0, hg]; exact Bk.new _ _ _)
  have HB0 := Lib.hid (show Below w.heap.size w w0 by rw [hw0]; exact Joins.below_alloc1 _ _)
  have hz0 : g + 1 ≤ w0.heap.size := by rw [hw0, hg]; simp
  have hgB : B ≤ g := by omega
  have hgw : w.heap.size ≤ g := by omega
  have HG := Lib.hid hg
  unfold maxLen at hm
  clear hw0 hat hl hck
  go_enter Tryd.func39, Tryd.ntmps39
  go_wp2_with fail
  rw [← hw0', ← hg]
  clear hw0' hg
  go_loop [6] (fun u => ∃ j : Nat, 1 ≤ j ∧ j ≤ 6 ∧ u = .int .i64 (j : Int)) (fun u => 6 - (intOf u).toNat)
  case atStart => exact ⟨1, by omega, by omega, rfl⟩
  case round =>
    obtain ⟨j, hj1, hj2, rfl⟩ := hrel
    by_cases hlt : j < 6
    · have hkj : Msgs.known (j : Int) = true := Msgs.known_iff.2 ⟨by omega, by omega⟩
      have HNM := Lib.hid (fun W => name_yes (j : Int) hkj W)
      obtain ⟨cj, hcj⟩ : ∃ cj, cj = (Msgs.shp (j : Int)).cmd := ⟨_, rfl⟩
      have hne : (cj == ck) = false := by
        rw [beq_eq_false_iff_ne, HCK.out, hcj]
        exact fun h => absurd (Msgs.cmd_inj hkj rfl h) (by omega)
      rw [← hcj] at HNM
      have j1 : (j : Int) ≤ 11 := by omega
      clear hcj hkj
      go_wp2_with (go_at_call 56; refine (HNM.out _).mono ?_; rintro e w' ⟨rfl, rfl⟩)
      go_round
      case rel => exact ⟨j + 1, by omega, by omega, by go_num⟩
      case measure => simp [intOf]; omega
    · obtain rfl : j = 6 := by omega
      have HNM := Lib.hid (fun W => name_yes 6 rfl W)
      rw [← HCK.out] at HNM
      clear hlt
      try simp only [Int.cast_ofNat_Int, Int.natCast_one]
      have hce : (ck == ck) = true := beq_self_eq_true _
      go_upto_region 7 with (go_at_call 56; refine (HNM.out _).mono ?_; rintro e w' ⟨rfl, rfl⟩)
      obtain ⟨gm, hgm⟩ : ∃ gm, gm = w0.heap.size := ⟨_, rfl⟩
      obtain ⟨w3, hw3⟩ : ∃ w3, w3 = w0.alloc (.cells (mCells 6 0 0 (.slice none 0 0) 0 (.slice none 0 0) (.slice none 0 0)) 51) := ⟨_, rfl⟩
      have hw3' : w3 = w0.alloc (.cells #[.int .i64 6, .int .u64 0, .int .u32 0, .slice none 0 0, .int .u32 0, .slice none 0 0, .slice none 0 0] 51) := hw3
      have HM3 := Lib.hid (show Bk w3 gm 51 (mCells 6 0 0 (.slice none 0 0) 0 (.slice none 0 0) (.slice none 0 0)) by rw [hw3, hgm]; exact Bk.new _ _ _)
      have HR3 := Lib.hid (show Bk w3 g 51 zeroM by rw [hw3]; exact HR0.out.alloc _)
      have HB3 := Lib.hid (show Below w.heap.size w w3 by rw [hw3]; exact HB0.out.alloc HB0.out.size _)
      have hz3 : gm + 1 ≤ w3.heap.size := by rw [hw3, hgm]; simp
      have hgg : g + 1 ≤ gm := by omega
      rw [← hw3', ← hgm]
      clear hw3 hw3' hgm hz0 HR0 HB0 hce
      have HGO := Lib.hid (show Msgs.getOf 6 b = Msgs.many 6 b from rfl)
      have HRD := Lib.hid (fun W (h1 : Below B w W) (h2 : B ≤ W.heap.size) => rread_any A L c B b W HL.out hc HMX.out h2 (At.below HAT.out h1))
      have HML := Lib.hid (show Msgs.many 6 b = if (Oct.read b).2.2 ≠ 0 then (Msgs.none, (Oct.read b).2.2) else if (Oct.read b).1 = 0 then (Msgs.none, 9) else if 32 < (Oct.read b).1 then (Msgs.none, 5) else if b.length - (Oct.read b).2.1 < 32 * (Oct.read b).1 then (Msgs.none, 4) else if 32 * (Oct.read b).1 < b.length - (Oct.read b).2.1 then (Msgs.none, 5) else (⟨6, 0, 0, Msgs.hashes (b.drop (Oct.read b).2.1) (Oct.read b).1, Txs.none⟩, 0) from rfl)
      have hrb := Oct.read_back b
      unfold readV at HRD
      rw [HL.out] at HML hrb
      generalize Oct.read b = q at *
      obtain ⟨x, j, er⟩ := q
      simp only at hrb
      go_wp2_with (go_at_call 57; refine (HFX.out _).mono ?_; rintro e w' ⟨rfl, rfl⟩)
      refine (HRD.out _ (HB3.out.mono hB) (by omega)).mono ?_
      rintro e w4 ⟨rfl, hb4⟩
      have HM4 := Lib.hid (HM3.out.below hb4 HM3.out.lt)
      have HR4 := Lib.hid (HR3.out.below hb4 HR3.out.lt)
      have HB4 := Lib.hid (HB3.out.trans (hb4.mono HB3.out.size))
      have hz4 := hb4.size
      clear hb4 HRD
      simp only
      rcases hrb with ⟨r1, r2, r3, _⟩ | ⟨r1, r2, r3, r4, r5⟩
      · have HX := Lib.hid (show Msgs.getOf 6 b = (Msgs.none, er) by rw [HGO.out, HML.out, if_pos r1])
        have e1 : (er != 0) = true := by rw [bne_iff_ne]; exact r1
        clear r1 r2 r3 HML
        go_wp2_with (refine wpList_store_row rfl 51 (.tmp 4) _ rfl g zeroM (by rfl) (by rfl) 51 zeroM HR4.out (by exact size_msg) rfl zeroM_one ?_)
        refine bodyPost_ret (results_row_tmp rfl _ _ g 51 zeroM (0, 0) _ rfl (setRow_heap _ _ _ _ _ _ HR4.out) Tryd.underlying51 rfl (by exact size_msg) (.int .i64 er) (by rfl)) rfl ?_
        rw [HX.out]
        exact ⟨none, 0, none, 0, none, 0, rfl, none_new _ _, below_row HB4.out (by omega) _⟩
      · subst r1
        have hml := HML.out
        rw [if_neg (by simp)] at hml
        try simp only at hml
        have hj1 := Oct.size_pos x
        rw [← r3] at hj1
        have HLL := Lib.hid HL.out
        clear r3 r5 HML
        have hx0 : (0 : Int) ≤ (x : Int) := by omega
        rcases Nat.eq_zero_or_pos x with q1 | q1
        · rw [if_pos q1] at hml
          have HX := Lib.hid (show Msgs.getOf 6 b = (Msgs.none, 9) by rw [HGO.out, hml])
          subst q1
          clear hml
          go_wp2_with (refine wpList_store_row rfl 51 (.tmp 4) _ rfl g zeroM (by rfl) (by rfl) 51 zeroM HR4.out (by exact size_msg) rfl zeroM_one ?_)
          refine bodyPost_ret (results_row_tmp rfl _ _ g 51 zeroM (0, 0) _ rfl (setRow_heap _ _ _ _ _ _ HR4.out) Tryd.underlying51 rfl (by exact size_msg) (.int .i64 9) (by rfl)) rfl ?_
          rw [HX.out]
          exact ⟨none, 0, none, 0, none, 0, rfl, none_new _ _, below_row HB4.out (by omega) _⟩
        rw [if_neg (by omega)] at hml
        have q1' : ((x : Int) == 0) = false := by rw [beq_eq_false_iff_ne]; omega
        rcases Nat.lt_or_ge 32 x with q2 | q2
        · rw [if_pos q2] at hml
          have HX := Lib.hid (show Msgs.getOf 6 b = (Msgs.none, 5) by rw [HGO.out, hml])
          have q2' : (32 : Int) < (x : Int) := by omega
          clear hml
          go_wp2_with (refine wpList_store_row rfl 51 (.tmp 4) _ rfl g zeroM (by rfl) (by rfl) 51 zeroM HR4.out (by exact size_msg) rfl zeroM_one ?_)
          refine bodyPost_ret (results_row_tmp rfl _ _ g 51 zeroM (0, 0) _ rfl (setRow_heap _ _ _ _ _ _ HR4.out) Tryd.underlying51 rfl (by exact size_msg) (.int .i64 5) (by rfl)) rfl ?_
          rw [HX.out]
          exact ⟨none, 0, none, 0, none, 0, rfl, none_new _ _, below_row HB4.out (by omega) _⟩
        rw [if_neg (by omega)] at hml
        have q2' : ¬ (32 : Int) < (x : Int) := by omega
        have hx32 : (x : Int) ≤ 32 := by omega
        have i1 : (0 : Int) ≤ (j : Int) := by omega
        have i2 : (j : Int) ≤ (c : Int) := by omega
        have i3 : (j : Int) ≤ (L : Int) := by omega
        have hcase : L < 32 * x + j ∨ 32 * x + j < L ∨ L = 32 * x + j := by omega
        rcases hcase with q3 | q3 | q3
        · rw [if_pos (by omega)] at hml
          have HX := Lib.hid (show Msgs.getOf 6 b = (Msgs.none, 4) by rw [HGO.out, hml])
          have q3' : (L : Int) - (j : Int) < 32 * (x : Int) := by omega
          clear hml
          go_wp2_with (refine wpList_store_row rfl 51 (.tmp 4) _ rfl g zeroM (by rfl) (by rfl) 51 zeroM HR4.out (by exact size_msg) rfl zeroM_one ?_)
          refine bodyPost_ret (results_row_tmp rfl _ _ g 51 zeroM (0, 0) _ rfl (setRow_heap _ _ _ _ _ _ HR4.out) Tryd.underlying51 rfl (by exact size_msg) (.int .i64 4) (by rfl)) rfl ?_
          rw [HX.out]
          exact ⟨none, 0, none, 0, none, 0, rfl, none_new _ _, below_row HB4.out (by omega) _⟩
        · rw [if_neg (by omega), if_pos (by omega)] at hml
          have HX := Lib.hid (show Msgs.getOf 6 b = (Msgs.none, 5) by rw [HGO.out, hml])
          have q3' : ¬ (L : Int) - (j : Int) < 32 * (x : Int) := by omega
          have q4' : 32 * (x : Int) < (L : Int) - (j : Int) := by omega
          clear hml
          go_wp2_with (refine wpList_store_row rfl 51 (.tmp 4) _ rfl g zeroM (by rfl) (by rfl) 51 zeroM HR4.out (by exact size_msg) rfl zeroM_one ?_)
          refine bodyPost_ret (results_row_tmp rfl _ _ g 51 zeroM (0, 0) _ rfl (setRow_heap _ _ _ _ _ _ HR4.out) Tryd.underlying51 rfl (by exact size_msg) (.int .i64 5) (by rfl)) rfl ?_
          rw [HX.out]
          exact ⟨none, 0, none, 0, none, 0, rfl, none_new _ _, below_row HB4.out (by omega) _⟩
        · rw [if_neg (by omega), if_neg (by omega)] at hml
          have q3' : ¬ (L : Int) - (j : Int) < 32 * (x : Int) := by omega
          have q4' : ¬ 32 * (x : Int) < (L : Int) - (j : Int) := by omega
          have HX := Lib.hid (show Msgs.getOf 6 b = (⟨6, 0, 0, Msgs.hashes (b.drop j) x, Txs.none⟩, 0) by rw [HGO.out, hml])
          obtain ⟨bb, off, hAe, -, -⟩ := HAT.out.cell (i := 0) (by rw [HL.out]; omega)
          subst hAe
          have hcj : ¬ c = j := by omega
          have hcj' : ¬ (c : Int) = (j : Int) := by omega
          have hLj : L - j = 32 * x := by omega
          have HLJ := Lib.hid hLj
          have HIDX := Lib.hid (fun W (hb : Below w.heap.size w W) => ids_any (some ⟨bb, off + j, none⟩) (L - j) (c - j) B x (b.drop j) W (by rw [List.length_drop, HL.out]) (by omega) (by unfold maxLen; omega) (At.below (BytesAt.drop HAT.out j) (hb.mono hB)) (Nat.le_trans hB hb.size) hLj.symm (by omega))
          clear hml hLj q3
          go_wp2_with fail
          refine (HIDX.out w4 HB4.out).mono ?_
          rintro e w5 ⟨A5, c5, rfl, hc5, hm5, hh5, hA5, hb5⟩
          have HM5' := Lib.hid (HM4.out.below hb5 (by omega))
          have HR5 := Lib.hid (HR4.out.below hb5 (by omega))
          have HB5 := Lib.hid (HB4.out.trans (hb5.mono HB4.out.size))
          have HH5 := Lib.hid hh5
          have HA5 := Lib.hid hA5
          have hz5 := hb5.size
          have m3 : w5.cell? ⟨gm, 3, none⟩ = some (.slice none 0 0) := (HM5'.out.cell 3).trans rfl
          have f3 := HM5'.out.frozen 3
          clear hb5 hh5 hA5
          go_upto_region 49 with (fail)
          obtain ⟨w6, hw6⟩ : ∃ w6, w6 = w5.setCell ⟨gm, 3, none⟩ (.slice A5 x c5) := ⟨_, rfl⟩
          have k56 : Kp (fun i => i = gm) w5 w6 := by rw [hw6]; exact kp_cell1 _ _ _ _
          obtain ⟨mm, hmm⟩ : ∃ mm, mm = mCells 6 0 0 (.slice A5 x c5) 0 (.slice none 0 0) (.slice none 0 0) := ⟨_, rfl⟩
          have HMM := Lib.hid (show Bk w6 gm 51 mm by rw [hw6, hmm]; exact HM5'.out.set 3 _)
          have HXL := Lib.hid (show (Msgs.hashes (b.drop j) x).length = x from Msgs.hashes_len _ _)
          have HV := Lib.hid (show msgV ⟨6, 0, 0, Msgs.hashes (b.drop j) x, Txs.none⟩ A5 c5 none 0 none 0 = .agg mm by unfold msgV; rw [HXL.out, hmm]; rfl)
          have HR6 := Lib.hid (HR5.out.kp k56 (by show ¬ g = gm; omega))
          have HB6 := Lib.hid (Kp.from_elder HB5.out k56 (fun i hi e => by omega))
          have HH6 := Lib.hid (hashes_kp HH5.out k56 (fun a ha => by have := HA5.out a ha; omega))
          have hz6 := k56.size
          have HAT2 := Lib.hid (show ∀ wz, Kp (fun i => i < w.heap.size ∨ i = g) w6 wz → MsgAt wz wz.heap.size ⟨6, 0, 0, Msgs.hashes (b.drop j) x, Txs.none⟩ A5 c5 none 0 none 0 from fun wz kz => ⟨by show _ ≤ (6 : Int); decide, by show (6 : Int) ≤ _; decide, by show (0 : Nat) < _; omega, by show (0 : Nat) < _; omega, by show (Msgs.hashes (b.drop j) x).length ≤ _; rw [HXL.out]; exact hc5, hm5, hashes_kpS HH6.out kz (fun a ha => by have := HA5.out a ha; show ¬ (a.block < w.heap.size ∨ a.block = g); omega), none_tx _ _⟩)
          rw [← hw6]
          clear hw6 hmm k56 m3 f3
          have HML := Lib.hid (msgV_cells HV.out).1
          have HMO := Lib.hid (msgV_cells HV.out).2
          go_wp2_with (first
            | (refine wpList_load_row rfl 51 (.tmp 7) rfl gm (by rfl) 51 mm (0, 0) _ HMM.out Tryd.underlying51 rfl (by rw [HML.out]; exact size_msg) ?_)
            | (refine wpList_store_row rfl 51 (.tmp 4) _ rfl g mm (by rfl) (by rfl) 51 zeroM HR6.out (by rw [HML.out]; exact size_msg) (by rw [HML.out]; rfl) HMO.out ?_))
          refine bodyPost_ret (results_row_tmp rfl _ _ g 51 mm (0, 0) _ rfl (setRow_heap _ _ _ _ _ _ HR6.out) Tryd.underlying51 rfl (by rw [HML.out]; exact size_msg) (.int .i64 0) (by rfl)) rfl ?_
          have kz : Kp (fun i => i = g) w6 (w6.setRow g mm) := Kp.setRow7 (S := fun i => i = g) (Kp.refl _ _) (fun _ => rfl) mm
          rw [HX.out]
          exact ⟨_, _, _, _, _, _, by rw [HV.out], (fun wz hz => HAT2.out wz ((kz.mono (fun _ _ h => .inr h)).trans (hz.mono (fun _ _ h => .inl h)))), below_row HB6.out (by omega) mm⟩
set_option maxHeartbeats 8000000 in
theorem rget_k7 (A : Option Addr) (L c B : Nat) (b : List UInt8) (w : World) (hl : b.length = L) (hc : L ≤ c) (hm : c ≤ maxLen) (hn : L ≤ 140737488351232) (hat : BytesAt w B A b) (hB : B ≤ w.heap.size) :
    Calls Tryd.prog 39 #[.string ⟨(Msgs.shp 7).cmd.toArray⟩, .slice A L c] w fun e w' => MsgOut w w' (Msgs.getOf 7 b) e := by
  have HAT := Lib.hid hat
  have HL := Lib.hid hl
  have HMX := Lib.hid hm
  have HFX := Lib.hid (fun W => fixed_yes 7 rfl W)
  rw [show fixedOf (Msgs.shp 7) = -1 from rfl] at HFX
  obtain ⟨ck, hck⟩ : ∃ ck, ck = (Msgs.shp 7).cmd := ⟨_, rfl⟩
  rw [← hck]
  have HCK := Lib.hid hck
  obtain ⟨w0, hw0⟩ : ∃ w0, w0 = w.alloc (.cells zeroM 51) := ⟨_, rfl⟩
  have hw0' : w0 = w.alloc (.cells #[.int .i64 0, .int .u64 0, .int .u32 0, .slice none 0 0, .int .u32 0, .slice none 0 0, .slice none 0 0] 51) := hw0
  obtain ⟨g, hg⟩ : ∃ g, g = w.heap.size := ⟨_, rfl⟩
  have HR0 := Lib.hid (show Bk w0 g 51 zeroM by rw [hw0, hg]; exact Bk.new _ _ _)
  have HB0 := Lib.hid (show Below w.heap.size w w0 by rw [hw0]; exact Joins.below_alloc1 _ _)
  have hz0 : g + 1 ≤ w0.heap.size := by rw [hw0, hg]; simp
  have hgB : B ≤ g := by omega
  have hgw : w.heap.size ≤ g := by omega
  have HG := Lib.hid hg
  unfold maxLen at hm
  clear hw0 hat hl hck
  go_enter Tryd.func39, Tryd.ntmps39
  go_wp2_with fail
  rw [← hw0', ← hg]
  clear hw0' hg
  go_loop [6] (fun u => ∃ j : Nat, 1 ≤ j ∧ j ≤ 7 ∧ u = .int .i64 (j : Int)) (fun u => 7 - (intOf u).toNat)
  case atStart => exact ⟨1, by omega, by omega, rfl⟩
  case round =>
    obtain ⟨j, hj1, hj2, rfl⟩ := hrel
    by_cases hlt : j < 7
    · have hkj : Msgs.known (j : Int) = true := Msgs.known_iff.2 ⟨by omega, by omega⟩
      have HNM := Lib.hid (fun W => name_yes (j : Int) hkj W)
      obtain ⟨cj, hcj⟩ : ∃ cj, cj = (Msgs.shp (j : Int)).cmd := ⟨_, rfl⟩
      have hne : (cj == ck) = false := by
        rw [beq_eq_false_iff_ne, HCK.out, hcj]
        exact fun h => absurd (Msgs.cmd_inj hkj rfl h) (by omega)
      rw [← hcj] at HNM
      have j1 : (j : Int) ≤ 11 := by omega
      clear hcj hkj
      go_wp2_with (go_at_call 56; refine (HNM.out _).mono ?_; rintro e w' ⟨rfl, rfl⟩)
      go_round
      case rel => exact ⟨j + 1, by omega, by omega, by go_num⟩
      case measure => simp [intOf]; omega
    · obtain rfl : j = 7 := by omega
      have HNM := Lib.hid (fun W => name_yes 7 rfl W)
      rw [← HCK.out] at HNM
      clear hlt
      try simp only [Int.cast_ofNat_Int, Int.natCast_one]
      have hce : (ck == ck) = true := beq_self_eq_true _
      go_upto_region 7 with (go_at_call 56; refine (HNM.out _).mono ?_; rintro e w' ⟨rfl, rfl⟩)
      obtain ⟨gm, hgm⟩ : ∃ gm, gm = w0.heap.size := ⟨_, rfl⟩
      obtain ⟨w3, hw3⟩ : ∃ w3, w3 = w0.alloc (.cells (mCells 7 0 0 (.slice none 0 0) 0 (.slice none 0 0) (.slice none 0 0)) 51) := ⟨_, rfl⟩
      have hw3' : w3 = w0.alloc (.cells #[.int .i64 7, .int .u64 0, .int .u32 0, .slice none 0 0, .int .u32 0, .slice none 0 0, .slice none 0 0] 51) := hw3
      have HM3 := Lib.hid (show Bk w3 gm 51 (mCells 7 0 0 (.slice none 0 0) 0 (.slice none 0 0) (.slice none 0 0)) by rw [hw3, hgm]; exact Bk.new _ _ _)
      have HR3 := Lib.hid (show Bk w3 g 51 zeroM by rw [hw3]; exact HR0.out.alloc _)
      have HB3 := Lib.hid (show Below w.heap.size w w3 by rw [hw3]; exact HB0.out.alloc HB0.out.size _)
      have hz3 : gm + 1 ≤ w3.heap.size := by rw [hw3, hgm]; simp
      have hgg : g + 1 ≤ gm := by omega
      rw [← hw3', ← hgm]
      clear hw3 hw3' hgm hz0 HR0 HB0 hce
      have HGO := Lib.hid (show Msgs.getOf 7 b = Msgs.many 7 b from rfl)
      have HRD := Lib.hid (fun W (h1 : Below B w W) (h2 : B ≤ W.heap.size) => rread_any A L c B b W HL.out hc HMX.out h2 (At.below HAT.out h1))
      have HML := Lib.hid (show Msgs.many 7 b = if (Oct.read b).2.2 ≠ 0 then (Msgs.none, (Oct.read b).2.2) else if (Oct.read b).1 = 0 then (Msgs.none, 9) else if 32 < (Oct.read b).1 then (Msgs.none, 5) else if b.length - (Oct.read b).2.1 < 32 * (Oct.read b).1 then (Msgs.none, 4) else if 32 * (Oct.read b).1 < b.length - (Oct.read b).2.1 then (Msgs.none, 5) else (⟨7, 0, 0, Msgs.hashes (b.drop (Oct.read b).2.1) (Oct.read b).1, Txs.none⟩, 0) from rfl)
      have hrb := Oct.read_back b
      unfold readV at HRD
      rw [HL.out] at HML hrb
      generalize Oct.read b = q at *
      obtain ⟨x, j, er⟩ := q
      simp only at hrb
      go_wp2_with (go_at_call 57; refine (HFX.out _).mono ?_; rintro e w' ⟨rfl, rfl⟩)
      refine (HRD.out _ (HB3.out.mono hB) (by omega)).mono ?_
      rintro e w4 ⟨rfl, hb4⟩
      have HM4 := Lib.hid (HM3.out.below hb4 HM3.out.lt)
      have HR4 := Lib.hid (HR3.out.below hb4 HR3.out.lt)
      have HB4 := Lib.hid (HB3.out.trans (hb4.mono HB3.out.size))
      have hz4 := hb4.size
      clear hb4 HRD
      simp only
      rcases hrb with ⟨r1, r2, r3, _⟩ | ⟨r1, r2, r3, r4, r5⟩
      · have HX := Lib.hid (show Msgs.getOf 7 b = (Msgs.none, er) by rw [HGO.out, HML.out, if_pos r1])
        have e1 : (er != 0) = true := by rw [bne_iff_ne]; exact r1
        clear r1 r2 r3 HML
        go_wp2_with (refine wpList_store_row rfl 51 (.tmp 4) _ rfl g zeroM (by rfl) (by rfl) 51 zeroM HR4.out (by exact size_msg) rfl zeroM_one ?_)
        refine bodyPost_ret (results_row_tmp rfl _ _ g 51 zeroM (0, 0) _ rfl (setRow_heap _ _ _ _ _ _ HR4.out) Tryd.underlying51 rfl (by exact size_msg) (.int .i64 er) (by rfl)) rfl ?_
        rw [HX.out]
        exact ⟨none, 0, none, 0, none, 0, rfl, none_new _ _, below_row HB4.out (by omega) _⟩
      · subst r1
        have hml := HML.out
        rw [if_neg (by simp)] at hml
        try simp only at hml
        have hj1 := Oct.size_pos x
        rw [← r3] at hj1
        have HLL := Lib.hid HL.out
        clear r3 r5 HML
        have hx0 : (0 : Int) ≤ (x : Int) := by omega
        rcases Nat.eq_zero_or_pos x with q1 | q1
        · rw [if_pos q1] at hml
          have HX := Lib.hid (show Msgs.getOf 7 b = (Msgs.none, 9) by rw [HGO.out, hml])
          subst q1
          clear hml
          go_wp2_with (refine wpList_store_row rfl 51 (.tmp 4) _ rfl g zeroM (by rfl) (by rfl) 51 zeroM HR4.out (by exact size_msg) rfl zeroM_one ?_)
          refine bodyPost_ret (results_row_tmp rfl _ _ g 51 zeroM (0, 0) _ rfl (setRow_heap _ _ _ _ _ _ HR4.out) Tryd.underlying51 rfl (by exact size_msg) (.int .i64 9) (by rfl)) rfl ?_
          rw [HX.out]
          exact ⟨none, 0, none, 0, none, 0, rfl, none_new _ _, below_row HB4.out (by omega) _⟩
        rw [if_neg (by omega)] at hml
        have q1' : ((x : Int) == 0) = false := by rw [beq_eq_false_iff_ne]; omega
        rcases Nat.lt_or_ge 32 x with q2 | q2
        · rw [if_pos q2] at hml
          have HX := Lib.hid (show Msgs.getOf 7 b = (Msgs.none, 5) by rw [HGO.out, hml])
          have q2' : (32 : Int) < (x : Int) := by omega
          clear hml
          go_wp2_with (refine wpList_store_row rfl 51 (.tmp 4) _ rfl g zeroM (by rfl) (by rfl) 51 zeroM HR4.out (by exact size_msg) rfl zeroM_one ?_)
          refine bodyPost_ret (results_row_tmp rfl _ _ g 51 zeroM (0, 0) _ rfl (setRow_heap _ _ _ _ _ _ HR4.out) Tryd.underlying51 rfl (by exact size_msg) (.int .i64 5) (by rfl)) rfl ?_
          rw [HX.out]
          exact ⟨none, 0, none, 0, none, 0, rfl, none_new _ _, below_row HB4.out (by omega) _⟩
        rw [if_neg (by omega)] at hml
        have q2' : ¬ (32 : Int) < (x : Int) := by omega
        have hx32 : (x : Int) ≤ 32 := by omega
        have i1 : (0 : Int) ≤ (j : Int) := by omega
        have i2 : (j : Int) ≤ (c : Int) := by omega
        have i3 : (j : Int) ≤ (L : Int) := by omega
        have hcase : L < 32 * x + j ∨ 32 * x + j < L ∨ L = 32 * x + j := by omega
        rcases hcase with q3 | q3 | q3
        · rw [if_pos (by omega)] at hml
          have HX := Lib.hid (show Msgs.getOf 7 b = (Msgs.none, 4) by rw [HGO.out, hml])
          have q3' : (L : Int) - (j : Int) < 32 * (x : Int) := by omega
          clear hml
          go_wp2_with (refine wpList_store_row rfl 51 (.tmp 4) _ rfl g zeroM (by rfl) (by rfl) 51 zeroM HR4.out (by exact size_msg) rfl zeroM_one ?_)
          refine bodyPost_ret (results_row_tmp rfl _ _ g 51 zeroM (0, 0) _ rfl (setRow_heap _ _ _ _ _ _ HR4.out) Tryd.underlying51 rfl (by exact size_msg) (.int .i64 4) (by rfl)) rfl ?_
          rw [HX.out]
          exact ⟨none, 0, none, 0, none, 0, rfl, none_new _ _, below_row HB4.out (by omega) _⟩
        · rw [if_neg (by omega), if_pos (by omega)] at hml
          have HX := Lib.hid (show Msgs.getOf 7 b = (Msgs.none, 5) by rw [HGO.out, hml])
          have q3' : ¬ (L : Int) - (j : Int) < 32 * (x : Int) := by omega
          have q4' : 32 * (x : Int) < (L : Int) - (j : Int) := by omega
          clear hml
          go_wp2_with (refine wpList_store_row rfl 51 (.tmp 4) _ rfl g zeroM (by rfl) (by rfl) 51 zeroM HR4.out (by exact size_msg) rfl zeroM_one ?_)
          refine bodyPost_ret (results_row_tmp rfl _ _ g 51 zeroM (0, 0) _ rfl (setRow_heap _ _ _ _ _ _ HR4.out) Tryd.underlying51 rfl (by exact size_msg) (.int .i64 5) (by rfl)) rfl ?_
          rw [HX.out]
          exact ⟨none, 0, none, 0, none, 0, rfl, none_new _ _, below_row HB4.out (by omega) _⟩
        · rw [if_neg (by omega), if_neg (by omega)] at hml
          have q3' : ¬ (L : Int) - (j : Int) < 32 * (x : Int) := by omega
          have q4' : ¬ 32 * (x : Int) < (L : Int) - (j : Int) := by omega
          have HX := Lib.hid (show Msgs.getOf 7 b = (⟨7, 0, 0, Msgs.hashes (b.drop j) x, Txs.none⟩, 0) by rw [HGO.out, hml])
          obtain ⟨bb, off, hAe, -, -⟩ := HAT.out.cell (i := 0) (by rw [HL.out]; omega)
          subst hAe
          have hcj : ¬ c = j := by omega
          have hcj' : ¬ (c : Int) = (j : Int) := by omega
          have hLj : L - j = 32 * x := by omega
          have HLJ := Lib.hid hLj
          have HIDX := Lib.hid (fun W (hb : Below w.heap.size w W) => ids_any (some ⟨bb, off + j, none⟩) (L - j) (c - j) B x (b.drop j) W (by rw [List.length_drop, HL.out]) (by omega) (by unfold maxLen; omega) (At.below (BytesAt.drop HAT.out j) (hb.mono hB)) (Nat.le_trans hB hb.size) hLj.symm (by omega))
          clear hml hLj q3
          go_wp2_with fail
          refine (HIDX.out w4 HB4.out).mono ?_
          rintro e w5 ⟨A5, c5, rfl, hc5, hm5, hh5, hA5, hb5⟩
          have HM5' := Lib.hid (HM4.out.below hb5 (by omega))
          have HR5 := Lib.hid (HR4.out.below hb5 (by omega))
          have HB5 := Lib.hid (HB4.out.trans (hb5.mono HB4.out.size))
          have HH5 := Lib.hid hh5
          have HA5 := Lib.hid hA5
          have hz5 := hb5.size
          have m3 : w5.cell? ⟨gm, 3, none⟩ = some (.slice none 0 0) := (HM5'.out.cell 3).trans rfl
          have f3 := HM5'.out.frozen 3
          clear hb5 hh5 hA5
          go_upto_region 49 with (fail)
          obtain ⟨w6, hw6⟩ : ∃ w6, w6 = w5.setCell ⟨gm, 3, none⟩ (.slice A5 x c5) := ⟨_, rfl⟩
          have k56 : Kp (fun i => i = gm) w5 w6 := by rw [hw6]; exact kp_cell1 _ _ _ _
          obtain ⟨mm, hmm⟩ : ∃ mm, mm = mCells 7 0 0 (.slice A5 x c5) 0 (.slice none 0 0) (.slice none 0 0) := ⟨_, rfl⟩
          have HMM := Lib.hid (show Bk w6 gm 51 mm by rw [hw6, hmm]; exact HM5'.out.set 3 _)
          have HXL := Lib.hid (show (Msgs.hashes (b.drop j) x).length = x from Msgs.hashes_len _ _)
          have HV := Lib.hid (show msgV ⟨7, 0, 0, Msgs.hashes (b.drop j) x, Txs.none⟩ A5 c5 none 0 none 0 = .agg mm by unfold msgV; rw [HXL.out, hmm]; rfl)
          have HR6 := Lib.hid (HR5.out.kp k56 (by show ¬ g = gm; omega))
          have HB6 := Lib.hid (Kp.from_elder HB5.out k56 (fun i hi e => by omega))
          have HH6 := Lib.hid (hashes_kp HH5.out k56 (fun a ha => by have := HA5.out a ha; omega))
          have hz6 := k56.size
          have HAT2 := Lib.hid (show ∀ wz, Kp (fun i => i < w.heap.size ∨ i = g) w6 wz → MsgAt wz wz.heap.size ⟨7, 0, 0, Msgs.hashes (b.drop j) x, Txs.none⟩ A5 c5 none 0 none 0 from fun wz kz => ⟨by show _ ≤ (7 : Int); decide, by show (7 : Int) ≤ _; decide, by show (0 : Nat) < _; omega, by show (0 : Nat) < _; omega, by show (Msgs.hashes (b.drop j) x).length ≤ _; rw [HXL.out]; exact hc5, hm5, hashes_kpS HH6.out kz (fun a ha => by have := HA5.out a ha; show ¬ (a.block < w.heap.size ∨ a.block = g); omega), none_tx _ _⟩)
          rw [← hw6]
          clear hw6 hmm k56 m3 f3
          have HML := Lib.hid (msgV_cells HV.out).1
          have HMO := Lib.hid (msgV_cells HV.out).2
          go_wp2_with (first
            | (refine wpList_load_row rfl 51 (.tmp 7) rfl gm (by rfl) 51 mm (0, 0) _ HMM.out Tryd.underlying51 rfl (by rw [HML.out]; exact size_msg) ?_)
            | (refine wpList_store_row rfl 51 (.tmp 4) _ rfl g mm (by rfl) (by rfl) 51 zeroM HR6.out (by rw [HML.out]; exact size_msg) (by rw [HML.out]; rfl) HMO.out ?_))
          refine bodyPost_ret (results_row_tmp rfl _ _ g 51 mm (0, 0) _ rfl (setRow_heap _ _ _ _ _ _ HR6.out) Tryd.underlying51 rfl (by rw [HML.out]; exact size_msg) (.int .i64 0) (by rfl)) rfl ?_
          have kz : Kp (fun i => i = g) w6 (w6.setRow g mm) := Kp.setRow7 (S := fun i => i = g) (Kp.refl _ _) (fun _ => rfl) mm
          rw [HX.out]
          exact ⟨_, _, _, _, _, _, by rw [HV.out], (fun wz hz => HAT2.out wz ((kz.mono (fun _ _ h => .inr h)).trans (hz.mono (fun _ _ h => .inl h)))), below_row HB6.out (by omega) mm⟩

theorem rget_none (cmd : ByteArray) (hcmd : Msgs.kindOf cmd.data.toList = 0) (A : Option Addr) (L c B : Nat) (b : List UInt8) (w : World) (hl : b.length = L) (hc : L ≤ c) (hm : c ≤ maxLen) (hat : BytesAt w B A b) (hB : B ≤ w.heap.size) :
    Calls Tryd.prog 39 #[.string cmd, .slice A L c] w fun e w' => MsgOut w w' (Msgs.none, 8) e := by
  obtain ⟨w0, hw0⟩ : ∃ w0, w0 = w.alloc (.cells zeroM 51) := ⟨_, rfl⟩
  have hw0' : w0 = w.alloc (.cells #[.int .i64 0, .int .u64 0, .int .u32 0, .slice none 0 0, .int .u32 0, .slice none 0 0, .slice none 0 0] 51) := hw0
  obtain ⟨g, hg⟩ : ∃ g, g = w.heap.size := ⟨_, rfl⟩
  have HR0 := Lib.hid (show Bk w0 g 51 zeroM by rw [hw0, hg]; exact Bk.new _ _ _)
  have HB0 := Lib.hid (show Below w.heap.size w w0 by rw [hw0]; exact Joins.below_alloc1 _ _)
  have hgw : w.heap.size ≤ g := by omega
  have HC := Lib.hid hcmd
  clear hw0 hat hl hcmd
  go_enter Tryd.func39, Tryd.ntmps39
  go_wp2_with fail
  rw [← hw0', ← hg]
  clear hw0' hg
  go_loop [6] (fun u => ∃ j : Nat, 1 ≤ j ∧ j ≤ 12 ∧ u = .int .i64 (j : Int)) (fun u => 12 - (intOf u).toNat)
  case atStart => exact ⟨1, by omega, by omega, rfl⟩
  case round =>
    obtain ⟨j, hj1, hj2, rfl⟩ := hrel
    by_cases hlt : j < 12
    · have hkj : Msgs.known (j : Int) = true := Msgs.known_iff.2 ⟨by omega, by omega⟩
      have HNM := Lib.hid (fun W => name_yes (j : Int) hkj W)
      obtain ⟨cj, hcj⟩ : ∃ cj, cj = (Msgs.shp (j : Int)).cmd := ⟨_, rfl⟩
      have hne : (cj == cmd.toList) = false := by
        rw [beq_eq_false_iff_ne, ByteArray.toList_eq, hcj]
        intro h
        have := Msgs.kindOf_cmd hkj
        rw [h, HC.out] at this
        omega
      rw [← hcj] at HNM
      have j1 : (j : Int) ≤ 11 := by omega
      clear hcj hkj
      go_wp2_with (go_at_call 56; refine (HNM.out _).mono ?_; rintro e w' ⟨rfl, rfl⟩)
      go_round
      case rel => exact ⟨j + 1, by omega, by omega, by go_num⟩
      case measure => simp [intOf]; omega
    · obtain rfl : j = 12 := by omega
      clear hlt
      go_wp2_with (refine wpList_store_row rfl 51 (.tmp 4) _ rfl g zeroM (by rfl) (by rfl) 51 zeroM HR0.out (by exact size_msg) rfl zeroM_one ?_)
      refine bodyPost_ret (results_row_tmp rfl _ _ g 51 zeroM (0, 0) _ rfl (setRow_heap _ _ _ _ _ _ HR0.out) Tryd.underlying51 rfl (by exact size_msg) (.int .i64 8) (by rfl)) rfl ?_
      exact ⟨none, 0, none, 0, none, 0, rfl, none_new _ _, below_row HB0.out (by omega) _⟩
theorem rget_any (cmd : ByteArray) (A : Option Addr) (L c B : Nat) (b : List UInt8) (w : World) (hl : b.length = L) (hc : L ≤ c) (hm : c ≤ maxLen) (hn : L ≤ 140737488351232) (hat : BytesAt w B A b) (hB : B ≤ w.heap.size) :
    Calls Tryd.prog 39 #[.string cmd, .slice A L c] w fun e w' => MsgOut w w' (Msgs.get cmd.data.toList b) e := by
  rcases Msgs.kindOf_le cmd.data.toList with h | ⟨h1, h2, h3⟩
  · rw [show Msgs.get cmd.data.toList b = (Msgs.none, 8) by unfold Msgs.get; rw [if_pos h]]
    exact rget_none cmd h A L c B b w hl hc hm hat hB
  · have hcm : cmd = ⟨(Msgs.shN (Msgs.kindOf cmd.data.toList)).cmd.toArray⟩ := by rw [h3]
    have hg : Msgs.get cmd.data.toList b = Msgs.getOf ((Msgs.kindOf cmd.data.toList : Nat) : Int) b := by unfold Msgs.get; rw [if_neg (by omega)]
    rw [hg]
    generalize Msgs.kindOf cmd.data.toList = k at *
    subst hcm
    have hk : k = 1 ∨ k = 2 ∨ k = 3 ∨ k = 4 ∨ k = 5 ∨ k = 6 ∨ k = 7 ∨ k = 8 ∨ k = 9 ∨ k = 10 ∨ k = 11 := by omega
    rcases hk with rfl | rfl | rfl | rfl | rfl | rfl | rfl | rfl | rfl | rfl | rfl
    · exact rget_k1 A L c B b w hl hc hm hn hat hB
    · exact rget_k2 A L c B b w hl hc hm hn hat hB
    · exact rget_k3 A L c B b w hl hc hm hn hat hB
    · exact rget_k4 A L c B b w hl hc hm hn hat hB
    · exact rget_k5 A L c B b w hl hc hm hn hat hB
    · exact rget_k6 A L c B b w hl hc hm hn hat hB
    · exact rget_k7 A L c B b w hl hc hm hn hat hB
    · exact rget_k8 A L c B b w hl hc hm hn hat hB
    · exact rget_k9 A L c B b w hl hc hm hn hat hB
    · exact rget_k10 A L c B b w hl hc hm hn hat hB
    · exact rget_k11 A L c B b w hl hc hm hn hat hB
end Go.Proofs.YtpacgblddeoheaaDoor.M8
