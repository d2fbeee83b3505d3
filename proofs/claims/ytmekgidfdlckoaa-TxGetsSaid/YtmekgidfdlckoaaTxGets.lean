/- The document's Whole; what is read of any bytes is the document's. -/
import Derived.Test.YtmekgidfdlckoaaTxRGet2
import Derived.Test.YtmekgidfdlckoaaTxBack
namespace Go.Proofs.Ytmekgidfdlckoaa.T7
open Go.RowKit Go.Deep
set_option linter.unusedVariables false
set_option linter.unusedSimpArgs false
set_option maxRecDepth 100000
attribute [local go_sem ↓] Go.wp_at_zero Go.wp_at_succ

set_option maxHeartbeats 2000000 in
theorem rwhole_any (A : Option Addr) (n c B : Nat) (b : List UInt8) (w : World) (hl : b.length = n) (hc : n ≤ c) (hm : c ≤ maxLen) (hn : n ≤ 140737488351232) (hat : BytesAt w B A b) (hB : B ≤ w.heap.size) :
    Calls Try.prog 14 #[.slice A n c] w fun e w' => WholeOut w w' (Txs.whole b) e := by
  obtain ⟨w1, hw1⟩ : ∃ w1, w1 = w.alloc (.cells (txCells 0 (.slice none 0 0) (.slice none 0 0)) 28) := ⟨_, rfl⟩
  have hw1' : w1 = w.alloc (.cells #[.int .u32 0, .slice none 0 0, .slice none 0 0] 28) := hw1
  have HW := Lib.hid (show Below w.heap.size w w1 by rw [hw1]; exact Joins.below_alloc1 _ _)
  have HZ := Lib.hid (show w1.heap.size = w.heap.size + 1 by rw [hw1]; simp)
  have HR := Lib.hid (show Bk w1 w.heap.size 28 (txCells 0 (.slice none 0 0) (.slice none 0 0)) by rw [hw1]; exact Bk.new _ _ _)
  have HG := Lib.hid (rget_walk A n c B b w1 hl hc hm hn (At.below hat (HW.out.mono hB)) (by rw [HZ.out]; omega))
  have HWH := Lib.hid (show Txs.whole b = if (Txs.get b).2.2 ≠ 0 then (Txs.none, (Txs.get b).2.2) else if (Txs.get b).2.1 ≠ b.length then (Txs.none, 5) else ((Txs.get b).1, 0) from rfl)
  have hgn := get_n b
  rw [hl] at HWH hgn
  generalize Txs.get b = r at *
  obtain ⟨t, m, e⟩ := r
  simp only at HG HWH hgn
  clear hw1 hat hl
  go_enter Try.func14, Try.ntmps14
  go_wp2_with fail
  rw [← hw1']
  clear hw1'
  refine HG.out.mono ?_
  rintro e' w2 ⟨A1, c1, A2, c2, rfl, hat2, hb2⟩
  unfold txV
  simp only at hat2
  have HA2 := Lib.hid hat2
  have HR2 := Lib.hid (HR.out.below hb2 (by rw [HZ.out]; omega))
  have HW2 := Lib.hid (HW.out.trans (hb2.mono (by rw [HZ.out]; omega)))
  have hz2 := hb2.size
  rw [HZ.out] at hz2
  generalize hv : t.version = ver at *
  have HV := Lib.hid hv
  clear hat2 hb2 HG hv
  obtain ⟨w3, hw3⟩ : ∃ w3, w3 = w2.alloc (.cells (txCells ver (.slice A1 t.ins.length c1) (.slice A2 t.outs.length c2)) 28) := ⟨_, rfl⟩
  have hw3' : w3 = w2.alloc (.cells #[.int .u32 (ver : Int), .slice A1 t.ins.length c1, .slice A2 t.outs.length c2] 28) := hw3
  have HR3 := Lib.hid (show Bk w3 w.heap.size 28 (txCells 0 (.slice none 0 0) (.slice none 0 0)) by rw [hw3]; exact HR2.out.alloc _)
  have HT3 := Lib.hid (show Bk w3 w2.heap.size 28 (txCells ver (.slice A1 t.ins.length c1) (.slice A2 t.outs.length c2)) by rw [hw3]; exact Bk.new _ _ _)
  have HB23 := Lib.hid (show Below w2.heap.size w2 w3 by rw [hw3]; exact Joins.below_alloc1 _ _)
  have HW3 := Lib.hid (HW2.out.trans (HB23.out.mono HW2.out.size))
  have HA3 := Lib.hid ((HA2.out.kp ((Kp.of_below (S := fun _ => False) HB23.out)) (fun _ _ h => h.elim)))
  have t0 : w3.cell? ⟨w2.heap.size, 0, none⟩ = some (.int .u32 (ver : Int)) := (HT3.out.cell 0).trans rfl
  have t1 : w3.cell? ⟨w2.heap.size, 1, none⟩ = some (.slice A1 t.ins.length c1) := (HT3.out.cell 1).trans rfl
  have t2 : w3.cell? ⟨w2.heap.size, 2, none⟩ = some (.slice A2 t.outs.length c2) := (HT3.out.cell 2).trans rfl
  have r0 : w3.cell? ⟨w.heap.size, 0, none⟩ = some (.int .u32 0) := (HR3.out.cell 0).trans rfl
  have r1 : w3.cell? ⟨w.heap.size, 1, none⟩ = some (.slice none 0 0) := (HR3.out.cell 1).trans rfl
  have r2 : w3.cell? ⟨w.heap.size, 2, none⟩ = some (.slice none 0 0) := (HR3.out.cell 2).trans rfl
  have fr0 := HR3.out.frozen 0
  have fr1 := HR3.out.frozen 1
  have fr2 := HR3.out.frozen 2
  have hfin : ∀ (vi vo : Value) (v : Nat), Kp (fun i => i = w.heap.size) w3 (((w3.setCell ⟨w.heap.size, 0, none⟩ (.int .u32 (v : Int))).setCell ⟨w.heap.size, 1, none⟩ vi).setCell ⟨w.heap.size, 2, none⟩ vo) :=
    fun vi vo v => ((kp_cell1 _ _ _ _).trans (kp_cell1 _ _ _ _)).trans (kp_cell1 _ _ _ _)
  have HFIN := Lib.hid hfin
  have hbk : ∀ (vi vo : Value) (v : Nat), Bk (((w3.setCell ⟨w.heap.size, 0, none⟩ (.int .u32 (v : Int))).setCell ⟨w.heap.size, 1, none⟩ vi).setCell ⟨w.heap.size, 2, none⟩ vo) w.heap.size 28 (txCells v vi vo) :=
    fun vi vo v => ((HR3.out.set 0 _).set 1 _).set 2 _
  have HBK := Lib.hid hbk
  have hrw : ∀ (x : Int) (hr : Txs.whole b = (Txs.none, x)), ∀ vz, vz = (.tuple #[.agg (txCells 0 (.slice none 0 0) (.slice none 0 0)), .int .i64 x] : Value) → ∀ wz, Below w.heap.size w wz → WholeOut w wz (Txs.whole b) (.returned vz) := by
    intro x hr vz hvz wz hwz
    rw [hr, hvz]
    exact ⟨none, 0, none, 0, rfl, none_new _ _, hwz⟩
  have HRW := Lib.hid hrw
  clear hw3 hfin hbk hrw HW2 HR2 HA2
  have hcase : (e ≠ 0 ∧ True) ∨ (e = 0 ∧ m ≠ n) ∨ (e = 0 ∧ m = n) := by
    by_cases h : e = 0
    · by_cases h2 : m = n
      · exact .inr (.inr ⟨h, h2⟩)
      · exact .inr (.inl ⟨h, h2⟩)
    · exact .inl ⟨h, trivial⟩
  rcases hcase with ⟨he, -⟩ | ⟨he, hmn⟩ | ⟨he, hmn⟩
  · have he1 : (e == 0) = false := by rw [beq_eq_false_iff_ne]; exact he
    have he2 : (e != 0) = true := by rw [bne_iff_ne]; exact he
    have HX := Lib.hid (show Txs.whole b = (Txs.none, e) by rw [HWH.out, if_pos he])
    clear he
    go_upto_region 2 with (fail)
    rw [← hw3']
    clear hw3'
    go_wp2_with fail
    obtain ⟨wz, hwz⟩ : ∃ wz, wz = ((w3.setCell ⟨w.heap.size, 0, none⟩ (.int .u32 0)).setCell ⟨w.heap.size, 1, none⟩ (.slice none 0 0)).setCell ⟨w.heap.size, 2, none⟩ (.slice none 0 0) := ⟨_, rfl⟩
    have hz : Bk wz w.heap.size 28 (txCells 0 (.slice none 0 0) (.slice none 0 0)) := by rw [hwz]; exact HBK.out _ _ _
    have hkz : Kp (fun i => i = w.heap.size) w3 wz := by rw [hwz]; exact HFIN.out _ _ 0
    rw [← hwz]
    refine bodyPost_ret (results_row_tmp rfl _ _ w.heap.size 28 (txCells 0 (.slice none 0 0) (.slice none 0 0)) (0, 0) _ rfl hz Try.underlying28 rfl size_tx (.int .i64 e) (by rfl)) rfl ?_
    exact HRW.out e HX.out _ rfl _ (Kp.from_elder HW3.out hkz (fun i hi => by omega))
  · subst he
    have hmn2 : (m : Int) < (n : Int) := by omega
    have HX := Lib.hid (show Txs.whole b = (Txs.none, 5) by rw [HWH.out, if_neg (by simp), if_pos hmn])
    clear hmn
    go_upto_region 2 with (fail)
    rw [← hw3']
    clear hw3'
    go_wp2_with fail
    obtain ⟨wz, hwz⟩ : ∃ wz, wz = ((w3.setCell ⟨w.heap.size, 0, none⟩ (.int .u32 0)).setCell ⟨w.heap.size, 1, none⟩ (.slice none 0 0)).setCell ⟨w.heap.size, 2, none⟩ (.slice none 0 0) := ⟨_, rfl⟩
    have hz : Bk wz w.heap.size 28 (txCells 0 (.slice none 0 0) (.slice none 0 0)) := by rw [hwz]; exact HBK.out _ _ _
    have hkz : Kp (fun i => i = w.heap.size) w3 wz := by rw [hwz]; exact HFIN.out _ _ 0
    rw [← hwz]
    refine bodyPost_ret (results_row_tmp rfl _ _ w.heap.size 28 (txCells 0 (.slice none 0 0) (.slice none 0 0)) (0, 0) _ rfl hz Try.underlying28 rfl size_tx (.int .i64 5) (by rfl)) rfl ?_
    exact HRW.out 5 HX.out _ rfl _ (Kp.from_elder HW3.out hkz (fun i hi => by omega))
  · subst he
    have hmn2 : ¬ (m : Int) < (n : Int) := by omega
    have HX := Lib.hid (show Txs.whole b = (t, 0) by rw [HWH.out, if_neg (by simp), if_neg (by simp [hmn])])
    clear hmn
    go_upto_region 2 with (fail)
    rw [← hw3']
    clear hw3'
    go_wp2_with fail
    obtain ⟨wz, hwz⟩ : ∃ wz, wz = ((w3.setCell ⟨w.heap.size, 0, none⟩ (.int .u32 (ver : Int))).setCell ⟨w.heap.size, 1, none⟩ (.slice A1 t.ins.length c1)).setCell ⟨w.heap.size, 2, none⟩ (.slice A2 t.outs.length c2) := ⟨_, rfl⟩
    have hz : Bk wz w.heap.size 28 (txCells ver (.slice A1 t.ins.length c1) (.slice A2 t.outs.length c2)) := by rw [hwz]; exact HBK.out _ _ _
    have hkz : Kp (fun i => i = w.heap.size) w3 wz := by rw [hwz]; exact HFIN.out _ _ _
    rw [← hwz]
    refine bodyPost_ret (results_row_tmp rfl _ _ w.heap.size 28 (txCells ver (.slice A1 t.ins.length c1) (.slice A2 t.outs.length c2)) (0, 0) _ rfl hz Try.underlying28 rfl size_tx (.int .i64 0) (by rfl)) rfl ?_
    rw [HX.out]
    refine ⟨A1, c1, A2, c2, by unfold txV; rw [HV.out]; rfl, ?_, Kp.from_elder HW3.out hkz (fun i hi => by omega)⟩
    exact (HA3.out.kp hkz (fun i _ e => by rw [HZ.out]; omega)).mono (by rw [HZ.out]; omega)
end Go.Proofs.Ytmekgidfdlckoaa.T7
namespace Go.Proofs.Ytmekgidfdlckoaa
open Go.RowKit Go.Deep T7
set_option maxHeartbeats 4000000 in
theorem txGets_walk (w : World) (A : Option Addr) (n c : Nat) (b : List UInt8) (hl : b.length = n) (hc : n ≤ c) (hm : c ≤ maxLen) (hat : BytesAt w w.heap.size A b) :
    Calls Try.prog 3 #[.slice A n c] w fun e w' => e = .returned (.bool true) ∧ Below w.heap.size w w' := by
  by_cases h5 : 5000 < n
  · have h5' : (5000 : Int) < (n : Int) := by omega
    clear h5 hat hl
    go_enter Try.func3, Try.ntmps3
    go_wp2_with fail
    refine (tx_alive w).mono ?_
    rintro e w2 ⟨rfl, hb2⟩
    have HB2 := Lib.hid hb2
    clear hb2
    go_wp2_with fail
    go_ret
    exact ⟨rfl, HB2.out⟩
  have h5' : ¬ (5000 : Int) < (n : Int) := by omega
  have HAT := Lib.hid hat
  have HL := Lib.hid hl
  have HG1 := Lib.hid (fun W (hb : Below w.heap.size w W) => get_any A n c _ b W hl hc hm (by omega) (At.below HAT.out hb) hb.size)
  have HG2 := Lib.hid (fun W (hb : Below w.heap.size w W) => rget_walk A n c _ b W hl hc hm (by omega) (At.below HAT.out hb) hb.size)
  have HW1 := Lib.hid (fun W (hb : Below w.heap.size w W) => whole_any A n c _ b W hl hc hm (by omega) (At.below HAT.out hb) hb.size)
  have HW2 := Lib.hid (fun W (hb : Below w.heap.size w W) => rwhole_any A n c _ b W hl hc hm (by omega) (At.below HAT.out hb) hb.size)
  unfold maxLen at hm
  clear hat hl
  go_enter Try.func3, Try.ntmps3
  go_wp2_with fail
  refine (tx_alive w).mono ?_
  rintro e w2 ⟨rfl, hb2⟩
  have HB2 := Lib.hid hb2
  clear hb2
  generalize Txs.get b = r at *
  generalize Txs.whole b = q at *
  obtain ⟨t, m, er⟩ := r
  obtain ⟨u, es⟩ := q
  try simp only at HG1
  try simp only at HG2
  try simp only at HW1
  try simp only at HW2
  go_wp2_with fail
  refine (HG1.out w2 HB2.out).mono ?_
  rintro e w3 ⟨A3, c3, A3', c3', rfl, hn3, hb3⟩
  have HB3 := Lib.hid (HB2.out.trans (hb3.mono HB2.out.size))
  have HN3 := Lib.hid (TxNew.at_ hn3)
  unfold txV
  clear hb3 hn3
  try simp only
  go_upto_region 6 with (fail)
  obtain ⟨w4, hw4, hb4, hz4, hk4⟩ := tx_box w3 t A3 A3' c3 c3'
  rw [← hw4]
  have HB4 := Lib.hid (HB3.out.trans (hb4.mono HB3.out.size))
  have HK4 := Lib.hid hk4
  have HT4 := Lib.hid ((HN3.out.below hb4).mono hb4.size)
  clear hw4 hb4 hk4
  go_wp2_with fail
  refine (HG2.out w4 HB4.out).mono ?_
  rintro e w5 ⟨A5, c5, A5', c5', rfl, hn5, hb5⟩
  have HB5 := Lib.hid (HB4.out.trans (hb5.mono HB4.out.size))
  have HN5 := Lib.hid (TxNew.at_ hn5)
  have HK5 := Lib.hid (HK4.out.below hb5 HK4.out.lt)
  have HT5 := Lib.hid ((HT4.out.below hb5).mono hb5.size)
  have hz5 := hb5.size
  unfold txV
  clear hb5 hn5 HG1 HG2
  try simp only
  go_upto_region 7 with (fail)
  obtain ⟨w6, hw6, hb6, hz6, hk6⟩ := tx_box w5 t A5 A5' c5 c5'
  rw [← hw6]
  have HB6 := Lib.hid (HB5.out.trans (hb6.mono HB5.out.size))
  have HK6 := Lib.hid (HK5.out.below hb6 HK5.out.lt)
  have HT6 := Lib.hid ((HT5.out.below hb6).mono hb6.size)
  have HL6 := Lib.hid hk6
  have HU6 := Lib.hid ((HN5.out.below hb6).mono hb6.size)
  clear hw6 hb6 hk6
  go_wp2_with fail
  refine (HW1.out w6 HB6.out).mono ?_
  rintro e w7 ⟨A7, c7, A7', c7', rfl, hn7, hb7⟩
  have HB7 := Lib.hid (HB6.out.trans (hb7.mono HB6.out.size))
  have HK7 := Lib.hid (HK6.out.below hb7 HK6.out.lt)
  have HT7 := Lib.hid ((HT6.out.below hb7).mono hb7.size)
  have HL7 := Lib.hid (HL6.out.below hb7 HL6.out.lt)
  have HU7 := Lib.hid ((HU6.out.below hb7).mono hb7.size)
  have HN7 := Lib.hid (TxNew.at_ hn7)
  have hz7 := hb7.size
  unfold txV
  clear hb7 hn7
  try simp only
  go_upto_region 8 with (fail)
  obtain ⟨w8, hw8, hb8, hz8, hk8⟩ := tx_box w7 u A7 A7' c7 c7'
  rw [← hw8]
  have HB8 := Lib.hid (HB7.out.trans (hb8.mono HB7.out.size))
  have HK8 := Lib.hid (HK7.out.below hb8 HK7.out.lt)
  have HT8 := Lib.hid ((HT7.out.below hb8).mono hb8.size)
  have HL8 := Lib.hid (HL7.out.below hb8 HL7.out.lt)
  have HU8 := Lib.hid ((HU7.out.below hb8).mono hb8.size)
  have HM8 := Lib.hid hk8
  have HV8 := Lib.hid ((HN7.out.below hb8).mono hb8.size)
  clear hw8 hb8 hk8
  go_wp2_with fail
  refine (HW2.out w8 HB8.out).mono ?_
  rintro e w9 ⟨A9, c9, A9', c9', rfl, hn9, hb9⟩
  have HB9 := Lib.hid (HB8.out.trans (hb9.mono HB8.out.size))
  have HK9 := Lib.hid (HK8.out.below hb9 HK8.out.lt)
  have HT9 := Lib.hid ((HT8.out.below hb9).mono hb9.size)
  have HL9 := Lib.hid (HL8.out.below hb9 HL8.out.lt)
  have HU9 := Lib.hid ((HU8.out.below hb9).mono hb9.size)
  have HM9 := Lib.hid (HM8.out.below hb9 HM8.out.lt)
  have HV9 := Lib.hid ((HV8.out.below hb9).mono hb9.size)
  have HN9 := Lib.hid (TxNew.at_ hn9)
  have hz9 := hb9.size
  unfold txV
  clear hb9 hn9
  try simp only
  go_upto_region 9 with (fail)
  obtain ⟨wa, hwa, hba, hza, hka⟩ := tx_box w9 u A9 A9' c9 c9'
  rw [← hwa]
  have HBA := Lib.hid (HB9.out.trans (hba.mono HB9.out.size))
  have HKA := Lib.hid (HK9.out.below hba HK9.out.lt)
  have HTA := Lib.hid ((HT9.out.below hba).mono hba.size)
  have HLA := Lib.hid (HL9.out.below hba HL9.out.lt)
  have HUA := Lib.hid ((HU9.out.below hba).mono hba.size)
  have HMA := Lib.hid (HM9.out.below hba HM9.out.lt)
  have HVA := Lib.hid ((HV9.out.below hba).mono hba.size)
  have HOA := Lib.hid hka
  have HWA := Lib.hid ((HN9.out.below hba).mono hba.size)
  clear hwa hba hka
  have HS1 := Lib.hid (rsame_self t A3 A3' A5 A5' c3 c3' c5 c5' _ _ wa HTA.out HUA.out (Nat.le_refl _) (Nat.le_refl _))
  unfold txV at HS1
  obtain ⟨k0, k1, k2⟩ := tx_cells HKA.out
  obtain ⟨l0, l1, l2⟩ := tx_cells HLA.out
  go_wp2_with fail
  refine HS1.out.mono ?_
  rintro e wb ⟨rfl, hbb⟩
  have HBB := Lib.hid (HBA.out.trans (hbb.mono HBA.out.size))
  have HMB := Lib.hid (HMA.out.below hbb HMA.out.lt)
  have HVB := Lib.hid ((HVA.out.below hbb).mono hbb.size)
  have HOB := Lib.hid (HOA.out.below hbb HOA.out.lt)
  have HWB := Lib.hid ((HWA.out.below hbb).mono hbb.size)
  clear hbb HS1 k0 k1 k2 l0 l1 l2
  have HS2 := Lib.hid (rsame_self u A7 A7' A9 A9' c7 c7' c9 c9' _ _ wb HVB.out HWB.out (Nat.le_refl _) (Nat.le_refl _))
  unfold txV at HS2
  obtain ⟨k0, k1, k2⟩ := tx_cells HMB.out
  obtain ⟨l0, l1, l2⟩ := tx_cells HOB.out
  go_wp2_with fail
  refine HS2.out.mono ?_
  rintro e wc ⟨rfl, hbc⟩
  have HBC := Lib.hid (HBB.out.trans (hbc.mono HBB.out.size))
  clear hbc HS2 k0 k1 k2 l0 l1 l2
  go_wp2_with fail
  go_ret
  exact ⟨rfl, HBC.out⟩
end Go.Proofs.Ytmekgidfdlckoaa
