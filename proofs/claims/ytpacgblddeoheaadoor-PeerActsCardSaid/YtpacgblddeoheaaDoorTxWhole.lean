/- Package tx: a transaction of just these bytes. -/
import Derived.Test.YtpacgblddeoheaaDoorTxGet
namespace Go.Proofs.YtpacgblddeoheaaDoor.T7
open Go.RowKit Go.Deep
set_option linter.unusedVariables false
set_option linter.unusedSimpArgs false
set_option maxRecDepth 100000
attribute [local go_sem ↓] Go.wp_at_zero Go.wp_at_succ

/-- a transaction, and an error's number -/
def WholeOut (w w' : World) (r : Txs.Tx × Int) (e : Ending) : Prop :=
  ∃ A c A' c', e = .returned (.tuple #[txV r.1 A c A' c', .int .i64 r.2]) ∧ TxNew w.heap.size w' r.1 A c A' c' ∧ Below w.heap.size w w'
theorem get_n (b : List UInt8) : (Txs.get b).2.1 ≤ b.length := by
  rcases Txs.get_back b with ⟨_, _, h⟩ | ⟨_, _, _, h, _⟩
  · rw [h]; exact Nat.zero_le _
  · exact h
set_option maxHeartbeats 2000000 in
theorem whole_any (A : Option Addr) (n c B : Nat) (b : List UInt8) (w : World) (hl : b.length = n) (hc : n ≤ c) (hm : c ≤ maxLen) (hn : n ≤ 140737488351232) (hat : BytesAt w B A b) (hB : B ≤ w.heap.size) :
    Calls Tryd.prog 75 #[.slice A n c] w fun e w' => WholeOut w w' (Txs.whole b) e := by
  obtain ⟨w1, hw1⟩ : ∃ w1, w1 = w.alloc (.cells (txCells 0 (.slice none 0 0) (.slice none 0 0)) 49) := ⟨_, rfl⟩
  have hw1' : w1 = w.alloc (.cells #[.int .u32 0, .slice none 0 0, .slice none 0 0] 49) := hw1
  have HW := Lib.hid (show Below w.heap.size w w1 by rw [hw1]; exact Joins.below_alloc1 _ _)
  have HZ := Lib.hid (show w1.heap.size = w.heap.size + 1 by rw [hw1]; simp)
  have HR := Lib.hid (show Bk w1 w.heap.size 49 (txCells 0 (.slice none 0 0) (.slice none 0 0)) by rw [hw1]; exact Bk.new _ _ _)
  have HG := Lib.hid (get_any A n c B b w1 hl hc hm hn (At.below hat (HW.out.mono hB)) (by rw [HZ.out]; omega))
  have HWH := Lib.hid (show Txs.whole b = if (Txs.get b).2.2 ≠ 0 then (Txs.none, (Txs.get b).2.2) else if (Txs.get b).2.1 ≠ b.length then (Txs.none, 5) else ((Txs.get b).1, 0) from rfl)
  have hgn := get_n b
  rw [hl] at HWH hgn
  generalize Txs.get b = r at *
  obtain ⟨t, m, e⟩ := r
  simp only at HG HWH hgn
  clear hw1 hat hl
  go_enter Tryd.func75, Tryd.ntmps75
  go_wp2_with fail
  rw [← hw1']
  clear hw1'
  refine HG.out.mono ?_
  rintro e' w2 ⟨A1, c1, A2, c2, rfl, hat2, hb2⟩
  unfold txV
  simp only at hat2
  have HA2 := Lib.hid hat2
  have HR2 := Lib.hid (HR.out.below hb2 (by rw [HZ.out]; omega))
  have HW2 := Lib.hid (HW.out.trans (hb2.mono (by rw [HZ.out]; omega)))
  have hz2 := hb2.size
  rw [HZ.out] at hz2
  generalize hv : t.version = ver at *
  have HV := Lib.hid hv
  clear hat2 hb2 HG hv
  obtain ⟨w3, hw3⟩ : ∃ w3, w3 = w2.alloc (.cells (txCells ver (.slice A1 t.ins.length c1) (.slice A2 t.outs.length c2)) 49) := ⟨_, rfl⟩
  have hw3' : w3 = w2.alloc (.cells #[.int .u32 (ver : Int), .slice A1 t.ins.length c1, .slice A2 t.outs.length c2] 49) := hw3
  have HR3 := Lib.hid (show Bk w3 w.heap.size 49 (txCells 0 (.slice none 0 0) (.slice none 0 0)) by rw [hw3]; exact HR2.out.alloc _)
  have HT3 := Lib.hid (show Bk w3 w2.heap.size 49 (txCells ver (.slice A1 t.ins.length c1) (.slice A2 t.outs.length c2)) by rw [hw3]; exact Bk.new _ _ _)
  have HB23 := Lib.hid (show Below w2.heap.size w2 w3 by rw [hw3]; exact Joins.below_alloc1 _ _)
  have HW3 := Lib.hid (HW2.out.trans (HB23.out.mono HW2.out.size))
  have HA3 := Lib.hid ((HA2.out.kp ((Kp.of_below (S := fun _ => False) HB23.out)) (fun _ _ h => h.elim)))
  have t0 : w3.cell? ⟨w2.heap.size, 0, none⟩ = some (.int .u32 (ver : Int)) := (HT3.out.cell 0).trans rfl
  have t1 : w3.cell? ⟨w2.heap.size, 1, none⟩ = some (.slice A1 t.ins.length c1) := (HT3.out.cell 1).trans rfl
  have t2 : w3.cell? ⟨w2.heap.size, 2, none⟩ = some (.slice A2 t.outs.length c2) := (HT3.out.cell 2).trans rfl
  have r0 : w3.cell? ⟨w.heap.size, 0, none⟩ = some (.int .u32 0) := (HR3.out.cell 0).trans rfl
  have r1 : w3.cell? ⟨w.heap.size, 1, none⟩ = some (.slice none 0 0) := (HR3.out.cell 1).trans rfl
  have r2 : w3.cell? ⟨w.heap.size, 2, none⟩ = some (.slice none 0 0) := (HR3.out.cell 2).trans rfl
  have fr0 := HR3.out.frozen 0
  have fr1 := HR3.out.frozen 1
  have fr2 := HR3.out.frozen 2
  have hfin : ∀ (vi vo : Value) (v : Nat), Kp (fun i => i = w.heap.size) w3 (((w3.setCell ⟨w.heap.size, 0, none⟩ (.int .u32 (v : Int))).setCell ⟨w.heap.size, 1, none⟩ vi).setCell ⟨w.heap.size, 2, none⟩ vo) :=
    fun vi vo v => ((kp_cell1 _ _ _ _).trans (kp_cell1 _ _ _ _)).trans (kp_cell1 _ _ _ _)
  have HFIN := Lib.hid hfin
  have hbk : ∀ (vi vo : Value) (v : Nat), Bk (((w3.setCell ⟨w.heap.size, 0, none⟩ (.int .u32 (v : Int))).setCell ⟨w.heap.size, 1, none⟩ vi).setCell ⟨w.heap.size, 2, none⟩ vo) w.heap.size 49 (txCells v vi vo) :=
    fun vi vo v => ((HR3.out.set 0 _).set 1 _).set 2 _
  have HBK := Lib.hid hbk
  have hrw : ∀ (x : Int) (hr : Txs.whole b = (Txs.none, x)), ∀ vz, vz = (.tuple #[.agg (txCells 0 (.slice none 0 0) (.slice none 0 0)), .int .i64 x] : Value) → ∀ wz, Below w.heap.size w wz → WholeOut w wz (Txs.whole b) (.returned vz) := by
    intro x hr vz hvz wz hwz
    rw [hr, hvz]
    exact ⟨none, 0, none, 0, rfl, none_new _ _, hwz⟩
  have HRW := Lib.hid hrw
  clear hw3 hfin hbk hrw HW2 HR2 HA2
  have hcase : (e ≠ 0 ∧ True) ∨ (e = 0 ∧ m ≠ n) ∨ (e = 0 ∧ m = n) := by
    by_cases h : e = 0
    · by_cases h2 : m = n
      · exact .inr (.inr ⟨h, h2⟩)
      · exact .inr (.inl ⟨h, h2⟩)
    · exact .inl ⟨h, trivial⟩
  rcases hcase with ⟨he, -⟩ | ⟨he, hmn⟩ | ⟨he, hmn⟩
  · have he1 : (e == 0) = false := by rw [beq_eq_false_iff_ne]; exact he
    have he2 : (e != 0) = true := by rw [bne_iff_ne]; exact he
    have HX := Lib.hid (show Txs.whole b = (Txs.none, e) by rw [HWH.out, if_pos he])
    clear he
    go_upto_region 2 with (fail)
    rw [← hw3']
    clear hw3'
    go_wp2_with fail
    obtain ⟨wz, hwz⟩ : ∃ wz, wz = ((w3.setCell ⟨w.heap.size, 0, none⟩ (.int .u32 0)).setCell ⟨w.heap.size, 1, none⟩ (.slice none 0 0)).setCell ⟨w.heap.size, 2, none⟩ (.slice none 0 0) := ⟨_, rfl⟩
    have hz : Bk wz w.heap.size 49 (txCells 0 (.slice none 0 0) (.slice none 0 0)) := by rw [hwz]; exact HBK.out _ _ _
    have hkz : Kp (fun i => i = w.heap.size) w3 wz := by rw [hwz]; exact HFIN.out _ _ 0
    rw [← hwz]
    refine bodyPost_ret (results_row_tmp rfl _ _ w.heap.size 49 (txCells 0 (.slice none 0 0) (.slice none 0 0)) (0, 0) _ rfl hz Tryd.underlying49 rfl size_tx (.int .i64 e) (by rfl)) rfl ?_
    exact HRW.out e HX.out _ rfl _ (Kp.from_elder HW3.out hkz (fun i hi => by omega))
  · subst he
    have hmn2 : ((m : Int) != (n : Int)) = true := by rw [bne_iff_ne]; omega
    have HX := Lib.hid (show Txs.whole b = (Txs.none, 5) by rw [HWH.out, if_neg (by simp), if_pos hmn])
    clear hmn
    go_upto_region 2 with (fail)
    rw [← hw3']
    clear hw3'
    go_wp2_with fail
    obtain ⟨wz, hwz⟩ : ∃ wz, wz = ((w3.setCell ⟨w.heap.size, 0, none⟩ (.int .u32 0)).setCell ⟨w.heap.size, 1, none⟩ (.slice none 0 0)).setCell ⟨w.heap.size, 2, none⟩ (.slice none 0 0) := ⟨_, rfl⟩
    have hz : Bk wz w.heap.size 49 (txCells 0 (.slice none 0 0) (.slice none 0 0)) := by rw [hwz]; exact HBK.out _ _ _
    have hkz : Kp (fun i => i = w.heap.size) w3 wz := by rw [hwz]; exact HFIN.out _ _ 0
    rw [← hwz]
    refine bodyPost_ret (results_row_tmp rfl _ _ w.heap.size 49 (txCells 0 (.slice none 0 0) (.slice none 0 0)) (0, 0) _ rfl hz Tryd.underlying49 rfl size_tx (.int .i64 5) (by rfl)) rfl ?_
    exact HRW.out 5 HX.out _ rfl _ (Kp.from_elder HW3.out hkz (fun i hi => by omega))
  · subst he
    have hmn2 : ((m : Int) != (n : Int)) = false := by rw [bne_eq_false_iff_eq]; omega
    have HX := Lib.hid (show Txs.whole b = (t, 0) by rw [HWH.out, if_neg (by simp), if_neg (by simp [hmn])])
    clear hmn
    go_upto_region 2 with (fail)
    rw [← hw3']
    clear hw3'
    go_wp2_with fail
    obtain ⟨wz, hwz⟩ : ∃ wz, wz = ((w3.setCell ⟨w.heap.size, 0, none⟩ (.int .u32 (ver : Int))).setCell ⟨w.heap.size, 1, none⟩ (.slice A1 t.ins.length c1)).setCell ⟨w.heap.size, 2, none⟩ (.slice A2 t.outs.length c2) := ⟨_, rfl⟩
    have hz : Bk wz w.heap.size 49 (txCells ver (.slice A1 t.ins.length c1) (.slice A2 t.outs.length c2)) := by rw [hwz]; exact HBK.out _ _ _
    have hkz : Kp (fun i => i = w.heap.size) w3 wz := by rw [hwz]; exact HFIN.out _ _ _
    rw [← hwz]
    refine bodyPost_ret (results_row_tmp rfl _ _ w.heap.size 49 (txCells ver (.slice A1 t.ins.length c1) (.slice A2 t.outs.length c2)) (0, 0) _ rfl hz Tryd.underlying49 rfl size_tx (.int .i64 0) (by rfl)) rfl ?_
    rw [HX.out]
    refine ⟨A1, c1, A2, c2, by unfold txV; rw [HV.out]; rfl, ?_, Kp.from_elder HW3.out hkz (fun i hi => by omega)⟩
    exact (HA3.out.kp hkz (fun i _ e => by rw [HZ.out]; omega)).mono (by rw [HZ.out]; omega)
end Go.Proofs.YtpacgblddeoheaaDoor.T7
