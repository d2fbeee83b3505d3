/- Package tx: a transaction of just these bytes; how many it has; what is looked at. -/
import Derived.Test.YtmekgidfdlckoaaDoorTxGet
namespace Go.Proofs.YtmekgidfdlckoaaDoor.T7
open Go.RowKit Go.Deep
set_option linter.unusedVariables false
set_option linter.unusedSimpArgs false
set_option maxRecDepth 100000
attribute [local go_sem ↓] Go.wp_at_zero Go.wp_at_succ

/-- a transaction, and an error's number -/
def WholeOut (w w' : World) (r : Txs.Tx × Int) (e : Ending) : Prop :=
  ∃ A c A' c', e = .returned (.tuple #[txV r.1 A c A' c', .int .i64 r.2]) ∧ TxNew w.heap.size w' r.1 A c A' c' ∧ Below w.heap.size w w'
theorem get_n (b : List UInt8) : (Txs.get b).2.1 ≤ b.length := by
  rcases Txs.get_back b with ⟨_, _, h⟩ | ⟨_, _, _, h, _⟩
  · rw [h]; exact Nat.zero_le _
  · exact h
set_option maxHeartbeats 2000000 in
theorem whole_any (A : Option Addr) (n c B : Nat) (b : List UInt8) (w : World) (hl : b.length = n) (hc : n ≤ c) (hm : c ≤ maxLen) (hn : n ≤ 140737488351232) (hat : BytesAt w B A b) (hB : B ≤ w.heap.size) :
    Calls Tryd.prog 20 #[.slice A n c] w fun e w' => WholeOut w w' (Txs.whole b) e := by
  obtain ⟨w1, hw1⟩ : ∃ w1, w1 = w.alloc (.cells (txCells 0 (.slice none 0 0) (.slice none 0 0)) 26) := ⟨_, rfl⟩
  have hw1' : w1 = w.alloc (.cells #[.int .u32 0, .slice none 0 0, .slice none 0 0] 26) := hw1
  have HW := Lib.hid (show Below w.heap.size w w1 by rw [hw1]; exact Joins.below_alloc1 _ _)
  have HZ := Lib.hid (show w1.heap.size = w.heap.size + 1 by rw [hw1]; simp)
  have HR := Lib.hid (show Bk w1 w.heap.size 26 (txCells 0 (.slice none 0 0) (.slice none 0 0)) by rw [hw1]; exact Bk.new _ _ _)
  have HG := Lib.hid (get_any A n c B b w1 hl hc hm hn (At.below hat (HW.out.mono hB)) (by rw [HZ.out]; omega))
  have HWH := Lib.hid (show Txs.whole b = if (Txs.get b).2.2 ≠ 0 then (Txs.none, (Txs.get b).2.2) else if (Txs.get b).2.1 ≠ b.length then (Txs.none, 5) else ((Txs.get b).1, 0) from rfl)
  have hgn := get_n b
  rw [hl] at HWH hgn
  generalize Txs.get b = r at *
  obtain ⟨t, m, e⟩ := r
  simp only at HG HWH hgn
  clear hw1 hat hl
  go_enter Tryd.func20, Tryd.ntmps20
  go_wp2_with fail
  rw [← hw1']
  clear hw1'
  refine HG.out.mono ?_
  rintro e' w2 ⟨A1, c1, A2, c2, rfl, hat2, hb2⟩
  unfold txV
  simp only at hat2
  have HA2 := Lib.hid hat2
  have HR2 := Lib.hid (HR.out.below hb2 (by rw [HZ.out]; omega))
  have HW2 := Lib.hid (HW.out.trans (hb2.mono (by rw [HZ.out]; omega)))
  have hz2 := hb2.size
  rw [HZ.out] at hz2
  generalize hv : t.version = ver at *
  have HV := Lib.hid hv
  clear hat2 hb2 HG hv
  obtain ⟨w3, hw3⟩ : ∃ w3, w3 = w2.alloc (.cells (txCells ver (.slice A1 t.ins.length c1) (.slice A2 t.outs.length c2)) 26) := ⟨_, rfl⟩
  have hw3' : w3 = w2.alloc (.cells #[.int .u32 (ver : Int), .slice A1 t.ins.length c1, .slice A2 t.outs.length c2] 26) := hw3
  have HR3 := Lib.hid (show Bk w3 w.heap.size 26 (txCells 0 (.slice none 0 0) (.slice none 0 0)) by rw [hw3]; exact HR2.out.alloc _)
  have HT3 := Lib.hid (show Bk w3 w2.heap.size 26 (txCells ver (.slice A1 t.ins.length c1) (.slice A2 t.outs.length c2)) by rw [hw3]; exact Bk.new _ _ _)
  have HB23 := Lib.hid (show Below w2.heap.size w2 w3 by rw [hw3]; exact Joins.below_alloc1 _ _)
  have HW3 := Lib.hid (HW2.out.trans (HB23.out.mono HW2.out.size))
  have HA3 := Lib.hid ((HA2.out.kp ((Kp.of_below (S := fun _ => False) HB23.out)) (fun _ _ h => h.elim)))
  have t0 : w3.cell? ⟨w2.heap.size, 0, none⟩ = some (.int .u32 (ver : Int)) := (HT3.out.cell 0).trans rfl
  have t1 : w3.cell? ⟨w2.heap.size, 1, none⟩ = some (.slice A1 t.ins.length c1) := (HT3.out.cell 1).trans rfl
  have t2 : w3.cell? ⟨w2.heap.size, 2, none⟩ = some (.slice A2 t.outs.length c2) := (HT3.out.cell 2).trans rfl
  have r0 : w3.cell? ⟨w.heap.size, 0, none⟩ = some (.int .u32 0) := (HR3.out.cell 0).trans rfl
  have r1 : w3.cell? ⟨w.heap.size, 1, none⟩ = some (.slice none 0 0) := (HR3.out.cell 1).trans rfl
  have r2 : w3.cell? ⟨w.heap.size, 2, none⟩ = some (.slice none 0 0) := (HR3.out.cell 2).trans rfl
  have fr0 := HR3.out.frozen 0
  have fr1 := HR3.out.frozen 1
  have fr2 := HR3.out.frozen 2
  have hfin : ∀ (vi vo : Value) (v : Nat), Kp (fun i => i = w.heap.size) w3 (((w3.setCell ⟨w.heap.size, 0, none⟩ (.int .u32 (v : Int))).setCell ⟨w.heap.size, 1, none⟩ vi).setCell ⟨w.heap.size, 2, none⟩ vo) :=
    fun vi vo v => ((kp_cell1 _ _ _ _).trans (kp_cell1 _ _ _ _)).trans (kp_cell1 _ _ _ _)
  have HFIN := Lib.hid hfin
  have hbk : ∀ (vi vo : Value) (v : Nat), Bk (((w3.setCell ⟨w.heap.size, 0, none⟩ (.int .u32 (v : Int))).setCell ⟨w.heap.size, 1, none⟩ vi).setCell ⟨w.heap.size, 2, none⟩ vo) w.heap.size 26 (txCells v vi vo) :=
    fun vi vo v => ((HR3.out.set 0 _).set 1 _).set 2 _
  have HBK := Lib.hid hbk
  have hrw : ∀ (x : Int) (hr : Txs.whole b = (Txs.none, x)), ∀ vz, vz = (.tuple #[.agg (txCells 0 (.slice none 0 0) (.slice none 0 0)), .int .i64 x] : Value) → ∀ wz, Below w.heap.size w wz → WholeOut w wz (Txs.whole b) (.returned vz) := by
    intro x hr vz hvz wz hwz
    rw [hr, hvz]
    exact ⟨none, 0, none, 0, rfl, none_new _ _, hwz⟩
  have HRW := Lib.hid hrw
  clear hw3 hfin hbk hrw HW2 HR2 HA2
  have hcase : (e ≠ 0 ∧ True) ∨ (e = 0 ∧ m ≠ n) ∨ (e = 0 ∧ m = n) := by
    by_cases h : e = 0
    · by_cases h2 : m = n
      · exact .inr (.inr ⟨h, h2⟩)
      · exact .inr (.inl ⟨h, h2⟩)
    · exact .inl ⟨h, trivial⟩
  rcases hcase with ⟨he, -⟩ | ⟨he, hmn⟩ | ⟨he, hmn⟩
  · have he1 : (e == 0) = false := by rw [beq_eq_false_iff_ne]; exact he
    have he2 : (e != 0) = true := by rw [bne_iff_ne]; exact he
    have HX := Lib.hid (show Txs.whole b = (Txs.none, e) by rw [HWH.out, if_pos he])
    clear he
    go_upto_region 2 with (fail)
    rw [← hw3']
    clear hw3'
    go_wp2_with fail
    obtain ⟨wz, hwz⟩ : ∃ wz, wz = ((w3.setCell ⟨w.heap.size, 0, none⟩ (.int .u32 0)).setCell ⟨w.heap.size, 1, none⟩ (.slice none 0 0)).setCell ⟨w.heap.size, 2, none⟩ (.slice none 0 0) := ⟨_, rfl⟩
    have hz : Bk wz w.heap.size 26 (txCells 0 (.slice none 0 0) (.slice none 0 0)) := by rw [hwz]; exact HBK.out _ _ _
    have hkz : Kp (fun i => i = w.heap.size) w3 wz := by rw [hwz]; exact HFIN.out _ _ 0
    rw [← hwz]
    refine bodyPost_ret (results_row_tmp rfl _ _ w.heap.size 26 (txCells 0 (.slice none 0 0) (.slice none 0 0)) (0, 0) _ rfl hz Tryd.underlying26 rfl size_tx (.int .i64 e) (by rfl)) rfl ?_
    exact HRW.out e HX.out _ rfl _ (Kp.from_elder HW3.out hkz (fun i hi => by omega))
  · subst he
    have hmn2 : ((m : Int) != (n : Int)) = true := by rw [bne_iff_ne]; omega
    have HX := Lib.hid (show Txs.whole b = (Txs.none, 5) by rw [HWH.out, if_neg (by simp), if_pos hmn])
    clear hmn
    go_upto_region 2 with (fail)
    rw [← hw3']
    clear hw3'
    go_wp2_with fail
    obtain ⟨wz, hwz⟩ : ∃ wz, wz = ((w3.setCell ⟨w.heap.size, 0, none⟩ (.int .u32 0)).setCell ⟨w.heap.size, 1, none⟩ (.slice none 0 0)).setCell ⟨w.heap.size, 2, none⟩ (.slice none 0 0) := ⟨_, rfl⟩
    have hz : Bk wz w.heap.size 26 (txCells 0 (.slice none 0 0) (.slice none 0 0)) := by rw [hwz]; exact HBK.out _ _ _
    have hkz : Kp (fun i => i = w.heap.size) w3 wz := by rw [hwz]; exact HFIN.out _ _ 0
    rw [← hwz]
    refine bodyPost_ret (results_row_tmp rfl _ _ w.heap.size 26 (txCells 0 (.slice none 0 0) (.slice none 0 0)) (0, 0) _ rfl hz Tryd.underlying26 rfl size_tx (.int .i64 5) (by rfl)) rfl ?_
    exact HRW.out 5 HX.out _ rfl _ (Kp.from_elder HW3.out hkz (fun i hi => by omega))
  · subst he
    have hmn2 : ((m : Int) != (n : Int)) = false := by rw [bne_eq_false_iff_eq]; omega
    have HX := Lib.hid (show Txs.whole b = (t, 0) by rw [HWH.out, if_neg (by simp), if_neg (by simp [hmn])])
    clear hmn
    go_upto_region 2 with (fail)
    rw [← hw3']
    clear hw3'
    go_wp2_with fail
    obtain ⟨wz, hwz⟩ : ∃ wz, wz = ((w3.setCell ⟨w.heap.size, 0, none⟩ (.int .u32 (ver : Int))).setCell ⟨w.heap.size, 1, none⟩ (.slice A1 t.ins.length c1)).setCell ⟨w.heap.size, 2, none⟩ (.slice A2 t.outs.length c2) := ⟨_, rfl⟩
    have hz : Bk wz w.heap.size 26 (txCells ver (.slice A1 t.ins.length c1) (.slice A2 t.outs.length c2)) := by rw [hwz]; exact HBK.out _ _ _
    have hkz : Kp (fun i => i = w.heap.size) w3 wz := by rw [hwz]; exact HFIN.out _ _ _
    rw [← hwz]
    refine bodyPost_ret (results_row_tmp rfl _ _ w.heap.size 26 (txCells ver (.slice A1 t.ins.length c1) (.slice A2 t.outs.length c2)) (0, 0) _ rfl hz Tryd.underlying26 rfl size_tx (.int .i64 0) (by rfl)) rfl ?_
    rw [HX.out]
    refine ⟨A1, c1, A2, c2, by unfold txV; rw [HV.out]; rfl, ?_, Kp.from_elder HW3.out hkz (fun i hi => by omega)⟩
    exact (HA3.out.kp hkz (fun i _ e => by rw [HZ.out]; omega)).mono (by rw [HZ.out]; omega)
/-! ### Size -/
theorem size_no (t : Txs.Tx) (A A' : Option Addr) (c c' B : Nat) (w : World) (h : TxAt w B t A c A' c') (hB : B ≤ w.heap.size) (hf : Txs.form t = false) :
    Calls Tryd.prog 12 #[txV t A c A' c'] w fun e w' => e = .returned (.tuple #[.int .i64 0, .int .i64 5]) ∧ Below w.heap.size w w' := by
  have HF := fun W hb1 hb2 => form_any t A A' c c' B W (h.below hb1) hb2
  rw [hf] at HF
  unfold txV at HF ⊢
  have HFF := Lib.hid HF
  clear h hf HF
  go_enter Tryd.func12, Tryd.ntmps12
  go_wp2_with fail
  refine (HFF.out _ (Below.mono (Joins.below_alloc1 _ _) hB) (by simp; omega)).mono ?_
  rintro e w1 ⟨rfl, hb⟩
  go_wp2_with fail
  go_ret2
  exact ⟨rfl, (Joins.below_alloc1 _ _).trans (hb.mono (by simp))⟩
theorem keys_snoc (l : List Txs.In) (k : Nat) (h : k < l.length) : Txs.keys (l.take (k + 1)) = Txs.keys (l.take k) + l[k].key.length := by
  unfold Txs.keys; rw [List.take_succ_eq_append_getElem h, List.map_append, List.sum_append]; simp
theorem keys_take_le (l : List Txs.In) (k : Nat) : Txs.keys (l.take k) ≤ Txs.keys l := by
  have : Txs.keys l = Txs.keys (l.take k) + Txs.keys (l.drop k) := by
    unfold Txs.keys; rw [← List.sum_append, ← List.map_append, List.take_append_drop]
  omega
set_option maxHeartbeats 2000000 in
theorem size_yes (t : Txs.Tx) (A A' : Option Addr) (c c' B : Nat) (w : World) (h : TxAt w B t A c A' c') (hB : B ≤ w.heap.size) (hf : Txs.form t = true) :
    Calls Tryd.prog 12 #[txV t A c A' c'] w fun e w' => e = .returned (.tuple #[.int .i64 ((Txs.bytes t).length : Int), .int .i64 0]) ∧ Below w.heap.size w w' := by
  have HF := fun W hb1 hb2 => form_any t A A' c c' B W (h.below hb1) hb2
  rw [hf] at HF
  obtain ⟨f1, f2, f3⟩ := Txs.form_iff.1 hf
  have hok := h.ok
  have HBL := Lib.hid (Txs.bytes_len hok)
  have hkl := Txs.keys_le f1
  have HF1 := Lib.hid f1
  have HI := Lib.hid h.ins
  have hk512 : Txs.keys t.ins ≤ 512 := by omega
  unfold txV at HF ⊢
  have HFF := Lib.hid HF
  clear HF
  generalize hv : t.version = ver at *
  obtain ⟨n, hn⟩ : ∃ n, n = t.ins.length := ⟨_, rfl⟩
  obtain ⟨m, hm⟩ : ∃ m, m = t.outs.length := ⟨_, rfl⟩
  rw [← hn] at HFF HBL f2 ⊢
  rw [← hm] at HFF HBL f3 ⊢
  have HN := Lib.hid hn
  have hn8 : (n : Int) ≤ 8 := by omega
  have hm8 : (m : Int) ≤ 8 := by omega
  clear hf hv hn hm hok hkl h f1
  obtain ⟨w1, hw1⟩ : ∃ w1, w1 = w.alloc (.cells #[.int .u32 (ver : Int), .slice A n c, .slice A' m c'] 26) := ⟨_, rfl⟩
  have HK := Lib.hid (show Bk w1 w.heap.size 26 #[.int .u32 (ver : Int), .slice A n c, .slice A' m c'] by rw [hw1]; exact Bk.new _ _ _)
  have HZ := Lib.hid (show w1.heap.size = w.heap.size + 1 by rw [hw1]; simp)
  have HW := Lib.hid (show Below w.heap.size w w1 by rw [hw1]; exact Joins.below_alloc1 _ _)
  go_enter Tryd.func12, Tryd.ntmps12
  go_wp2_with fail
  rw [← hw1]
  clear hw1
  refine (HFF.out _ (HW.out.mono hB) (by rw [HZ.out]; omega)).mono ?_
  rintro e w2 ⟨rfl, hb2⟩
  have HB2 := Lib.hid hb2
  have HK2 := Lib.hid (HK.out.below hb2 HK.out.lt)
  have d1 : w2.cell? ⟨w.heap.size, 1, none⟩ = some (.slice A n c) := (HK2.out.cell 1).trans rfl
  have d2 : w2.cell? ⟨w.heap.size, 2, none⟩ = some (.slice A' m c') := (HK2.out.cell 2).trans rfl
  have hz2 := hb2.size
  rw [HZ.out] at hz2
  have HI2 := Lib.hid (show InsAt w2 B A t.ins from HI.out.below ((HW.out.trans (HB2.out.mono (by rw [HZ.out]; omega))).mono hB))
  clear hb2 HFF
  go_wp2_with fail
  go_loopw [4, 23] (fun s i wr => ∃ k : Nat, k ≤ n ∧ i = .int .i64 (k : Int) ∧ s = .int .i64 ((6 + 37 * n + 40 * m + Txs.keys (t.ins.take k) : Nat) : Int) ∧ Hid (Below w2.heap.size w2 wr)) (fun _ i _ => n - (intOf i).toNat)
  case atStart => exact ⟨0, Nat.zero_le _, rfl, congrArg (Value.int .i64) (by simp [Txs.keys]), Lib.hid (Below.refl _ _)⟩
  case round =>
    obtain ⟨k, hk, rfl, rfl, hb⟩ := hrel
    by_cases hlt : k < n
    · have hlt2 : k < t.ins.length := by rw [← HN.out]; exact hlt
      obtain ⟨b, off, Ak, ck, rfl, _, hr, hok, hkc, hkm, _⟩ := (HI2.out.below (hb.out.mono (by omega))).range hlt2
      have HSN := Lib.hid (keys_snoc t.ins k hlt2)
      have hkt := keys_take_le t.ins k
      have hk64 := HF1.out t.ins[k] (List.getElem_mem hlt2)
      have HR := Lib.hid hr
      have HOK := Lib.hid hok
      clear hr hok
      generalize t.ins[k] = x at *
      have HL := Lib.hid (inCells_len HOK.out (.slice Ak x.key.length ck))
      have HKY := Lib.hid (in_key (Bk.new _ 57 (inCells x (.slice Ak x.key.length ck)).toArray : Bk (wr.alloc (.cells (inCells x (.slice Ak x.key.length ck)).toArray 57)) wr.heap.size _ _) HOK.out)
      have HONE := Lib.hid (inCells_one x Ak x.key.length ck)
      obtain ⟨ky, hky⟩ : ∃ ky, ky = x.key.length := ⟨_, rfl⟩
      rw [← hky] at HR HL HKY HONE hk64 hkc HSN
      obtain ⟨ks, hks⟩ : ∃ ks, ks = Txs.keys (t.ins.take k) := ⟨_, rfl⟩
      rw [← hks] at HSN hkt
      rw [← hks]
      generalize hcs : inCells x (.slice Ak ky ck) = cs at *
      have HZI := zero_in
      have HZL := Lib.hid zeroIn_len
      generalize (inCells ⟨List.replicate 32 0, 0, []⟩ (.slice none 0 0)).toArray = zs at *
      have HZI := Lib.hid HZI
      have hkyi : (ky : Int) ≤ 64 := by omega
      clear hky hcs hks
      go_wp2_with (refine wpList_elem rfl rfl rfl 57 (.tmp 25) (.tmp 6) (.tmp 26) rfl rfl rfl b (off + k * 34) (by rfl) cs _ HR.out Tryd.underlying57 rfl (by rw [HL.out]; exact size_in) zs HZI.out (by rw [HZL.out, HL.out]) HONE.out (by rfl) (by rfl) ?_; have hcell := HKY.out)
      go_roundw
      case rel => exact ⟨k + 1, by omega, by go_num, congrArg (Value.int .i64) (by rw [HSN.out]; omega), Lib.hid (hb.out.alloc hb.out.size _)⟩
      case measure => simp [intOf]; omega
    · have hkn : k = n := by omega
      have HTK := Lib.hid (show t.ins.take k = t.ins from List.take_of_length_le (by rw [hkn, HN.out]; exact Nat.le_refl _))
      have HEND := Lib.hid (HW.out.trans ((HB2.out.trans (hb.out.mono HB2.out.size)).mono (by rw [HZ.out]; omega)))
      clear hkn
      go_wp2_with fail
      go_ret2
      exact ⟨congrArg (fun x => Ending.returned (.tuple #[.int .i64 x, .int .i64 0])) (by rw [HTK.out, HBL.out]), HEND.out⟩
/-! ### what is looked at -/
def greatB (t : Txs.Tx) : Bool := decide (100 < t.ins.length) || (decide (100 < t.outs.length) || t.ins.any (fun x => decide (1000 < x.key.length)))
theorem any_take' {α : Type} {l : List α} {k : Nat} (hk : k < l.length) (p : α → Bool) (h : (l.take k).any p = false) (hp : p l[k] = false) : (l.take (k + 1)).any p = false := by
  rw [List.take_succ_eq_append_getElem hk, List.any_append, h]; simp [hp]
set_option maxHeartbeats 2000000 in
theorem great_any (t : Txs.Tx) (A A' : Option Addr) (c c' B : Nat) (w : World) (h : TxAt w B t A c A' c') (hB : B ≤ w.heap.size) :
    Calls Tryd.prog 6 #[txV t A c A' c'] w fun e w' => e = .returned (.bool (greatB t)) ∧ Below w.heap.size w w' := by
  have hmi := Nat.le_trans h.ic h.im
  have hmo := Nat.le_trans h.oc h.om
  unfold maxLen at hmi hmo
  have HI := Lib.hid h.ins
  unfold txV
  generalize hv : t.version = ver at *
  clear hv h
  obtain ⟨w1, hw1⟩ : ∃ w1, w1 = w.alloc (.cells #[.int .u32 (ver : Int), .slice A t.ins.length c, .slice A' t.outs.length c'] 26) := ⟨_, rfl⟩
  have HK := Lib.hid (show Bk w1 w.heap.size 26 #[.int .u32 (ver : Int), .slice A t.ins.length c, .slice A' t.outs.length c'] by rw [hw1]; exact Bk.new _ _ _)
  have HZ := Lib.hid (show w1.heap.size = w.heap.size + 1 by rw [hw1]; simp)
  have HW := Lib.hid (show Below w.heap.size w w1 by rw [hw1]; exact Joins.below_alloc1 _ _)
  have HI1 := Lib.hid (show InsAt w1 B A t.ins from HI.out.below (HW.out.mono hB))
  have HG := Lib.hid (show greatB t = _ from rfl)
  by_cases h1 : 100 < t.ins.length
  · have h1' : (100 : Int) < (t.ins.length : Int) := by omega
    have HX := Lib.hid (show greatB t = true by unfold greatB; simp [h1])
    go_enter Tryd.func6, Tryd.ntmps6
    go_wp2_with fail
    go_ret
    rw [← hw1]
    exact ⟨ret_bool HX.out.symm, HW.out⟩
  by_cases h2 : 100 < t.outs.length
  · have h1' : ¬ (100 : Int) < (t.ins.length : Int) := by omega
    have h2' : (100 : Int) < (t.outs.length : Int) := by omega
    have HX := Lib.hid (show greatB t = true by unfold greatB; simp [h2])
    go_enter Tryd.func6, Tryd.ntmps6
    go_wp2_with fail
    go_ret
    rw [← hw1]
    exact ⟨ret_bool HX.out.symm, HW.out⟩
  have h1' : ¬ (100 : Int) < (t.ins.length : Int) := by omega
  have h2' : ¬ (100 : Int) < (t.outs.length : Int) := by omega
  have HX := Lib.hid (show greatB t = t.ins.any (fun x => decide (1000 < x.key.length)) by unfold greatB; rw [decide_eq_false h1, decide_eq_false h2]; rfl)
  clear h1 h2
  have k1 : w1.cell? ⟨w.heap.size, 1, none⟩ = some (.slice A t.ins.length c) := (HK.out.cell 1).trans rfl
  go_enter Tryd.func6, Tryd.ntmps6
  go_wp2_with fail
  rw [← hw1]
  clear hw1
  go_loopw [18] (fun i wr => ∃ k : Nat, k ≤ t.ins.length ∧ i = .int .i64 (k : Int) ∧ Hid ((t.ins.take k).any (fun x => decide (1000 < x.key.length)) = false) ∧ Hid (Below w1.heap.size w1 wr)) (fun i _ => t.ins.length - (intOf i).toNat)
  case atStart => exact ⟨0, Nat.zero_le _, rfl, Lib.hid rfl, Lib.hid (Below.refl _ _)⟩
  case round =>
    obtain ⟨k, hk, rfl, ha, hb⟩ := hrel
    by_cases hlt : k < t.ins.length
    · obtain ⟨b, off, Ak, ck, rfl, _, hr, hok, hkc, hkm, _⟩ := (HI1.out.below (hb.out.mono (by rw [HZ.out]; omega))).range hlt
      have HN := Lib.hid (fun hp => any_take' hlt (fun x => decide (1000 < x.key.length)) ha.out hp)
      have HXX : Hid (1000 < t.ins[k].key.length → greatB t = true) := Lib.hid fun hp => by
        rw [HX.out, List.any_eq_true]; exact ⟨t.ins[k], List.getElem_mem hlt, by simpa using hp⟩
      have HR := Lib.hid hr
      have HOK := Lib.hid hok
      clear hr hok
      generalize t.ins[k] = x at *
      have HL := Lib.hid (inCells_len HOK.out (.slice Ak x.key.length ck))
      have HKY := Lib.hid (in_key (Bk.new _ 57 (inCells x (.slice Ak x.key.length ck)).toArray : Bk (wr.alloc (.cells (inCells x (.slice Ak x.key.length ck)).toArray 57)) wr.heap.size _ _) HOK.out)
      have HONE := Lib.hid (inCells_one x Ak x.key.length ck)
      have hkl : x.key.length ≤ 9223372036854775807 := by unfold maxLen at hkm; omega
      obtain ⟨ky, hky⟩ : ∃ ky, ky = x.key.length := ⟨_, rfl⟩
      rw [← hky] at HR HL HKY HONE hkl HN HXX hkc
      generalize hcs : inCells x (.slice Ak ky ck) = cs at *
      have HZI := zero_in
      have HZL := Lib.hid zeroIn_len
      generalize (inCells ⟨List.replicate 32 0, 0, []⟩ (.slice none 0 0)).toArray = zs at *
      have HZI := Lib.hid HZI
      clear hky hcs
      go_wp2_with (refine wpList_elem rfl rfl rfl 57 (.tmp 20) (.tmp 4) (.tmp 21) rfl rfl rfl b (off + k * 34) (by rfl) cs _ HR.out Tryd.underlying57 rfl (by rw [HL.out]; exact size_in) zs HZI.out (by rw [HZL.out, HL.out]) HONE.out (by rfl) (by rfl) ?_; have hcell := HKY.out)
      · have h64 : (1000 : Int) < (ky : Int) := by assumption
        go_ret
        exact ⟨ret_bool (HXX.out (by omega)).symm, HW.out.trans ((hb.out.alloc hb.out.size _).mono (by rw [HZ.out]; omega))⟩
      · have h64 : (ky : Int) ≤ 1000 := by assumption
        go_roundw
        case rel => exact ⟨k + 1, by omega, by go_num, Lib.hid (HN.out (by rw [decide_eq_false_iff_not]; omega)), Lib.hid (hb.out.alloc hb.out.size _)⟩
        case measure => simp [intOf]; omega
    · have hkl : k = t.ins.length := by omega
      have HA := Lib.hid (show t.ins.any (fun x => decide (1000 < x.key.length)) = false by have := ha.out; rwa [hkl, List.take_of_length_le (Nat.le_refl _)] at this)
      have HB := Lib.hid (HW.out.trans (hb.out.mono (by rw [HZ.out]; omega)))
      clear hkl ha k1 hb
      go_wp2_with fail
      go_ret
      exact ⟨ret_bool (by rw [HX.out, HA.out]), HB.out⟩
end Go.Proofs.YtmekgidfdlckoaaDoor.T7
