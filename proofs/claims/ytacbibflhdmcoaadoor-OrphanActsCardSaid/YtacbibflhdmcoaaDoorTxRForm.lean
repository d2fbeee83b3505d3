/- The document's form. -/
import Derived.Test.YtacbibflhdmcoaaDoorTxSame
namespace Go.Proofs.YtacbibflhdmcoaaDoor.T7
open Go.RowKit Go.Deep
set_option linter.unusedVariables false
set_option linter.unusedSimpArgs false
set_option maxRecDepth 100000
attribute [local go_sem ↓] Go.wp_at_zero Go.wp_at_succ

set_option maxHeartbeats 1000000 in
theorem rform_any (t : Txs.Tx) (A A' : Option Addr) (c c' B : Nat) (w : World) (h : TxAt w B t A c A' c') (hB : B ≤ w.heap.size) :
    Calls Tryd.prog 58 #[txV t A c A' c'] w fun e w' => e = .returned (.bool (Txs.form t)) ∧ Below w.heap.size w w' := by
  have hmi := Nat.le_trans h.ic h.im
  have hmo := Nat.le_trans h.oc h.om
  unfold maxLen at hmi hmo
  have HI := Lib.hid h.ins
  unfold txV
  generalize hv : t.version = ver at *
  clear hv h
  obtain ⟨w1, hw1⟩ : ∃ w1, w1 = w.alloc (.cells #[.int .u32 (ver : Int), .slice A t.ins.length c, .slice A' t.outs.length c'] 35) := ⟨_, rfl⟩
  have HK := Lib.hid (show Bk w1 w.heap.size 35 #[.int .u32 (ver : Int), .slice A t.ins.length c, .slice A' t.outs.length c'] by rw [hw1]; exact Bk.new _ _ _)
  have HZ := Lib.hid (show w1.heap.size = w.heap.size + 1 by rw [hw1]; simp)
  have HW := Lib.hid (show Below w.heap.size w w1 by rw [hw1]; exact Joins.below_alloc1 _ _)
  have HI1 := Lib.hid (show InsAt w1 B A t.ins from HI.out.below (HW.out.mono hB))
  have k1 : w1.cell? ⟨w.heap.size, 1, none⟩ = some (.slice A t.ins.length c) := (HK.out.cell 1).trans rfl
  by_cases h8 : ¬ t.ins.length ≤ 8
  · have h8' : (8 : Int) < (t.ins.length : Int) := by omega
    have HF := Lib.hid (show Txs.form t = false by
      rw [Bool.eq_false_iff]; intro e; exact h8 (Txs.form_iff.1 e).2.1)
    clear h8
    go_enter Tryd.func58, Tryd.ntmps58
    go_wp2_with fail
    go_ret
    rw [← hw1]
    exact ⟨ret_bool HF.out.symm, HW.out⟩
  by_cases h9 : ¬ t.outs.length ≤ 8
  · have h8' : ¬ (8 : Int) < (t.ins.length : Int) := by omega
    have h9' : (8 : Int) < (t.outs.length : Int) := by omega
    have HF := Lib.hid (show Txs.form t = false by
      rw [Bool.eq_false_iff]; intro e; exact h9 (Txs.form_iff.1 e).2.2)
    clear h8 h9
    go_enter Tryd.func58, Tryd.ntmps58
    go_wp2_with fail
    go_ret
    rw [← hw1]
    exact ⟨ret_bool HF.out.symm, HW.out⟩
  have h8' : ¬ (8 : Int) < (t.ins.length : Int) := by omega
  have h9' : ¬ (8 : Int) < (t.outs.length : Int) := by omega
  have HFT := Lib.hid (show t.ins.all (fun x => decide (x.key.length ≤ 64)) = true → Txs.form t = true by
    intro h; unfold Txs.form; rw [h, decide_eq_true (by omega : t.ins.length ≤ 8), decide_eq_true (by omega : t.outs.length ≤ 8)]; rfl)
  clear h8 h9
  go_enter Tryd.func58, Tryd.ntmps58
  go_wp2_with fail
  rw [← hw1]
  clear hw1
  go_wp2_with fail
  go_loopw [18] (fun i wr => ∃ k : Nat, k ≤ t.ins.length ∧ i = .int .i64 (k : Int) ∧ Hid ((t.ins.take k).all (fun x => decide (x.key.length ≤ 64)) = true) ∧ Hid (Below w1.heap.size w1 wr)) (fun i _ => t.ins.length - (intOf i).toNat)
  case atStart => exact ⟨0, Nat.zero_le _, rfl, Lib.hid rfl, Lib.hid (Below.refl _ _)⟩
  case round =>
    obtain ⟨k, hk, rfl, ha, hb⟩ := hrel
    by_cases hlt : k < t.ins.length
    · obtain ⟨b, off, Ak, ck, rfl, _, hr, hok, hkc, hkm, _⟩ := (HI1.out.below (hb.out.mono (by rw [HZ.out]; omega))).range hlt
      have HN := Lib.hid (fun hp => all_take' hlt (fun x => decide (x.key.length ≤ 64)) ha.out hp)
      have HX : Hid (¬ t.ins[k].key.length ≤ 64 → Txs.form t = false) := Lib.hid fun hp => by
        unfold Txs.form
        rw [show t.ins.all (fun x => decide (x.key.length ≤ 64)) = false from by rw [List.all_eq_false]; exact ⟨t.ins[k], List.getElem_mem hlt, by simpa using hp⟩]
        rfl
      have HR := Lib.hid hr
      have HOK := Lib.hid hok
      clear hr hok
      generalize t.ins[k] = x at *
      have HL := Lib.hid (inCells_len HOK.out (.slice Ak x.key.length ck))
      have HKY := Lib.hid (in_key (Bk.new _ 91 (inCells x (.slice Ak x.key.length ck)).toArray : Bk (wr.alloc (.cells (inCells x (.slice Ak x.key.length ck)).toArray 91)) wr.heap.size _ _) HOK.out)
      have HONE := Lib.hid (inCells_one x Ak x.key.length ck)
      have hkl : x.key.length ≤ 9223372036854775807 := by unfold maxLen at hkm; omega
      obtain ⟨ky, hky⟩ : ∃ ky, ky = x.key.length := ⟨_, rfl⟩
      rw [← hky] at HR HL HKY HONE hkl HN HX hkc
      generalize hcs : inCells x (.slice Ak ky ck) = cs at *
      have HZI := zero_in
      have HZL := Lib.hid zeroIn_len
      generalize (inCells ⟨List.replicate 32 0, 0, []⟩ (.slice none 0 0)).toArray = zs at *
      have HZI := Lib.hid HZI
      clear hky hcs
      go_wp2_with (refine wpList_elem rfl rfl rfl 91 (.tmp 20) (.tmp 4) (.tmp 21) rfl rfl rfl b (off + k * 34) (by rfl) cs _ HR.out Tryd.underlying91 rfl (by rw [HL.out]; exact size_in) zs HZI.out (by rw [HZL.out, HL.out]) HONE.out (by rfl) (by rfl) ?_; have hcell := HKY.out)
      · have h64 : (64 : Int) < (ky : Int) := by assumption
        go_ret
        exact ⟨ret_bool (HX.out (by omega)).symm, HW.out.trans ((hb.out.alloc hb.out.size _).mono (by rw [HZ.out]; omega))⟩
      · have h64 : (ky : Int) ≤ 64 := by assumption
        go_roundw
        case rel => exact ⟨k + 1, by omega, by go_num, Lib.hid (HN.out (by rw [decide_eq_true_eq]; omega)), Lib.hid (hb.out.alloc hb.out.size _)⟩
        case measure => simp [intOf]; omega
    · have hkl : k = t.ins.length := by omega
      have HA := Lib.hid (show t.ins.all (fun x => decide (x.key.length ≤ 64)) = true by have := ha.out; rwa [hkl, List.take_of_length_le (Nat.le_refl _)] at this)
      have HB := Lib.hid (HW.out.trans (hb.out.mono (by rw [HZ.out]; omega)))
      have HF := Lib.hid (HFT.out HA.out)
      clear hkl ha k1 hb
      go_wp2_with fail
      go_ret
      exact ⟨ret_bool HF.out.symm, HB.out⟩
end Go.Proofs.YtacbibflhdmcoaaDoor.T7
