/- The points that a transaction spends. -/
import Derived.Test.YtacbibflhdmcoaaDoorTxPtsP
namespace Go.Proofs.YtacbibflhdmcoaaDoor.T7
open Go.RowKit Go.Deep
set_option linter.unusedVariables false
set_option linter.unusedSimpArgs false
set_option maxRecDepth 100000
attribute [local go_sem ↓] Go.wp_at_zero Go.wp_at_succ

set_option maxHeartbeats 2000000 in
theorem points_any (t : Txs.Tx) (A A' : Option Addr) (c c' B : Nat) (w : World) (h : TxAt w B t A c A' c') (hB : B ≤ w.heap.size) (hn : t.ins.length ≤ 1000) :
    Calls Tryd.prog 32 #[txV t A c A' c'] w fun e w' => ∃ A1 c1, e = .returned (.slice A1 t.ins.length c1) ∧ t.ins.length ≤ c1 ∧ c1 ≤ maxLen ∧ PtsAt w' w'.heap.size A1 t.ins ∧ Below w.heap.size w w' := by
  have HI := Lib.hid h.ins
  have HOKS := Lib.hid h.ok.2.1
  unfold txV
  generalize hv : t.version = ver at *
  clear hv h
  obtain ⟨n, hn'⟩ : ∃ n, n = t.ins.length := ⟨_, rfl⟩
  rw [← hn'] at hn ⊢
  have HN := Lib.hid hn'
  obtain ⟨w1, hw1⟩ : ∃ w1, w1 = w.alloc (.cells #[.int .u32 (ver : Int), .slice A n c, .slice A' t.outs.length c'] 35) := ⟨_, rfl⟩
  have HK := Lib.hid (show Bk w1 w.heap.size 35 #[.int .u32 (ver : Int), .slice A n c, .slice A' t.outs.length c'] by rw [hw1]; exact Bk.new _ _ _)
  have HZ := Lib.hid (show w1.heap.size = w.heap.size + 1 by rw [hw1]; simp)
  have HW := Lib.hid (show Below w.heap.size w w1 by rw [hw1]; exact Joins.below_alloc1 _ _)
  have HI1 := Lib.hid (show InsAt w1 B A t.ins from HI.out.below (HW.out.mono hB))
  have k1 : w1.cell? ⟨w.heap.size, 1, none⟩ = some (.slice A n c) := (HK.out.cell 1).trans rfl
  have hmk := run_make_rows (P := Tryd.prog) 75 78 _ 33 36 Tryd.underlying75 pt_info .i64 .i64 n (by omega) (by omega)
  obtain ⟨z0, hz0⟩ : ∃ z0, z0 = madeCells (Value.agg (ptCells ⟨List.replicate 32 0, 0, []⟩).toArray).cells (n * 33) := ⟨_, rfl⟩
  rw [← hz0] at hmk
  obtain ⟨cs0, hcs0⟩ : ∃ cs0, cs0 = z0.toList := ⟨_, rfl⟩
  have HZL := Lib.hid (show cs0.length = n * 33 by rw [hcs0, hz0, Array.length_toList, size_madeCells])
  have hz1 : z0 = cs0.toArray := by rw [hcs0]
  rw [hz1] at hmk
  clear hz0 hcs0 hz1 hn'
  go_enter Tryd.func32, Tryd.ntmps32
  go_upto_region 1 with (fail)
  rw [← hw1]
  clear hw1
  go_upto_region 2 with (fail)
  rw [HZ.out]
  obtain ⟨g, hg⟩ : ∃ g, g = w.heap.size + 1 := ⟨_, rfl⟩
  obtain ⟨w2, hw2⟩ : ∃ w2, w2 = w1.alloc (.cells cs0.toArray 78) := ⟨_, rfl⟩
  rw [← hw2, ← hg]
  have HK2 := Lib.hid (show Bk w2 g 78 cs0.toArray by rw [hw2, hg, ← HZ.out]; exact Bk.new _ _ _)
  have HB2 := Lib.hid (show Below w.heap.size w w2 by rw [hw2]; exact HW.out.alloc HW.out.size _)
  have k2 : w2.cell? ⟨w.heap.size, 1, none⟩ = some (.slice A n c) := by rw [hw2]; exact ((HK.out.alloc _).cell 1).trans rfl
  have hgw : w.heap.size < g := by omega
  clear hw2 hg k1 hmk
  go_wp2_with fail
  go_loopw [13] (fun iv wr => ∃ (k : Nat) (cs : List Value), k ≤ n ∧ iv = .int .i64 (k : Int) ∧ Hid (Bk wr g 78 cs.toArray) ∧ Hid (RowTo ptCells 33 n k t.ins cs) ∧ Hid (Below w.heap.size w wr)) (fun iv _ => n - (intOf iv).toNat)
  case atStart => exact ⟨0, cs0, Nat.zero_le _, rfl, HK2, Lib.hid (RowTo.zero _ _ _ _ _ HZL.out), HB2⟩
  case round =>
    obtain ⟨k, cs, hk, rfl, hbk, hrow, hb⟩ := hrel
    have hgl := hbk.out.lt
    by_cases hlt : k < n
    · have hlt1 : k < t.ins.length := by rw [← HN.out]; exact hlt
      obtain ⟨b, off, Ak, ck, rfl, hbB, hr, hok, hkc, hkm, _⟩ := (HI.out.below (hb.out.mono hB)).range hlt1
      have HNX := Lib.hid (hrow.out.next hlt1 hlt (ptCells_len hok))
      have i1 : (0 : Int) ≤ (k : Int) := by omega
      have i2 : (k : Int) < (n : Int) := by omega
      generalize t.ins[k] = x at *
      obtain ⟨wx, hwx⟩ : ∃ wx, wx = wr.alloc (.cells (inCells x (.slice Ak x.key.length ck)).toArray 91) := ⟨_, rfl⟩
      have HBX := Lib.hid (show Below w.heap.size w wx by rw [hwx]; exact hb.out.alloc hb.out.size _)
      have HKX := Lib.hid (show Bk wx g 78 cs.toArray by rw [hwx]; exact hbk.out.alloc _)
      have HB3 : Bk wx wr.heap.size 91 (inCells x (.slice Ak x.key.length ck)).toArray := by rw [hwx]; exact Bk.new _ _ _
      have HRP := Lib.hid (by have := bk_range HB3; rw [in_ptCells] at this; exact range_head this : wx.rangeAt wr.heap.size 0 (ptCells x))
      have L1 := Lib.hid (ptCells_len hok)
      have HPO := Lib.hid (all_one (ptCells_one x))
      have HR := Lib.hid hr
      have HL := Lib.hid (inCells_len hok (.slice Ak x.key.length ck))
      have HONE := Lib.hid (inCells_one x Ak x.key.length ck)
      generalize hcs : inCells x (.slice Ak x.key.length ck) = xs at *
      generalize ptCells x = ps at *
      have HTH := Lib.hid (bk_there HKX.out (k * 33) ps.toArray.size (by rw [hrow.out.len]; have := L1.out; simp; have := Nat.mul_le_mul_right 33 (show k + 1 ≤ n by omega); omega))
      have HZI := zero_in
      have HZL := Lib.hid zeroIn_len
      generalize (inCells ⟨List.replicate 32 0, 0, []⟩ (.slice none 0 0)).toArray = zs at *
      have HZI := Lib.hid HZI
      clear hcs hr hok hkc hkm HB3 k2
      go_upto_region 5 with (refine wpList_elem2 rfl rfl rfl rfl 91 (.tmp 16) (.tmp 5) (.tmp 17) (.tmp 15) rfl rfl rfl rfl b (off + k * 34) (by rfl) xs _ HR.out Tryd.underlying91 rfl (by rw [HL.out]; exact size_in) zs HZI.out (by rw [HZL.out, HL.out]) HONE.out (.int .i64 (k : Int)) (by rfl) (by rfl) (by rfl) ?_)
      rw [← hwx]
      clear hwx
      go_wp2_with (first
        | (refine wpList_load_mid rfl 78 (.tmp 20) rfl wr.heap.size 0 (by rfl) ps _ HRP.out Tryd.underlying78 rfl (by rw [L1.out]; exact size_pt) ?_)
        | (refine wpList_store_mid rfl 78 (.tmp 22) (.tmp 21) rfl g (k * 33) ps.toArray (by rfl) (by rfl) HTH.out (by rw [List.size_toArray, L1.out]; exact size_pt) HPO.out ?_))
      go_roundw
      case rel =>
        exact ⟨k + 1, _, by omega, by go_num, Lib.hid (bk_setCells ps (k * 33) wx cs HKX.out (by rw [hrow.out.len, L1.out]; have := Nat.mul_le_mul_right 33 (show k + 1 ≤ n by omega); omega)), HNX, Lib.hid (below_setCells (Nat.le_of_lt hgw) _ _ _ HBX.out)⟩
      case measure => simp [intOf]; omega
    · obtain rfl : k = n := by omega
      have hcs := hrow.out.all HN.out.symm
      have HA := Lib.hid (show PtsAt wr wr.heap.size (some ⟨g, 0, none⟩) t.ins from At.of_bk ptCells (fun x hx => ⟨ptCells_len (HOKS.out x hx), HOKS.out x hx, rfl⟩) (by rw [← hcs]; exact hbk.out))
      clear hcs
      go_wp2_with fail
      go_ret
      exact ⟨_, _, rfl, Nat.le_refl _, by unfold maxLen; omega, HA.out, hb.out⟩
end Go.Proofs.YtacbibflhdmcoaaDoor.T7
