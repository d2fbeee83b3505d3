/- The document's points of a transaction. -/
import Derived.Test.YtacbibflhdmcoaaDoorTxRId
namespace Go.Proofs.YtacbibflhdmcoaaDoor.T7
open Go.RowKit Go.Deep
set_option linter.unusedVariables false
set_option linter.unusedSimpArgs false
set_option maxRecDepth 100000
attribute [local go_sem ↓] Go.wp_at_zero Go.wp_at_succ

set_option maxHeartbeats 2000000 in
theorem rpoints_any (t : Txs.Tx) (A A' : Option Addr) (c c' B : Nat) (w : World) (h : TxAt w B t A c A' c') (hB : B ≤ w.heap.size) (hn : t.ins.length ≤ 1000) :
    Calls Tryd.prog 37 #[txV t A c A' c'] w fun e w' => ∃ A1 c1, e = .returned (.slice A1 t.ins.length c1) ∧ t.ins.length ≤ c1 ∧ c1 ≤ maxLen ∧ PtsAt w' w'.heap.size A1 t.ins ∧ Below w.heap.size w w' := by
  have HI := Lib.hid h.ins
  have HOKS := Lib.hid h.ok.2.1
  unfold txV
  generalize hv : t.version = ver at *
  clear hv h
  obtain ⟨n, hn'⟩ : ∃ n, n = t.ins.length := ⟨_, rfl⟩
  rw [← hn'] at hn ⊢
  have HN := Lib.hid hn'
  obtain ⟨w1, hw1⟩ : ∃ w1, w1 = w.alloc (.cells #[.int .u32 (ver : Int), .slice A n c, .slice A' t.outs.length c'] 35) := ⟨_, rfl⟩
  have HK := Lib.hid (show Bk w1 w.heap.size 35 #[.int .u32 (ver : Int), .slice A n c, .slice A' t.outs.length c'] by rw [hw1]; exact Bk.new _ _ _)
  have HZ := Lib.hid (show w1.heap.size = w.heap.size + 1 by rw [hw1]; simp)
  have HW := Lib.hid (show Below w.heap.size w w1 by rw [hw1]; exact Joins.below_alloc1 _ _)
  have k1 : w1.cell? ⟨w.heap.size, 1, none⟩ = some (.slice A n c) := (HK.out.cell 1).trans rfl
  have hz1 : w.heap.size + 1 ≤ w1.heap.size := by rw [HZ.out]; exact Nat.le_refl _
  obtain ⟨ic, hi, hz, hz', hz''⟩ := info_parts pt_info
  obtain ⟨zc, hzc⟩ : ∃ zc, zc = (ptCells ⟨List.replicate 32 0, 0, []⟩).toArray := ⟨_, rfl⟩
  rw [← hzc] at hz
  have Ci := Lib.hid hi
  have Cz := Lib.hid hz
  have Cz1 := Lib.hid hz'
  have Cz2 := Lib.hid hz''
  have CZL := Lib.hid (show (Value.agg zc).cells.size = 33 by rw [hzc]; simp [ptCells, Value.cells])
  have CZC := Lib.hid (show (Tryd.prog.info? 78).map (·.zero) = some (some (.agg zc)) by rw [hzc]; exact zero_pt)
  clear hn' hi hz hz' hz'' hzc
  go_enter Tryd.func37, Tryd.ntmps37
  go_upto_region 1 with (fail)
  rw [← hw1]
  clear hw1
  go_wp2_with fail
  go_loopw [3, 9] (fun v iv wr => ∃ k : Nat, k ≤ n ∧ iv = .int .i64 (k : Int) ∧ Hid (wr.ownsRow w1.heap.size 78 33 v k ((t.ins.take k).flatMap ptCells)) ∧ Hid (Below w1.heap.size w1 wr)) (fun _ iv _ => n - (intOf iv).toNat)
  case atStart => exact ⟨0, Nat.zero_le _, rfl, Lib.hid (World.ownsRow_nil _ _ _ _), Lib.hid (Below.refl _ _)⟩
  case round =>
    obtain ⟨k, hk, rfl, hrow, hbr⟩ := hrel
    have hzr := hbr.out.size
    have hbw : Hid (Below w.heap.size w wr) := Lib.hid (HW.out.trans (hbr.out.mono (by omega)))
    by_cases hlt : k < n
    · have hlt1 : k < t.ins.length := by rw [← HN.out]; exact hlt
      obtain ⟨b, off, Ak, ck, rfl, hbB, hr, hok, hkc, hkm, _⟩ := (HI.out.below (hbw.out.mono hB)).range hlt1
      have HTK := Lib.hid (show (t.ins.take (k + 1)).flatMap ptCells = (t.ins.take k).flatMap ptCells ++ ptCells t.ins[k] by
        rw [List.take_succ_eq_append_getElem hlt1, List.flatMap_append]; simp)
      have i1 : (0 : Int) ≤ (k : Int) := by omega
      have i2 : (k : Int) < (n : Int) := by omega
      generalize t.ins[k] = x at *
      obtain ⟨wx, hwx⟩ : ∃ wx, wx = wr.alloc (.cells (inCells x (.slice Ak x.key.length ck)).toArray 91) := ⟨_, rfl⟩
      have HBX := Lib.hid (show Below wr.heap.size wr wx by rw [hwx]; exact Joins.below_alloc1 _ _)
      have HB3 : Bk wx wr.heap.size 91 (inCells x (.slice Ak x.key.length ck)).toArray := by rw [hwx]; exact Bk.new _ _ _
      have HRP := Lib.hid (by have := bk_range HB3; rw [in_ptCells] at this; exact range_head this : wx.rangeAt wr.heap.size 0 (ptCells x))
      have hzx := HBX.out.size
      have L1 := Lib.hid (ptCells_len hok)
      have HPO := Lib.hid (ptCells_one x)
      have HR := Lib.hid hr
      have HL := Lib.hid (inCells_len hok (.slice Ak x.key.length ck))
      have HONE := Lib.hid (inCells_one x Ak x.key.length ck)
      generalize hcs : inCells x (.slice Ak x.key.length ck) = xs at *
      generalize ptCells x = ps at *
      have HZI := zero_in
      have HZL := Lib.hid zeroIn_len
      generalize (inCells ⟨List.replicate 32 0, 0, []⟩ (.slice none 0 0)).toArray = zs at *
      have HZI := Lib.hid HZI
      obtain ⟨acc, hacc⟩ : ∃ acc, acc = (t.ins.take k).flatMap ptCells := ⟨_, rfl⟩
      have HRX := Lib.hid (own_below hrow.out HBX.out)
      rw [← hacc] at HRX HTK
      have HB34 := Lib.hid (Joins.below_alloc1 wx (.cells ps.toArray 78))
      have HRA := Lib.hid (own_below HRX.out HB34.out)
      have HPL := Lib.hid (show ps.length = 1 * 33 by rw [L1.out])
      have HZX2 := Lib.hid (show w1.heap.size ≤ (wx.alloc (.cells ps.toArray 78)).heap.size by have := HB34.out.size; omega)
      clear hcs hr hok hkc hkm HB3 k1 hacc HRX
      go_wp2_with (first
        | (refine wpList_elem rfl rfl rfl 91 (.tmp 11) (.tmp 5) (.tmp 12) rfl rfl rfl b (off + k * 34) (by rfl) xs _ HR.out Tryd.underlying91 rfl (by rw [HL.out]; exact size_in) zs HZI.out (by rw [HZL.out, HL.out]) HONE.out (by rfl) (by rfl) ?_; rw [← hwx]; clear hwx)
        | (refine wpList_load_mid rfl 78 (.tmp 14) rfl wr.heap.size 0 (by rfl) ps _ HRP.out Tryd.underlying78 rfl (by rw [L1.out]; exact size_pt) ?_)
        | (refine wpList_buildOne rfl 75 78 (.tmp 15) rfl ps.toArray (by rfl) Tryd.underlying75 (by rw [List.size_toArray, L1.out]; exact size_pt) zc CZC.out (by rw [List.size_toArray, L1.out]; omega) (by rw [List.size_toArray, L1.out]; omega) ?_)
        | (at_builtin; refine wpList_app _ rfl (.tmp 13) (.tmp 16) _ rfl w1.heap.size 78 ic _ 33 36 Tryd.underlying75 Ci.out Cz.out Cz1.out Cz2.out CZL.out (by decide) u3 k acc rfl HRA.out (some ⟨wx.heap.size, 0, none⟩) 1 1 ps rfl HPL.out (Src.new _ _ _) HPO.out (by unfold maxLen; omega) (by omega) HZX2.out ?_; intro v9 w9 hrow9 hg9 hat9))
      have hkp : Kp (fun i => u3.ownBlock = some i) (wx.alloc (.cells ps.toArray 78)) w9 := (Kp.refl _ _).grown hg9 (fun k hk _ => hk)
      have hbe : Below w1.heap.size w1 w9 := ((hbr.out.trans (HBX.out.mono hzr)).trans (HB34.out.mono (by omega))).trans (Kp.low_from7 hkp (B := w1.heap.size) (fun i hi e => by have := (hrow.out.lt i e).1; omega) HZX2.out)
      have HBE := Lib.hid hbe
      have HR9 := Lib.hid hrow9
      clear hkp hbe hrow9 hg9 hat9
      go_roundw
      case rel => exact ⟨k + 1, by omega, by go_num, by rw [HTK.out]; exact HR9, HBE⟩
      case measure => simp [intOf]; omega
    · obtain rfl : k = n := by omega
      have hrow' := hrow.out
      rw [List.take_of_length_le (by rw [HN.out]; exact Nat.le_refl _)] at hrow'
      obtain ⟨A9, c9, rfl, hkl, hkc, hkm, hat9⟩ := At.of_own (R := IsPt) ptCells (fun x hx => ⟨ptCells_len (HOKS.out x hx), HOKS.out x hx, rfl⟩) (by omega) hrow'
      have HA := Lib.hid hat9
      clear hat9 hrow' hkl
      go_wp2_with fail
      go_ret
      exact ⟨_, _, rfl, hkc, hkm, HA.out, hbw.out⟩
end Go.Proofs.YtacbibflhdmcoaaDoor.T7
