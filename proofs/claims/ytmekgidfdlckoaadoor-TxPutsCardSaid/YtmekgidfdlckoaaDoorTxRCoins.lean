/- The document's coins of a transaction. -/
import Derived.Test.YtmekgidfdlckoaaDoorTxRId
namespace Go.Proofs.YtmekgidfdlckoaaDoor.T7
open Go.RowKit Go.Deep
set_option linter.unusedVariables false
set_option linter.unusedSimpArgs false
set_option maxRecDepth 100000
attribute [local go_sem ↓] Go.wp_at_zero Go.wp_at_succ

theorem zero_coin7 : (Tryd.prog.info? 47).map (·.zero) = some (some (.agg (coinCells (List.replicate 32 0) (⟨0, List.replicate 32 0⟩, 0)).toArray)) := by kernel_rfl
set_option maxHeartbeats 2000000 in
theorem rcoins_no (t : Txs.Tx) (A A' : Option Addr) (c c' B : Nat) (w : World) (hlay : Laid w) (h : TxAt w B t A c A' c') (hB : B ≤ w.heap.size) (hf : Txs.form t = false) :
    Calls Tryd.prog 14 #[txV t A c A' c'] w fun e w' => e = .returned (.tuple #[.slice none 0 0, .int .i64 5]) ∧ Below w.heap.size w w' := by
  have HP := fun W hl hb1 hb2 => rid_any t A A' c c' B W hl (h.below hb1) hb2
  have hil := id_len t
  unfold Txs.idErr at HP
  simp only [hf, Bool.false_eq_true, if_false] at HP
  have HL := Lib.hid hlay
  unfold txV at HP ⊢
  obtain ⟨zs, hzs⟩ : ∃ zs, zs = bytesArr (List.replicate 32 (0 : UInt8)) := ⟨_, rfl⟩
  have HZ := Lib.hid (show (Tryd.prog.info? 34).map (·.zero) = some (some (.agg zs)) by rw [hzs]; exact zero_hash7)
  have HZL := Lib.hid (show zs.size = 32 by rw [hzs]; simp [bytesArr])
  obtain ⟨is, his⟩ : ∃ is, is = bytesArr (Txs.id t) := ⟨_, rfl⟩
  have HIL := Lib.hid (show is.size = 32 by rw [his]; simp [bytesArr, hil])
  have HI1 := Lib.hid (show is.all (·.oneCell') = true by rw [his]; simp [bytesArr, Value.oneCell', byteV])
  rw [← his] at HP
  have HPP := Lib.hid HP
  clear h hf HP hzs hil his hlay
  go_enter Tryd.func14, Tryd.ntmps14
  go_wp2_with fail
  refine (HPP.out _ (HL.out.below (Joins.below_alloc1 _ _)) (Below.mono (Joins.below_alloc1 _ _) hB) (by simp; omega)).mono ?_
  rintro e w3 ⟨rfl, hb3⟩
  have HB3 := Lib.hid ((Joins.below_alloc1 w (.cells #[.int .u32 (t.version : Int), .slice A t.ins.length c, .slice A' t.outs.length c'] 26)).trans (hb3.mono (by simp)))
  clear hb3
  go_wp2_with (first
    | (refine wpList_allocOf rfl 34 rfl zs HZ.out ?_)
    | (refine wpList_store_row rfl 34 (.tmp 4) (.tmp 12) rfl w3.heap.size is (by rfl) (by rfl) 34 zs ?hg (by rw [HIL.out]; exact size_hash) (by rw [HIL.out]; exact HZL.out) HI1.out ?_))
  case hg => exact Bk.new _ _ _
  go_ret2
  exact ⟨rfl, below_setRow (HB3.out.alloc HB3.out.size _) HB3.out.size _⟩
set_option maxHeartbeats 4000000 in
theorem rcoins_yes (t : Txs.Tx) (A A' : Option Addr) (c c' B : Nat) (w : World) (hlay : Laid w) (h : TxAt w B t A c A' c') (hB : B ≤ w.heap.size) (hf : Txs.form t = true) :
    Calls Tryd.prog 14 #[txV t A c A' c'] w fun e w' => ∃ A1 c1, e = .returned (.tuple #[.slice A1 t.outs.length c1, .int .i64 0]) ∧ t.outs.length ≤ c1 ∧ c1 ≤ maxLen ∧ CoinsAt w' w'.heap.size A1 (Txs.id t) t.outs.zipIdx ∧ Below w.heap.size w w' := by
  have HP := fun W hl hb1 hb2 => rid_any t A A' c c' B W hl (h.below hb1) hb2
  have hil := id_len t
  unfold Txs.idErr at HP
  simp only [hf, if_true] at HP
  have HL := Lib.hid hlay
  have hO := h.outs
  have hn8 : t.outs.length ≤ 8 := (Txs.form_iff.1 hf).2.2
  unfold txV at HP ⊢
  obtain ⟨zs, hzs⟩ : ∃ zs, zs = bytesArr (List.replicate 32 (0 : UInt8)) := ⟨_, rfl⟩
  have HZ := Lib.hid (show (Tryd.prog.info? 34).map (·.zero) = some (some (.agg zs)) by rw [hzs]; exact zero_hash7)
  have HZL := Lib.hid (show zs.size = 32 by rw [hzs]; simp [bytesArr])
  obtain ⟨id, hid'⟩ : ∃ id, id = Txs.id t := ⟨_, rfl⟩
  rw [← hid'] at HP hil ⊢
  obtain ⟨is, his⟩ : ∃ is, is = bytesArr id := ⟨_, rfl⟩
  have HIL := Lib.hid (show is.size = 32 by rw [his]; simp [bytesArr, hil])
  have HI1 := Lib.hid (show is.all (·.oneCell') = true by rw [his]; simp [bytesArr, Value.oneCell', byteV])
  rw [← his] at HP
  have HPP := Lib.hid HP
  have HID := Lib.hid hil
  have HIS := Lib.hid his
  have HO := Lib.hid hO
  have HOKS := Lib.hid h.ok.2.2
  obtain ⟨n, hn⟩ : ∃ n, n = t.outs.length := ⟨_, rfl⟩
  rw [← hn] at HPP hn8 ⊢
  have HN := Lib.hid hn
  clear h hf HP hzs hil his hlay hO hn hid'
  go_enter Tryd.func14, Tryd.ntmps14
  go_wp2_with fail
  refine (HPP.out _ (HL.out.below (Joins.below_alloc1 _ _)) (Below.mono (Joins.below_alloc1 _ _) hB) (by simp; omega)).mono ?_
  rintro e w3 ⟨rfl, hb3⟩
  have HB3 := Lib.hid ((Joins.below_alloc1 w (.cells #[.int .u32 (t.version : Int), .slice A t.ins.length c, .slice A' n c'] 26)).trans (hb3.mono (by simp)))
  have HT3 := Lib.hid (Bk.below (Bk.new w 26 #[.int .u32 (t.version : Int), .slice A t.ins.length c, .slice A' n c']) hb3 (by simp))
  have hz3 : w.heap.size + 1 ≤ w3.heap.size := by have := hb3.size; simpa using this
  clear hb3
  go_upto_region 4 with (first
    | (refine wpList_allocOf rfl 34 rfl zs HZ.out ?_)
    | (refine wpList_store_row rfl 34 (.tmp 4) (.tmp 12) rfl w3.heap.size is (by rfl) (by rfl) 34 zs ?hg (by rw [HIL.out]; exact size_hash) (by rw [HIL.out]; exact HZL.out) HI1.out ?_))
  case hg => exact Bk.new _ _ _
  obtain ⟨w4, hw4⟩ : ∃ w4, w4 = (w3.alloc (.cells zs 34)).setRow w3.heap.size is := ⟨_, rfl⟩
  have HH4 := Lib.hid (show Bk w4 w3.heap.size 34 (bytesArr id) by rw [hw4, ← HIS.out]; exact setRow_heap _ _ _ _ _ _ (Bk.new w3 _ zs))
  have hb34 : Below w3.heap.size w3 w4 := by rw [hw4]; exact below_setRow ((Below.refl _ _).alloc (Nat.le_refl _) _) (Nat.le_refl _) _
  have hz4 : w4.heap.size = w3.heap.size + 1 := by rw [hw4]; simp [World.setRow]
  have HB4 := Lib.hid (HB3.out.trans (hb34.mono (by omega)))
  have HT4 := Lib.hid (HT3.out.below hb34 (by omega))
  rw [← hw4]
  clear hw4 hb34 HT3
  obtain ⟨H, hH⟩ : ∃ H, H = w3.heap.size := ⟨_, rfl⟩
  rw [← hH] at HH4 ⊢
  have hHw : w.heap.size < H := by omega
  have hH4 : H < w4.heap.size := by omega
  have k2 : w4.cell? ⟨w.heap.size, 2, none⟩ = some (.slice A' n c') := (HT4.out.cell 2).trans rfl
  obtain ⟨ic, hi, hz, hz', hz''⟩ := info_parts coin_info
  obtain ⟨zc, hzc⟩ : ∃ zc, zc = (coinCells (List.replicate 32 0) (⟨0, List.replicate 32 0⟩, 0)).toArray := ⟨_, rfl⟩
  rw [← hzc] at hz
  have Ci := Lib.hid hi
  have Cz := Lib.hid hz
  have Cz1 := Lib.hid hz'
  have Cz2 := Lib.hid hz''
  have CZL := Lib.hid (show (Value.agg zc).cells.size = 66 by rw [hzc]; simp [coinCells, outCells, Value.cells])
  have CZC := Lib.hid (show (Tryd.prog.info? 47).map (·.zero) = some (some (.agg zc)) by rw [hzc]; exact zero_coin7)
  clear hH hz4 hi hz hz' hz'' hzc
  go_wp2_with fail
  go_loopw [6, 20] (fun v iv wr => ∃ k : Nat, k ≤ n ∧ iv = .int .i64 (k : Int) ∧ Hid (wr.ownsRow w4.heap.size 47 66 v k ((t.outs.zipIdx.take k).flatMap (coinCells id))) ∧ Hid (Below w4.heap.size w4 wr)) (fun _ iv _ => n - (intOf iv).toNat)
  case atStart => exact ⟨0, Nat.zero_le _, rfl, Lib.hid (World.ownsRow_nil _ _ _ _), Lib.hid (Below.refl _ _)⟩
  case round =>
    obtain ⟨k, hk, rfl, hrow, hbr⟩ := hrel
    have hzr := hbr.out.size
    have hbw : Hid (Below w.heap.size w wr) := Lib.hid (HB4.out.trans (hbr.out.mono (by omega)))
    have hHr : Hid (Bk wr H 34 (bytesArr id)) := Lib.hid (HH4.out.below hbr.out hH4)
    by_cases hlt : k < n
    · have hlt1 : k < t.outs.length := by rw [← HN.out]; exact hlt
      have hlt2 : k < t.outs.zipIdx.length := by simpa using hlt1
      obtain ⟨b, off, rfl, hbB, hr, hok⟩ := (OutsAt.range (At.below HO.out (hbw.out.mono hB)) hlt1)
      have hzi : t.outs.zipIdx[k]'hlt2 = (t.outs[k], k) := by simp
      have HTK := Lib.hid (show (t.outs.zipIdx.take (k + 1)).flatMap (coinCells id) = (t.outs.zipIdx.take k).flatMap (coinCells id) ++ coinCells id (t.outs[k], k) by
        rw [List.take_succ_eq_append_getElem hlt2, List.flatMap_append, hzi]; simp)
      have i1 : (0 : Int) ≤ (k : Int) := by omega
      have i2 : (k : Int) < (n : Int) := by omega
      have i3 : (k : Int) ≤ 4294967295 := by omega
      generalize t.outs[k] = x at *
      obtain ⟨wx, hwx⟩ : ∃ wx, wx = wr.alloc (.cells (outCells x).toArray 45) := ⟨_, rfl⟩
      have HBX := Lib.hid (show Below wr.heap.size wr wx by rw [hwx]; exact Joins.below_alloc1 _ _)
      have HHX := Lib.hid (hHr.out.below HBX.out hHr.out.lt)
      have HOX := Lib.hid (show Bk wx wr.heap.size 45 (outCells x).toArray by rw [hwx]; exact Bk.new _ _ _)
      have HRX := Lib.hid (own_below hrow.out HBX.out)
      have hzx := HBX.out.size
      have HR := Lib.hid hr
      have HL := Lib.hid (outCells_len hok)
      have HONE := Lib.hid (outCells_one x)
      have HBC := Lib.hid (built_coin id k x HID.out hok.2)
      have HBP := Lib.hid (built_pt7 ⟨id, k, []⟩ HID.out)
      have L1 := Lib.hid (coinCells_len (p := (x, k)) HID.out hok)
      have HPO := Lib.hid (coinCells_one id (x, k))
      have LI := Lib.hid (show (bytesArr id).size = 32 by simp [bytesArr, HID.out])
      generalize hbi : bytesArr id = ia at *
      generalize hcc : coinCells id (x, k) = ps at *
      generalize (ptCells ⟨id, k, []⟩).toArray = pa at *
      generalize hcs : outCells x = xs at *
      have HZO := zero_out
      have HZL2 := Lib.hid zeroOut_len
      generalize (outCells ⟨0, List.replicate 32 0⟩).toArray = zo at *
      have HZO := Lib.hid HZO
      obtain ⟨acc, hacc⟩ : ∃ acc, acc = (t.outs.zipIdx.take k).flatMap (coinCells id) := ⟨_, rfl⟩
      rw [← hacc] at HRX HTK
      have HB34 := Lib.hid (Joins.below_alloc1 wx (.cells ps.toArray 47))
      have HRA := Lib.hid (own_below HRX.out HB34.out)
      have HPL := Lib.hid (show ps.length = 1 * 66 by rw [L1.out])
      have hzx2 : w4.heap.size ≤ (wx.alloc (.cells ps.toArray 47)).heap.size := by have := HB34.out.size; omega
      have HZX2 := Lib.hid hzx2
      clear hcs hbi hcc hr hok hzi hacc hzx2 k2 HRX
      go_upto_region 8 with (refine wpList_elem2 rfl rfl rfl rfl 45 (.tmp 23) (.tmp 8) (.tmp 24) (.tmp 22) rfl rfl rfl rfl b (off + k * 33) (by rfl) xs _ HR.out Tryd.underlying45 rfl (by rw [HL.out]; exact size_out) zo HZO.out (by rw [HZL2.out, HL.out]) HONE.out (.int .i64 (k : Int)) (by rfl) (by rfl) (by rfl) ?_)
      rw [← hwx]
      clear hwx
      go_wp2_with (first
        | (refine wpList_load_row rfl 34 (.tmp 4) rfl H (by rfl) 34 ia (0, 0) _ HHX.out Tryd.underlying34 rfl (by rw [LI.out]; exact size_hash) ?_)
        | (refine wpList_built' rfl 42 #[(0, .tmp 26), (1, .tmp 28)] rfl pa ?hb1 ?_)
        | (refine wpList_load_row rfl 45 (.tmp 8) rfl wr.heap.size (by rfl) 45 xs.toArray (0, 0) _ HOX.out Tryd.underlying45 rfl (by rw [List.size_toArray, HL.out]; exact size_out) ?_)
        | (refine wpList_built' rfl 47 #[(0, .tmp 29), (1, .tmp 30)] rfl ps.toArray ?hb2 ?_)
        | (refine wpList_buildOne rfl 37 47 (.tmp 31) rfl ps.toArray (by rfl) Tryd.underlying37 (by rw [List.size_toArray, L1.out]; exact size_coin) zc CZC.out (by rw [List.size_toArray, L1.out]; omega) (by rw [List.size_toArray, L1.out]; omega) ?_)
        | (at_builtin; refine wpList_app _ rfl (.tmp 25) (.tmp 32) _ rfl w4.heap.size 47 ic _ 66 80 Tryd.underlying37 Ci.out Cz.out Cz1.out Cz2.out CZL.out (by decide) u6 k acc rfl HRA.out (some ⟨wx.heap.size, 0, none⟩) 1 1 ps rfl HPL.out (Src.new _ _ _) HPO.out (by unfold maxLen; omega) (by omega) HZX2.out ?_; intro v9 w9 hrow9 hg9 hat9))
      case hb1 => exact HBP.out
      case hb2 => exact HBC.out
      have hkp : Kp (fun i => u6.ownBlock = some i) (wx.alloc (.cells ps.toArray 47)) w9 := (Kp.refl _ _).grown hg9 (fun k hk _ => hk)
      have hbe : Below w4.heap.size w4 w9 := ((hbr.out.trans (HBX.out.mono hzr)).trans (HB34.out.mono (by omega))).trans (Kp.low_from7 hkp (B := w4.heap.size) (fun i hi e => by have := (hrow.out.lt i e).1; omega) HZX2.out)
      have HBE := Lib.hid hbe
      have HR9 := Lib.hid hrow9
      clear hkp hbe hrow9 hg9 hat9
      go_roundw
      case rel => exact ⟨k + 1, by omega, by go_num, by rw [HTK.out]; exact HR9, HBE⟩
      case measure => simp [intOf]; omega
    · obtain rfl : k = n := by omega
      have hrow' := hrow.out
      rw [List.take_of_length_le (by simp [HN.out])] at hrow'
      obtain ⟨A9, c9, rfl, hkl, hkc, hkm, hat9⟩ := At.of_own (R := IsCoin id) (coinCells id) (fun p hp => by
        have ho : p.1.Ok := HOKS.out p.1 (by
          obtain ⟨x, i⟩ := p
          exact (List.mem_zipIdx' hp).2 ▸ List.getElem_mem _)
        exact ⟨coinCells_len HID.out ho, ho, rfl⟩) (by omega) hrow'
      have HA := Lib.hid hat9
      clear hat9 hrow' hkl
      go_wp2_with fail
      go_ret2
      exact ⟨_, _, rfl, hkc, hkm, HA.out, hbw.out⟩
end Go.Proofs.YtmekgidfdlckoaaDoor.T7
