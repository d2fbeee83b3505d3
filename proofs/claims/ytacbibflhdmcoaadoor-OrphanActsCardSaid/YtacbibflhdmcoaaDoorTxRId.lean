/- The document's id of a transaction. -/
import Derived.Test.YtacbibflhdmcoaaDoorTxRPut
import Derived.Test.YtacbibflhdmcoaaDoorTxId
import Derived.Test.YtacbibflhdmcoaaDoorRefTwice
namespace Go.Proofs.YtacbibflhdmcoaaDoor.T7
open Go.RowKit Go.Deep
set_option linter.unusedVariables false
set_option linter.unusedSimpArgs false
set_option maxRecDepth 100000
attribute [local go_sem ↓] Go.wp_at_zero Go.wp_at_succ

set_option maxHeartbeats 1000000 in
theorem rid_no (t : Txs.Tx) (A A' : Option Addr) (c c' B : Nat) (w : World) (h : TxAt w B t A c A' c') (hB : B ≤ w.heap.size) (hf : Txs.form t = false) :
    Calls Tryd.prog 35 #[txV t A c A' c'] w fun e w' => e = .returned (.tuple #[.agg (bytesArr (Txs.id t)), .int .i64 5]) ∧ Below w.heap.size w w' := by
  have HP := fun W hb1 hb2 => rput7_no t A A' c c' B W (h.below hb1) hb2 hf
  have HID := Lib.hid (show Txs.id t = List.replicate 32 0 by unfold Txs.id; rw [if_neg (by simp [hf])])
  unfold txV at HP ⊢
  have HPP := Lib.hid HP
  obtain ⟨zs, hzs⟩ : ∃ zs, zs = bytesArr (List.replicate 32 (0 : UInt8)) := ⟨_, rfl⟩
  have HZ := Lib.hid (show (Tryd.prog.info? 54).map (·.zero) = some (some (.agg zs)) by rw [hzs]; exact zero_hash7)
  have HBZ := Lib.hid (show Tryd.prog.built 54 [] = some zs by rw [hzs]; exact built_zero_hash)
  have HZS := Lib.hid hzs
  have HZL := Lib.hid (show zs.size = 32 by rw [hzs]; simp [bytesArr])
  have HZ1 := Lib.hid (show zs.all (·.oneCell') = true by rw [hzs]; simp [bytesArr, Value.oneCell', byteV])
  clear h hf HP hzs
  go_enter Tryd.func35, Tryd.ntmps35
  go_upto_region 1 with (refine wpList_allocOf rfl 54 rfl zs HZ.out ?_)
  obtain ⟨w2, hw2⟩ : ∃ w2, w2 = (w.alloc (.cells #[.int .u32 (t.version : Int), .slice A t.ins.length c, .slice A' t.outs.length c'] 35)).alloc (.cells zs 54) := ⟨_, rfl⟩
  have HB2 := Lib.hid (show Below w.heap.size w w2 by rw [hw2]; exact (Joins.below_alloc1 _ _).alloc (by simp) _)
  have HK2 := Lib.hid (show Bk w2 (w.heap.size + 1) 54 zs by rw [hw2]; exact Bk.new_at _ _ _ (by simp))
  have hz2 : w2.heap.size = w.heap.size + 2 := by rw [hw2]; simp
  have k0 : w2.cell? ⟨w.heap.size, 0, none⟩ = some (.int .u32 (t.version : Int)) := by rw [hw2]; exact (((Bk.new _ _ _).alloc _).cell 0).trans rfl
  have k1 : w2.cell? ⟨w.heap.size, 1, none⟩ = some (.slice A t.ins.length c) := by rw [hw2]; exact (((Bk.new _ _ _).alloc _).cell 1).trans rfl
  have k2 : w2.cell? ⟨w.heap.size, 2, none⟩ = some (.slice A' t.outs.length c') := by rw [hw2]; exact (((Bk.new _ _ _).alloc _).cell 2).trans rfl
  rw [← hw2]
  clear hw2
  go_wp2_with fail
  refine (HPP.out w2 (HB2.out.mono hB) (by omega)).mono ?_
  rintro e w3 ⟨rfl, hb3⟩
  have HB3 := Lib.hid (HB2.out.trans (hb3.mono (by omega)))
  have HK3 := Lib.hid (HK2.out.below hb3 (by omega))
  have hz3 := hb3.size
  clear hb3 HK2 HB2 k0 k1 k2
  go_wp2_with (first
    | (refine wpList_built' rfl 54 #[] rfl zs ?hb1 ?_)
    | (refine wpList_store_row rfl 54 (.tmp 2) (.tmp 13) rfl (w.heap.size + 1) zs (by rfl) (by rfl) 54 zs HK3.out (by rw [HZL.out]; exact size_hash) rfl HZ1.out ?_))
  case hb1 => exact HBZ.out
  refine bodyPost_ret (results_row_tmp rfl _ _ (w.heap.size + 1) 54 zs (0, 0) _ rfl (setRow_heap _ _ _ _ _ _ HK3.out) Tryd.underlying54 rfl (by rw [HZL.out]; exact size_hash) (.int .i64 5) (by rfl)) rfl ?_
  exact ⟨by rw [HID.out, ← HZS.out], below_setRow HB3.out (by omega) _⟩
set_option maxHeartbeats 1000000 in
theorem rid_yes (t : Txs.Tx) (A A' : Option Addr) (c c' B : Nat) (w : World) (hlay : Laid w) (h : TxAt w B t A c A' c') (hB : B ≤ w.heap.size) (hf : Txs.form t = true) :
    Calls Tryd.prog 35 #[txV t A c A' c'] w fun e w' => e = .returned (.tuple #[.agg (bytesArr (Txs.id t)), .int .i64 0]) ∧ Below w.heap.size w w' := by
  have HP := fun W hb1 hb2 => rput7_yes t A A' c c' B W (h.below hb1) hb2 hf
  have HID := Lib.hid (show Txs.id t = Sha.twice (Txs.bytes t) by unfold Txs.id; rw [if_pos hf])
  have hsm := Txs.bytes_small h.ok hf
  have hil := id_len t
  have HL := Lib.hid hlay
  unfold txV at HP ⊢
  have HPP := Lib.hid HP
  obtain ⟨zs, hzs⟩ : ∃ zs, zs = bytesArr (List.replicate 32 (0 : UInt8)) := ⟨_, rfl⟩
  have HZ := Lib.hid (show (Tryd.prog.info? 54).map (·.zero) = some (some (.agg zs)) by rw [hzs]; exact zero_hash7)
  have HZL := Lib.hid (show zs.size = 32 by rw [hzs]; simp [bytesArr])
  obtain ⟨is, his⟩ : ∃ is, is = bytesArr (Txs.id t) := ⟨_, rfl⟩
  have HIL := Lib.hid (show is.size = 32 by rw [his]; simp [bytesArr, hil])
  have HI1 := Lib.hid (show is.all (·.oneCell') = true by rw [his]; simp [bytesArr, Value.oneCell', byteV])
  rw [← his]
  have HIS := Lib.hid his
  clear h hf HP hzs hil his hlay
  go_enter Tryd.func35, Tryd.ntmps35
  go_upto_region 1 with (refine wpList_allocOf rfl 54 rfl zs HZ.out ?_)
  obtain ⟨w2, hw2⟩ : ∃ w2, w2 = (w.alloc (.cells #[.int .u32 (t.version : Int), .slice A t.ins.length c, .slice A' t.outs.length c'] 35)).alloc (.cells zs 54) := ⟨_, rfl⟩
  have HB2 := Lib.hid (show Below w.heap.size w w2 by rw [hw2]; exact (Joins.below_alloc1 _ _).alloc (by simp) _)
  have HK2 := Lib.hid (show Bk w2 (w.heap.size + 1) 54 zs by rw [hw2]; exact Bk.new_at _ _ _ (by simp))
  have hz2 : w2.heap.size = w.heap.size + 2 := by rw [hw2]; simp
  have k0 : w2.cell? ⟨w.heap.size, 0, none⟩ = some (.int .u32 (t.version : Int)) := by rw [hw2]; exact (((Bk.new _ _ _).alloc _).cell 0).trans rfl
  have k1 : w2.cell? ⟨w.heap.size, 1, none⟩ = some (.slice A t.ins.length c) := by rw [hw2]; exact (((Bk.new _ _ _).alloc _).cell 1).trans rfl
  have k2 : w2.cell? ⟨w.heap.size, 2, none⟩ = some (.slice A' t.outs.length c') := by rw [hw2]; exact (((Bk.new _ _ _).alloc _).cell 2).trans rfl
  rw [← hw2]
  clear hw2
  go_wp2_with fail
  refine (HPP.out w2 (HB2.out.mono hB) (by omega)).mono ?_
  rintro e w3 ⟨v, rfl, hov, hb3⟩
  have HB3 := Lib.hid (HB2.out.trans (hb3.mono (by omega)))
  have HK3 := Lib.hid (HK2.out.below hb3 (by omega))
  have hz3 := hb3.size
  obtain ⟨A3, c3, rfl, hn3, hm3, hat3, _⟩ := hov.at_
  have hT := twice_ref A3 (Txs.bytes t).length c3 w3.heap.size (Txs.bytes t) w3 rfl hn3 hm3 (by omega) hat3 (Nat.le_refl _)
  rw [← HID.out, ← HIS.out] at hT
  have HT := Lib.hid hT
  clear hb3 HK2 HB2 k0 k1 k2 hov hn3 hm3 hat3 hT
  go_wp2_with fail
  refine HT.out.mono ?_
  rintro e w5 ⟨rfl, hb5⟩
  have HB5 := Lib.hid (HB3.out.trans (hb5.mono (by omega)))
  have HK5 := Lib.hid (HK3.out.below hb5 (by omega))
  clear hb5 HB3 HK3
  go_wp2_with (refine wpList_store_row rfl 54 (.tmp 2) (.tmp 16) rfl (w.heap.size + 1) is (by rfl) (by rfl) 54 zs HK5.out (by rw [HIL.out]; exact size_hash) (by rw [HIL.out]; exact HZL.out) HI1.out ?_)
  refine bodyPost_ret (results_row_tmp rfl _ _ (w.heap.size + 1) 54 is (0, 0) _ rfl (setRow_heap _ _ _ _ _ _ HK5.out) Tryd.underlying54 rfl (by rw [HIL.out]; exact size_hash) (.int .i64 0) (by rfl)) rfl ?_
  exact ⟨rfl, below_setRow HB5.out (by omega) _⟩
/-- Id, whatever comes -/
theorem rid_any (t : Txs.Tx) (A A' : Option Addr) (c c' B : Nat) (w : World) (hlay : Laid w) (h : TxAt w B t A c A' c') (hB : B ≤ w.heap.size) :
    Calls Tryd.prog 35 #[txV t A c A' c'] w fun e w' => e = .returned (.tuple #[.agg (bytesArr (Txs.id t)), .int .i64 (Txs.idErr t)]) ∧ Below w.heap.size w w' := by
  unfold Txs.idErr
  by_cases hf : Txs.form t = true
  · rw [if_pos hf]; exact rid_yes t A A' c c' B w hlay h hB hf
  · rw [if_neg hf]; exact rid_no t A A' c c' B w h hB (by simpa using hf)
end Go.Proofs.YtacbibflhdmcoaaDoor.T7
