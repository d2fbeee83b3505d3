/- Package tx: Coins. -/
import Derived.Test.YtmekgidfdlckoaaDoorTxId
namespace Go.Proofs.YtmekgidfdlckoaaDoor.T7
open Go.RowKit Go.Deep
set_option linter.unusedVariables false
set_option linter.unusedSimpArgs false
set_option maxRecDepth 100000
attribute [local go_sem ↓] Go.wp_at_zero Go.wp_at_succ

def coinCells (id : List UInt8) (p : Txs.Out × Nat) : List Value := id.map byteV ++ .int .u32 (p.2 : Int) :: outCells p.1
def IsCoin (id : List UInt8) (vs : List Value) (p : Txs.Out × Nat) : Prop := p.1.Ok ∧ vs = coinCells id p
abbrev CoinsAt (w : World) (B : Nat) (A : Option Addr) (id : List UInt8) (l : List (Txs.Out × Nat)) : Prop := At 66 (IsCoin id) w B A l
theorem coinCells_len {id : List UInt8} {p : Txs.Out × Nat} (hi : id.length = 32) (h : p.1.Ok) : (coinCells id p).length = 66 := by
  unfold coinCells; rw [List.length_append, List.length_map, List.length_cons, outCells_len h, hi]
theorem coinCells_one (id : List UInt8) (p : Txs.Out × Nat) : ∀ u ∈ coinCells id p, u.oneCell' = true := by
  intro u hu
  unfold coinCells at hu
  rcases List.mem_append.1 hu with h | h
  · exact oneCell_bytes _ u h
  · rcases List.mem_cons.1 h with rfl | h
    · rfl
    · exact outCells_one _ u h
theorem coin_info : (Tryd.prog.info? 47).map (fun i => (i.zero, i.size, i.bytes)) = some (some (.agg (coinCells (List.replicate 32 0) (⟨0, List.replicate 32 0⟩, 0)).toArray), 66, 80) := by kernel_rfl
theorem size_coin : (Tryd.prog.info? 47).map (·.size) = some 66 := by kernel_rfl
theorem built_coin (id : List UInt8) (i : Nat) (x : Txs.Out) (hi : id.length = 32) (h : x.lock.length = 32) :
    Tryd.prog.built 47 [(0, .agg (ptCells ⟨id, i, []⟩).toArray), (1, .agg (outCells x).toArray)] = some (coinCells id (x, i)).toArray := by
  obtain ⟨value, lock⟩ := x
  exact list32 (P := fun id => Tryd.prog.built 47 [(0, .agg (ptCells ⟨id, i, []⟩).toArray), (1, .agg (outCells ⟨value, lock⟩).toArray)] = some (coinCells id (⟨value, lock⟩, i)).toArray)
    (fun b0 b1 b2 b3 b4 b5 b6 b7 b8 b9 b10 b11 b12 b13 b14 b15 b16 b17 b18 b19 b20 b21 b22 b23 b24 b25 b26 b27 b28 b29 b30 b31 =>
      list32 (P := fun lock => Tryd.prog.built 47 [(0, .agg (ptCells ⟨[b0, b1, b2, b3, b4, b5, b6, b7, b8, b9, b10, b11, b12, b13, b14, b15, b16, b17, b18, b19, b20, b21, b22, b23, b24, b25, b26, b27, b28, b29, b30, b31], i, []⟩).toArray), (1, .agg (outCells ⟨value, lock⟩).toArray)] =
          some (coinCells [b0, b1, b2, b3, b4, b5, b6, b7, b8, b9, b10, b11, b12, b13, b14, b15, b16, b17, b18, b19, b20, b21, b22, b23, b24, b25, b26, b27, b28, b29, b30, b31] (⟨value, lock⟩, i)).toArray)
        (fun c0 c1 c2 c3 c4 c5 c6 c7 c8 c9 c10 c11 c12 c13 c14 c15 c16 c17 c18 c19 c20 c21 c22 c23 c24 c25 c26 c27 c28 c29 c30 c31 => by kernel_rfl) lock h) id hi
theorem CoinsAt.range {w : World} {B : Nat} {A : Option Addr} {id : List UInt8} {l : List (Txs.Out × Nat)} (h : CoinsAt w B A id l) {i : Nat} (hi : i < l.length) :
    ∃ b off, A = some ⟨b, off, none⟩ ∧ b < B ∧ w.rangeAt b (off + i * 66) (coinCells id l[i]) ∧ (l[i]).1.Ok := by
  obtain ⟨b, off, vs, hA, hb, ⟨hk, hvs⟩, hc⟩ := h i hi
  refine ⟨b, off, hA, hb, fun j v hv => ?_, hk⟩
  rw [← hvs] at hv
  obtain ⟨hj, rfl⟩ := List.getElem?_eq_some_iff.1 hv
  exact hc j hj
theorem Kp.low_from7 {S : Nat → Prop} {B : Nat} {w w' : World} (h : Kp S w w') (hS : ∀ i, i < B → ¬ S i) (hs : B ≤ w.heap.size) : Below B w w' := ⟨h.os, h.tape, h.output, h.size, fun i hi => h.block i (by omega) (hS i hi)⟩
set_option maxHeartbeats 2000000 in
theorem coins_no (t : Txs.Tx) (A A' : Option Addr) (c c' B : Nat) (w : World) (hlay : Laid w) (h : TxAt w B t A c A' c') (hB : B ≤ w.heap.size) (hf : Txs.form t = false) :
    Calls Tryd.prog 9 #[txV t A c A' c'] w fun e w' => e = .returned (.tuple #[.slice none 0 0, .int .i64 5]) ∧ Below w.heap.size w w' := by
  have HP := fun W hl hb1 hb2 => id_any t A A' c c' B W hl (h.below hb1) hb2
  have hil := id_len t
  unfold Txs.idErr at HP
  simp only [hf, Bool.false_eq_true, if_false] at HP
  have HL := Lib.hid hlay
  unfold txV at HP ⊢
  obtain ⟨zs, hzs⟩ : ∃ zs, zs = bytesArr (List.replicate 32 (0 : UInt8)) := ⟨_, rfl⟩
  have HZ := Lib.hid (show (Tryd.prog.info? 34).map (·.zero) = some (some (.agg zs)) by rw [hzs]; exact zero_hash7)
  have HZL := Lib.hid (show zs.size = 32 by rw [hzs]; simp [bytesArr])
  obtain ⟨is, his⟩ : ∃ is, is = bytesArr (Txs.id t) := ⟨_, rfl⟩
  have HIL := Lib.hid (show is.size = 32 by rw [his]; simp [bytesArr, hil])
  have HI1 := Lib.hid (show is.all (·.oneCell') = true by rw [his]; simp [bytesArr, Value.oneCell', byteV])
  rw [← his] at HP
  have HPP := Lib.hid HP
  clear h hf HP hzs hil his hlay
  go_enter Tryd.func9, Tryd.ntmps9
  go_wp2_with fail
  refine (HPP.out _ (HL.out.below (Joins.below_alloc1 _ _)) (Below.mono (Joins.below_alloc1 _ _) hB) (by simp; omega)).mono ?_
  rintro e w3 ⟨rfl, hb3⟩
  have HB3 := Lib.hid ((Joins.below_alloc1 w (.cells #[.int .u32 (t.version : Int), .slice A t.ins.length c, .slice A' t.outs.length c'] 26)).trans (hb3.mono (by simp)))
  clear hb3
  go_wp2_with (first
    | (refine wpList_allocOf rfl 34 rfl zs HZ.out ?_)
    | (refine wpList_store_row rfl 34 (.tmp 4) (.tmp 12) rfl w3.heap.size is (by rfl) (by rfl) 34 zs ?hg (by rw [HIL.out]; exact size_hash) (by rw [HIL.out]; exact HZL.out) HI1.out ?_))
  case hg => exact Bk.new _ _ _
  go_ret2
  exact ⟨rfl, below_setRow (HB3.out.alloc HB3.out.size _) HB3.out.size _⟩
set_option maxHeartbeats 4000000 in
theorem coins_yes (t : Txs.Tx) (A A' : Option Addr) (c c' B : Nat) (w : World) (hlay : Laid w) (h : TxAt w B t A c A' c') (hB : B ≤ w.heap.size) (hf : Txs.form t = true) :
    Calls Tryd.prog 9 #[txV t A c A' c'] w fun e w' => ∃ A1 c1, e = .returned (.tuple #[.slice A1 t.outs.length c1, .int .i64 0]) ∧ t.outs.length ≤ c1 ∧ c1 ≤ maxLen ∧ CoinsAt w' w'.heap.size A1 (Txs.id t) t.outs.zipIdx ∧ Below w.heap.size w w' := by
  have HP := fun W hl hb1 hb2 => id_any t A A' c c' B W hl (h.below hb1) hb2
  have hil := id_len t
  unfold Txs.idErr at HP
  simp only [hf, if_true] at HP
  have HL := Lib.hid hlay
  have hO := h.outs
  have hn8 : t.outs.length ≤ 8 := (Txs.form_iff.1 hf).2.2
  unfold txV at HP ⊢
  obtain ⟨zs, hzs⟩ : ∃ zs, zs = bytesArr (List.replicate 32 (0 : UInt8)) := ⟨_, rfl⟩
  have HZ := Lib.hid (show (Tryd.prog.info? 34).map (·.zero) = some (some (.agg zs)) by rw [hzs]; exact zero_hash7)
  have HZL := Lib.hid (show zs.size = 32 by rw [hzs]; simp [bytesArr])
  obtain ⟨id, hid'⟩ : ∃ id, id = Txs.id t := ⟨_, rfl⟩
  rw [← hid'] at HP hil ⊢
  obtain ⟨is, his⟩ : ∃ is, is = bytesArr id := ⟨_, rfl⟩
  have HIL := Lib.hid (show is.size = 32 by rw [his]; simp [bytesArr, hil])
  have HI1 := Lib.hid (show is.all (·.oneCell') = true by rw [his]; simp [bytesArr, Value.oneCell', byteV])
  rw [← his] at HP
  have HPP := Lib.hid HP
  have HID := Lib.hid hil
  have HIS := Lib.hid his
  have HO := Lib.hid hO
  have HOKS := Lib.hid h.ok.2.2
  obtain ⟨n, hn⟩ : ∃ n, n = t.outs.length := ⟨_, rfl⟩
  rw [← hn] at HPP hn8 ⊢
  have HN := Lib.hid hn
  have hmk := run_make_rows (P := Tryd.prog) 37 47 _ 66 80 Tryd.underlying37 coin_info .i64 .i64 n (by omega) (by omega)
  obtain ⟨z0, hz0⟩ : ∃ z0, z0 = madeCells (Value.agg (coinCells (List.replicate 32 0) (⟨0, List.replicate 32 0⟩, 0)).toArray).cells (n * 66) := ⟨_, rfl⟩
  rw [← hz0] at hmk
  obtain ⟨cs0, hcs0⟩ : ∃ cs0, cs0 = z0.toList := ⟨_, rfl⟩
  have HCL := Lib.hid (show cs0.length = n * 66 by rw [hcs0, hz0, Array.length_toList, size_madeCells])
  have hz1 : z0 = cs0.toArray := by rw [hcs0]
  rw [hz1] at hmk
  have HMK := Lib.hid hmk
  clear hz0 hcs0 hz1 h hf HP hzs hil his hlay hO hn hmk hid'
  go_enter Tryd.func9, Tryd.ntmps9
  go_wp2_with fail
  refine (HPP.out _ (HL.out.below (Joins.below_alloc1 _ _)) (Below.mono (Joins.below_alloc1 _ _) hB) (by simp; omega)).mono ?_
  rintro e w3 ⟨rfl, hb3⟩
  have HB3 := Lib.hid ((Joins.below_alloc1 w (.cells #[.int .u32 (t.version : Int), .slice A t.ins.length c, .slice A' n c'] 26)).trans (hb3.mono (by simp)))
  have HT3 := Lib.hid (Bk.below (Bk.new w 26 #[.int .u32 (t.version : Int), .slice A t.ins.length c, .slice A' n c']) hb3 (by simp))
  have hz3 : w.heap.size + 1 ≤ w3.heap.size := by have := hb3.size; simpa using this
  clear hb3
  go_upto_region 4 with (first
    | (refine wpList_allocOf rfl 34 rfl zs HZ.out ?_)
    | (refine wpList_store_row rfl 34 (.tmp 4) (.tmp 12) rfl w3.heap.size is (by rfl) (by rfl) 34 zs ?hg (by rw [HIL.out]; exact size_hash) (by rw [HIL.out]; exact HZL.out) HI1.out ?_))
  case hg => exact Bk.new _ _ _
  obtain ⟨w4, hw4⟩ : ∃ w4, w4 = (w3.alloc (.cells zs 34)).setRow w3.heap.size is := ⟨_, rfl⟩
  have HH4 := Lib.hid (show Bk w4 w3.heap.size 34 (bytesArr id) by rw [hw4, ← HIS.out]; exact setRow_heap _ _ _ _ _ _ (Bk.new w3 _ zs))
  have hb34 : Below w3.heap.size w3 w4 := by rw [hw4]; exact below_setRow ((Below.refl _ _).alloc (Nat.le_refl _) _) (Nat.le_refl _) _
  have hz4 : w4.heap.size = w3.heap.size + 1 := by rw [hw4]; simp [World.setRow]
  have HB4 := Lib.hid (HB3.out.trans (hb34.mono (by omega)))
  have HT4 := Lib.hid (HT3.out.below hb34 (by omega))
  rw [← hw4]
  clear hw4 hb34 HT3
  obtain ⟨H, hH⟩ : ∃ H, H = w3.heap.size := ⟨_, rfl⟩
  rw [← hH] at HH4 ⊢
  have hHw : w.heap.size < H := by omega
  have hH4 : H < w4.heap.size := by omega
  have k2 : w4.cell? ⟨w.heap.size, 2, none⟩ = some (.slice A' n c') := (HT4.out.cell 2).trans rfl
  obtain ⟨w5, hw5⟩ : ∃ w5, w5 = w4.alloc (.cells cs0.toArray 47) := ⟨_, rfl⟩
  obtain ⟨g, hg⟩ : ∃ g, g = w4.heap.size := ⟨_, rfl⟩
  have HK5 := Lib.hid (show Bk w5 g 47 cs0.toArray by rw [hw5, hg]; exact Bk.new _ _ _)
  have HB5 := Lib.hid (show Below w.heap.size w w5 by rw [hw5]; exact HB4.out.alloc HB4.out.size _)
  have HH5 := Lib.hid (show Bk w5 H 34 (bytesArr id) by rw [hw5]; exact HH4.out.alloc _)
  have j2 : w5.cell? ⟨w.heap.size, 2, none⟩ = some (.slice A' n c') := by rw [hw5]; exact ((HT4.out.alloc _).cell 2).trans rfl
  have hgw : H < g := by omega
  have hmk := HMK.out
  clear hH hz4
  go_upto_region 5 with (fail)
  rw [← hw5, ← hg]
  clear hw5 hg hmk k2 HB4 HT4 HH4
  go_wp2_with fail
  go_loopw [24] (fun iv wr => ∃ (k : Nat) (cs : List Value), k ≤ n ∧ iv = .int .i64 (k : Int) ∧ Hid (Bk wr g 47 cs.toArray) ∧ Hid (RowTo (coinCells id) 66 n k t.outs.zipIdx cs) ∧ Hid (Kp (fun i => i = g) w5 wr)) (fun iv _ => n - (intOf iv).toNat)
  case atStart => exact ⟨0, cs0, Nat.zero_le _, rfl, HK5, Lib.hid (RowTo.zero _ _ _ _ _ HCL.out), Lib.hid (Kp.refl _ _)⟩
  case round =>
    obtain ⟨k, cs, hk, rfl, hbk, hrow, hkp⟩ := hrel
    have hgl := hbk.out.lt
    have hbw : Hid (Below w.heap.size w wr) := Lib.hid (HB5.out.trans (Kp.low_from7 hkp.out (B := w.heap.size) (fun i hi e => by omega) HB5.out.size))
    have hHr : Hid (Bk wr H 34 (bytesArr id)) := Lib.hid (HH5.out.kp hkp.out (by omega))
    by_cases hlt : k < n
    · have hlt1 : k < t.outs.length := by rw [← HN.out]; exact hlt
      have hlt2 : k < t.outs.zipIdx.length := by simpa using hlt1
      obtain ⟨b, off, rfl, hbB, hr, hok⟩ := (OutsAt.range (At.below HO.out (hbw.out.mono hB)) hlt1)
      have hzi : t.outs.zipIdx[k]'hlt2 = (t.outs[k], k) := by simp
      have HNX := Lib.hid (hrow.out.next hlt2 hlt (coinCells_len HID.out (by rw [hzi]; exact hok)))
      rw [hzi] at HNX
      have i1 : (0 : Int) ≤ (k : Int) := by omega
      have i2 : (k : Int) < (n : Int) := by omega
      have i3 : (k : Int) ≤ 4294967295 := by omega
      generalize t.outs[k] = x at *
      obtain ⟨wx, hwx⟩ : ∃ wx, wx = wr.alloc (.cells (outCells x).toArray 45) := ⟨_, rfl⟩
      have HKX := Lib.hid (show Bk wx g 47 cs.toArray by rw [hwx]; exact hbk.out.alloc _)
      have HHX := Lib.hid (show Bk wx H 34 (bytesArr id) by rw [hwx]; exact hHr.out.alloc _)
      have HOX := Lib.hid (show Bk wx wr.heap.size 45 (outCells x).toArray by rw [hwx]; exact Bk.new _ _ _)
      have HPX := Lib.hid (show Kp (fun i => i = g) w5 wx by rw [hwx]; exact hkp.out.alloc _)
      have HR := Lib.hid hr
      have HL := Lib.hid (outCells_len hok)
      have HONE := Lib.hid (outCells_one x)
      have HBC := Lib.hid (built_coin id k x HID.out hok.2)
      have HBP := Lib.hid (built_pt7 ⟨id, k, []⟩ HID.out)
      have L1 := Lib.hid (coinCells_len (p := (x, k)) HID.out hok)
      have HPO := Lib.hid (all_one (coinCells_one id (x, k)))
      have LI := Lib.hid (show (bytesArr id).size = 32 by simp [bytesArr, HID.out])
      generalize hbi : bytesArr id = ia at *
      generalize hcc : coinCells id (x, k) = ps at *
      generalize (ptCells ⟨id, k, []⟩).toArray = pa at *
      have HTH := Lib.hid (bk_there HKX.out (k * 66) ps.toArray.size (by rw [hrow.out.len]; have := L1.out; simp; have := Nat.mul_le_mul_right 66 (show k + 1 ≤ n by omega); omega))
      generalize hcs : outCells x = xs at *
      have HZO := zero_out
      have HZL2 := Lib.hid zeroOut_len
      generalize (outCells ⟨0, List.replicate 32 0⟩).toArray = zo at *
      have HZO := Lib.hid HZO
      clear hcs hbi hcc hr hok j2 hzi
      go_upto_region 8 with (refine wpList_elem2 rfl rfl rfl rfl 45 (.tmp 27) (.tmp 8) (.tmp 28) (.tmp 26) rfl rfl rfl rfl b (off + k * 33) (by rfl) xs _ HR.out Tryd.underlying45 rfl (by rw [HL.out]; exact size_out) zo HZO.out (by rw [HZL2.out, HL.out]) HONE.out (.int .i64 (k : Int)) (by rfl) (by rfl) (by rfl) ?_)
      rw [← hwx]
      clear hwx
      go_wp2_with (first
        | (refine wpList_load_row rfl 34 (.tmp 4) rfl H (by rfl) 34 ia (0, 0) _ HHX.out Tryd.underlying34 rfl (by rw [LI.out]; exact size_hash) ?_)
        | (refine wpList_built' rfl 42 #[(0, .tmp 31), (1, .tmp 33)] rfl pa ?hb1 ?_)
        | (refine wpList_load_row rfl 45 (.tmp 8) rfl wr.heap.size (by rfl) 45 xs.toArray (0, 0) _ HOX.out Tryd.underlying45 rfl (by rw [List.size_toArray, HL.out]; exact size_out) ?_)
        | (refine wpList_built' rfl 47 #[(0, .tmp 34), (1, .tmp 35)] rfl ps.toArray ?hb2 ?_)
        | (refine wpList_store_mid rfl 47 (.tmp 37) (.tmp 36) rfl g (k * 66) ps.toArray (by rfl) (by rfl) HTH.out (by rw [List.size_toArray, L1.out]; exact size_coin) HPO.out ?_))
      case hb1 => exact HBP.out
      case hb2 => exact HBC.out
      go_roundw
      case rel =>
        exact ⟨k + 1, _, by omega, by go_num, Lib.hid (bk_setCells ps (k * 66) wx cs HKX.out (by rw [hrow.out.len, L1.out]; have := Nat.mul_le_mul_right 66 (show k + 1 ≤ n by omega); omega)), HNX, Lib.hid (Kp.setCells7 (S := fun i => i = g) (fun _ => rfl) _ _ _ HPX.out)⟩
      case measure => simp [intOf]; omega
    · obtain rfl : k = n := by omega
      have hcs := hrow.out.all (by simp [HN.out])
      have HA := Lib.hid (show CoinsAt wr wr.heap.size (some ⟨g, 0, none⟩) id t.outs.zipIdx from At.of_bk (coinCells id) (fun p hp => by
        have ho : p.1.Ok := HOKS.out p.1 (by
          obtain ⟨x, i⟩ := p
          exact (List.mem_zipIdx' hp).2 ▸ List.getElem_mem _)
        exact ⟨coinCells_len HID.out ho, ho, rfl⟩) (by rw [← hcs]; exact hbk.out))
      clear hcs
      go_wp2_with fail
      go_ret2
      exact ⟨_, _, rfl, Nat.le_refl _, by unfold maxLen; omega, HA.out, hbw.out⟩
end Go.Proofs.YtmekgidfdlckoaaDoor.T7
