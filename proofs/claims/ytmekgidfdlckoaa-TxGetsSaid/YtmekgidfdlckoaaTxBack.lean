/- What is put is read, whatever stands behind it. -/
import Derived.Test.YtmekgidfdlckoaaTxCuts
import Derived.Test.YtmekgidfdlckoaaTxSame2
namespace Go.Proofs.Ytmekgidfdlckoaa
open Go.RowKit Go.Deep T7
set_option linter.unusedVariables false
set_option linter.unusedSimpArgs false
set_option maxRecDepth 100000
attribute [local go_sem ↓] Go.wp_at_zero Go.wp_at_succ

theorem empty_own (w : World) : OwnB (w.alloc (.cells #[] 5)) w.heap.size (.slice (some ⟨w.heap.size, 0, none⟩) 0 0) [] := Bk.own (bs := []) (Bk.new _ _ _) (Nat.le_refl _) (by simp [maxLen])
theorem own_low7 {w w' : World} {B base : Nat} {e : TypeId} {size : Nat} {v : Value} {n : Nat} {xs : List Value} (hg : w.grownBy w' v.ownBlock) (h : w.ownsRow base e size v n xs) (hB : B ≤ base) (hs : B ≤ w.heap.size) : Below B w w' :=
  ⟨hg.os, hg.tape, hg.output, hg.size, fun i hi => hg.block i (by omega) (fun e => by have := (h.lt i e.symm).1; omega)⟩
theorem same7_self (t : Txs.Tx) (A1 A2 A3 A4 : Option Addr) (c1 c2 c3 c4 B B' : Nat) (w : World) (h : TxAt w B t A1 c1 A2 c2) (h' : TxAt w B' t A3 c3 A4 c4) (hB : B ≤ w.heap.size) (hB' : B' ≤ w.heap.size) :
    Calls Try.prog 23 #[txV t A1 c1 A2 c2, txV t A3 c3 A4 c4] w fun e w' => e = .returned (.bool true) ∧ Below w.heap.size w w' := by
  have := same7_any t t A1 A2 A3 A4 c1 c2 c3 c4 B B' w h h' hB hB'
  rwa [decide_eq_true rfl] at this
theorem rsame_self (t : Txs.Tx) (A1 A2 A3 A4 : Option Addr) (c1 c2 c3 c4 B B' : Nat) (w : World) (h : TxAt w B t A1 c1 A2 c2) (h' : TxAt w B' t A3 c3 A4 c4) (hB : B ≤ w.heap.size) (hB' : B' ≤ w.heap.size) :
    Calls Try.prog 15 #[txV t A1 c1 A2 c2, txV t A3 c3 A4 c4] w fun e w' => e = .returned (.bool true) ∧ Below w.heap.size w w' := by
  have := rsame_any t t A1 A2 A3 A4 c1 c2 c3 c4 B B' w h h' hB hB'
  rwa [decide_eq_true rfl] at this
theorem tx_cell2 {w : World} {g : Nat} {t : Txs.Tx} {A A' : Option Addr} {c c' : Nat} {T : TypeId} (h : Bk w g T #[.int .u32 (t.version : Int), .slice A t.ins.length c, .slice A' t.outs.length c']) :
    w.cell? ⟨g, 0, none⟩ = some (.int .u32 (t.version : Int)) ∧ w.cell? ⟨g, 1, none⟩ = some (.slice A t.ins.length c) ∧ w.cell? ⟨g, 2, none⟩ = some (.slice A' t.outs.length c') :=
  ⟨(h.cell 0).trans rfl, (h.cell 1).trans rfl, (h.cell 2).trans rfl⟩
set_option maxHeartbeats 4000000 in
theorem txBack_walk (w : World) (t : Txs.Tx) (A : Option Addr) (c : Nat) (A' : Option Addr) (c' : Nat) (h : TxAt w w.heap.size t A c A' c')
    (Ar : Option Addr) (nr cr : Nat) (rest : List UInt8) (hl : rest.length = nr) (hc : nr ≤ cr) (hm : cr ≤ maxLen) (hat : BytesAt w w.heap.size Ar rest) :
    Calls Try.prog 8 #[txV t A c A' c', .slice Ar nr cr] w fun e w' => e = .returned (.bool true) ∧ Below w.heap.size w w' := by
  obtain ⟨i0, hi, hz0, hz1, hz2⟩ := info_parts byte_info
  have Hi := Lib.hid hi
  have Hz := Lib.hid hz0
  have Hz1 := Lib.hid hz1
  have Hz2 := Lib.hid hz2
  clear hi hz0 hz1 hz2
  obtain ⟨w1, hw1, hb1, hz1, hk1⟩ := tx_box w t A A' c c'
  have HB1 := Lib.hid hb1
  have HZ1 := Lib.hid hz1
  have HK1 := Lib.hid hk1
  have HT := Lib.hid h
  have HAT := Lib.hid hat
  have HL := Lib.hid hl
  unfold maxLen at hm
  unfold txV
  clear hb1 hz1 hk1 h hat hl
  go_enter Try.func8, Try.ntmps8
  go_wp2_with fail
  rw [← hw1]
  clear hw1
  refine (tx_alive w1).mono ?_
  rintro e w2 ⟨rfl, hb2⟩
  have HB2 := Lib.hid (HB1.out.trans (hb2.mono HB1.out.size))
  have HK2 := Lib.hid (HK1.out.below hb2 (by rw [HZ1.out]; omega))
  have hz2 : w.heap.size + 1 ≤ w2.heap.size := by rw [← HZ1.out]; exact hb2.size
  have HT2 := Lib.hid (HT.out.below HB2.out)
  obtain ⟨k0, k1, k2⟩ := tx_cells HK2.out
  clear hb2
  have HG := Lib.hid (great_any t A A' c c' _ w2 HT2.out HB2.out.size)
  unfold txV at HG
  go_wp2_with fail
  refine HG.out.mono ?_
  rintro e w3 ⟨rfl, hb3⟩
  have HB3 := Lib.hid (HB2.out.trans (hb3.mono HB2.out.size))
  have HK3 := Lib.hid (HK2.out.below hb3 (by omega))
  have HT3 := Lib.hid (HT.out.below HB3.out)
  have hz3 := hb3.size
  clear hb3 HG k0 k1 k2
  cases hg : greatB t with
  | true =>
    go_wp2_with fail
    go_ret
    exact ⟨rfl, HB3.out⟩
  | false =>
    clear hg
    obtain ⟨k0, k1, k2⟩ := tx_cells HK3.out
    by_cases h5 : 5000 < nr
    · have h5' : (5000 : Int) < (nr : Int) := by omega
      clear h5
      go_wp2_with fail
      go_ret
      exact ⟨rfl, HB3.out⟩
    have h5' : ¬ (5000 : Int) < (nr : Int) := by omega
    by_cases hf : Txs.form t = true
    · have HP := Lib.hid (put_yes t A A' c c' _ w3 HT3.out HB3.out.size hf)
      unfold txV at HP
      have hlen := Txs.bytes_len HT.out.ok
      have hsm := Txs.bytes_small HT.out.ok hf
      have HOK := Lib.hid HT.out.ok
      have HF := Lib.hid hf
      obtain ⟨p, hp⟩ : ∃ p, p = Txs.bytes t := ⟨_, rfl⟩
      rw [← hp] at hlen hsm HP
      have hp6 : 6 ≤ p.length := by omega
      have HPE := Lib.hid hp
      clear hf hlen hp
      go_wp2_with fail
      refine HP.out.mono ?_
      rintro e w4 ⟨v4, rfl, ho4, hb4⟩
      obtain ⟨A4, c4, rfl, hc4, hm4, hat4, _⟩ := ho4.at_
      have HB4 := Lib.hid (HB3.out.trans (hb4.mono HB3.out.size))
      have HK4 := Lib.hid (HK3.out.below hb4 (by omega))
      have hz4 := hb4.size
      have HA4 := Lib.hid hat4
      have HO := Lib.hid (empty_own w4)
      have HS4 := Lib.hid (BytesAt.src (At.below hat4 (Joins.below_alloc1 w4 (.cells #[] 5))))
      unfold maxLen at hm4
      clear hb4 ho4 hat4 HP k0 k1 k2
      go_wp2_with (first
        | (at_builtin; refine wpList_app _ rfl (.tmp 41) (.tmp 42) _ rfl w4.heap.size 5 i0 _ 1 1 Try.underlying22 Hi.out Hz.out Hz1.out Hz2.out rfl (by decide) (.slice (some ⟨w4.heap.size, 0, none⟩) 0 0) 0 [] rfl HO.out A4 p.length c4 (p.map byteV) rfl (by rw [List.length_map, Nat.mul_one]) HS4.out (oneCell_bytes _) (by unfold maxLen; omega) (by omega) (by simp) ?_; intro v5 w5 hrow5 hg5 hat5; have b45 : Below w4.heap.size w4 w5 := (Joins.below_alloc1 _ _).trans (own_low7 hg5 HO.out (Nat.le_refl _) (by simp)); have b45s := b45.size; have hsrc5 := BytesAt.src (At.below HAT.out (HB4.out.trans (b45.mono HB4.out.size))))
        | (at_builtin; refine wpList_app _ rfl (.tmp 43) (.tmp 44) _ rfl w4.heap.size 5 i0 _ 1 1 Try.underlying22 Hi.out Hz.out Hz1.out Hz2.out rfl (by decide) v5 (0 + p.length) _ rfl hrow5 Ar nr cr (rest.map byteV) rfl (by rw [List.length_map, HL.out, Nat.mul_one]) hsrc5 (oneCell_bytes _) (by unfold maxLen; omega) (by omega) (by omega) ?_; intro v6 w6 hrow6 hg6 hat6))
      have hrow6' : OwnB w6 w4.heap.size v6 (p ++ rest) := by
        unfold OwnB
        rw [List.length_append, List.map_append, HL.out]
        simpa using hrow6
      have b46 : Below w4.heap.size w4 w6 := b45.trans (own_low7 hg6 hrow5 (Nat.le_refl _) b45s)
      obtain ⟨A6, c6, rfl, hc6, hm6, hat6', _⟩ := hrow6'.at_
      have HB6 := Lib.hid (HB4.out.trans (b46.mono HB4.out.size))
      have HB46 := Lib.hid b46
      have hl6 : (p ++ rest).length ≤ 140737488351232 := by rw [List.length_append, HL.out]; omega
      have hG := get_any A6 _ c6 _ (p ++ rest) w6 rfl hc6 hm6 hl6 hat6' (Nat.le_refl _)
      rw [HPE.out, Txs.get_put HOK.out HF.out rest, ← HPE.out] at hG
      have HGG := Lib.hid hG
      clear hG hrow5 hg5 hat5 hrow6 hg6 hat6 hrow6' hat6' b45 b45s hsrc5 b46 HO HS4
      refine HGG.out.mono ?_
      rintro e w7 ⟨A7, c7, A7', c7', rfl, hn7, hb7⟩
      have HN7 := Lib.hid hn7.at_
      have HB7 := Lib.hid (HB6.out.trans (hb7.mono HB6.out.size))
      have HB67 := Lib.hid hb7
      unfold txV
      clear hb7 hn7 HGG
      simp only
      go_upto_region 9 with (fail)
      obtain ⟨w8, hw8, hb8, hz8, hk8⟩ := tx_box w7 t A7 A7' c7 c7'
      rw [← hw8]
      have HB8 := Lib.hid (HB7.out.trans (hb8.mono HB7.out.size))
      have HB48 := Lib.hid ((HB46.out.trans (HB67.out.mono HB46.out.size)).trans (hb8.mono (Nat.le_trans HB46.out.size HB67.out.size)))
      have HK8 := Lib.hid hk8
      have HT8 := Lib.hid ((HN7.out.below hb8).mono hb8.size)
      have HZ8 := Lib.hid hz8
      have HO := Lib.hid (empty_own w8)
      have HA8 := Lib.hid ((At.below HA4.out HB48.out).mono HB48.out.size)
      have HS8 := Lib.hid (BytesAt.src (At.below HA8.out (Joins.below_alloc1 w8 (.cells #[] 5))))
      have HKT8 := Lib.hid (HK4.out.below HB48.out (by omega))
      clear hw8 hb8 hz8 hk8
      go_wp2_with (first
        | (at_builtin; refine wpList_app _ rfl (.tmp 51) (.tmp 52) _ rfl w8.heap.size 5 i0 _ 1 1 Try.underlying22 Hi.out Hz.out Hz1.out Hz2.out rfl (by decide) (.slice (some ⟨w8.heap.size, 0, none⟩) 0 0) 0 [] rfl HO.out A4 p.length c4 (p.map byteV) rfl (by rw [List.length_map, Nat.mul_one]) HS8.out (oneCell_bytes _) (by unfold maxLen; omega) (by omega) (by simp) ?_; intro v9 w9 hrow9 hg9 hat9; have b89 : Below w8.heap.size w8 w9 := (Joins.below_alloc1 _ _).trans (own_low7 hg9 HO.out (Nat.le_refl _) (by simp)); have b89s := b89.size; have hsrc9 := BytesAt.src (At.below HAT.out (HB8.out.trans (b89.mono HB8.out.size))))
        | (at_builtin; refine wpList_app _ rfl (.tmp 53) (.tmp 54) _ rfl w8.heap.size 5 i0 _ 1 1 Try.underlying22 Hi.out Hz.out Hz1.out Hz2.out rfl (by decide) v9 (0 + p.length) _ rfl hrow9 Ar nr cr (rest.map byteV) rfl (by rw [List.length_map, HL.out, Nat.mul_one]) hsrc9 (oneCell_bytes _) (by unfold maxLen; omega) (by omega) (by omega) ?_; intro v10 w10 hrow10 hg10 hat10))
      have hrow10' : OwnB w10 w8.heap.size v10 (p ++ rest) := by
        unfold OwnB
        rw [List.length_append, List.map_append, HL.out]
        simpa using hrow10
      have b810 : Below w8.heap.size w8 w10 := b89.trans (own_low7 hg10 hrow9 (Nat.le_refl _) b89s)
      obtain ⟨A10, c10, rfl, hc10, hm10, hat10', _⟩ := hrow10'.at_
      have HB10 := Lib.hid (HB8.out.trans (b810.mono HB8.out.size))
      have hl10 : (p ++ rest).length ≤ 140737488351232 := by rw [List.length_append, HL.out]; omega
      have hG := whole_any A10 _ c10 _ (p ++ rest) w10 rfl hc10 hm10 hl10 hat10' (Nat.le_refl _)
      have HWH := Lib.hid hG
      have HB810 := Lib.hid b810
      clear hG hrow9 hg9 hat9 hrow10 hg10 hat10 hrow10' hat10' b89 b89s hsrc9 b810 HO HS8
      have hcase : (nr = 0 ∧ Txs.whole (p ++ rest) = (t, 0)) ∨ (0 < nr ∧ Txs.whole (p ++ rest) = (Txs.none, 5)) := by
        have hl' := HL.out
        cases rest with
        | nil => left; refine ⟨by simpa using hl'.symm, ?_⟩; rw [List.append_nil, HPE.out]; exact Txs.whole_put HOK.out HF.out
        | cons x r => right; refine ⟨by simp at hl'; omega, ?_⟩; rw [HPE.out]; exact Txs.whole_more HOK.out HF.out (by simp)
      have hin : (p.length : Int) ≠ (p.length : Int) → False := fun h => h rfl
      clear hin
      rcases hcase with ⟨hn0, hwh⟩ | ⟨hn0, hwh⟩
      · rw [hwh] at HWH
        clear hwh
        refine HWH.out.mono ?_
        rintro e w11 ⟨A11, c11, A11', c11', rfl, hn11, hb11⟩
        have HN11 := Lib.hid hn11.at_
        have HB11 := Lib.hid (HB10.out.trans (hb11.mono HB10.out.size))
        have HB811 := Lib.hid (HB810.out.trans (hb11.mono HB810.out.size))
        unfold txV
        clear hb11 hn11 HWH
        simp only
        go_upto_region 10 with (fail)
        obtain ⟨w12, hw12, hb12, hz12, hk12⟩ := tx_box w11 t A11 A11' c11 c11'
        rw [← hw12]
        have HB12 := Lib.hid (HB11.out.trans (hb12.mono HB11.out.size))
        have HB812 := Lib.hid (HB811.out.trans (hb12.mono HB811.out.size))
        have HK12 := Lib.hid hk12
        have HT12 := Lib.hid ((HN11.out.below hb12).mono hb12.size)
        have hzz := HZ8.out
        have HK812 := Lib.hid (HK8.out.below HB812.out (by omega))
        have HKT12 := Lib.hid (HKT8.out.below HB812.out (by have := HB48.out.size; omega))
        have HT812 := Lib.hid ((HT8.out.below HB812.out).mono HB812.out.size)
        have HT0 := Lib.hid ((HT.out.below HB12.out).mono HB12.out.size)
        obtain ⟨k0, k1, k2⟩ := tx_cells HKT12.out
        obtain ⟨q0, q1, q2⟩ := tx_cell2 HK812.out
        have HS1 := Lib.hid (same7_self t A A' A7 A7' c c' c7 c7' _ _ w12 HT0.out HT812.out (Nat.le_refl _) (Nat.le_refl _))
        have hz12' := hb12.size
        unfold txV at HS1
        clear hw12 hb12 hz12 hk12 hzz
        go_wp2_with fail
        refine HS1.out.mono ?_
        rintro e w13 ⟨rfl, hb13⟩
        have HB13 := Lib.hid (HB12.out.trans (hb13.mono HB12.out.size))
        have HKT13 := Lib.hid (HKT12.out.below hb13 HKT12.out.lt)
        have HK13 := Lib.hid (HK812.out.below hb13 HK812.out.lt)
        have HKV13 := Lib.hid (HK12.out.below hb13 HK12.out.lt)
        have HS2 := Lib.hid (rsame_self t A A' A7 A7' c c' c7 c7' _ _ w13 (HT0.out.below hb13) (HT812.out.below hb13) hb13.size hb13.size)
        have HTV13 := Lib.hid ((HT12.out.below hb13).mono hb13.size)
        have HT013 := Lib.hid ((HT0.out.below hb13).mono hb13.size)
        unfold txV at HS2
        clear k0 k1 k2 q0 q1 q2 hb13 HS1
        obtain ⟨k0, k1, k2⟩ := tx_cells HKT13.out
        obtain ⟨q0, q1, q2⟩ := tx_cell2 HK13.out
        go_wp2_with fail
        refine HS2.out.mono ?_
        rintro e w14 ⟨rfl, hb14⟩
        have HB14 := Lib.hid (HB13.out.trans (hb14.mono HB13.out.size))
        have HKT14 := Lib.hid (HKT13.out.below hb14 HKT13.out.lt)
        have HKV14 := Lib.hid (HKV13.out.below hb14 HKV13.out.lt)
        have HS3 := Lib.hid (same7_self t A11 A11' A A' c11 c11' c c' _ _ w14 (HTV13.out.below hb14) (HT013.out.below hb14) hb14.size hb14.size)
        unfold txV at HS3
        clear k0 k1 k2 q0 q1 q2 hb14 HS2
        obtain ⟨k0, k1, k2⟩ := tx_cells HKT14.out
        obtain ⟨q0, q1, q2⟩ := tx_cell2 HKV14.out
        have hn0' : ¬ (0 : Int) < (nr : Int) := by omega
        clear hn0
        go_wp2_with fail
        refine HS3.out.mono ?_
        rintro e w15 ⟨rfl, hb15⟩
        have HB15 := Lib.hid (HB14.out.trans (hb15.mono HB14.out.size))
        clear hb15
        go_wp2_with fail
        go_ret
        exact ⟨rfl, HB15.out⟩
      · rw [hwh] at HWH
        clear hwh
        refine HWH.out.mono ?_
        rintro e w11 ⟨A11, c11, A11', c11', rfl, hn11, hb11⟩
        have HB11 := Lib.hid (HB10.out.trans (hb11.mono HB10.out.size))
        have HB811 := Lib.hid (HB810.out.trans (hb11.mono HB810.out.size))
        rw [show txV (Txs.none, (5 : Int)).1 A11 c11 A11' c11' = .agg #[.int .u32 0, .slice A11 0 c11, .slice A11' 0 c11'] from rfl]
        clear hb11 hn11 HWH
        go_upto_region 10 with (fail)
        obtain ⟨w12, hw12⟩ : ∃ w12, w12 = w11.alloc (.cells #[.int .u32 0, .slice A11 0 c11, .slice A11' 0 c11'] 28) := ⟨_, rfl⟩
        have hb12 : Below w11.heap.size w11 w12 := by rw [hw12]; exact Joins.below_alloc1 _ _
        have HK12 := Lib.hid (show Bk w12 w11.heap.size 28 #[.int .u32 0, .slice A11 0 c11, .slice A11' 0 c11'] by rw [hw12]; exact Bk.new _ _ _)
        rw [← hw12]
        have HB12 := Lib.hid (HB11.out.trans (hb12.mono HB11.out.size))
        have HB812 := Lib.hid (HB811.out.trans (hb12.mono HB811.out.size))
        have hzz := HZ8.out
        have HK812 := Lib.hid (HK8.out.below HB812.out (by omega))
        have HKT12 := Lib.hid (HKT8.out.below HB812.out (by have := HB48.out.size; omega))
        have HT812 := Lib.hid ((HT8.out.below HB812.out).mono HB812.out.size)
        have HT0 := Lib.hid ((HT.out.below HB12.out).mono HB12.out.size)
        obtain ⟨k0, k1, k2⟩ := tx_cells HKT12.out
        obtain ⟨q0, q1, q2⟩ := tx_cell2 HK812.out
        have HS1 := Lib.hid (same7_self t A A' A7 A7' c c' c7 c7' _ _ w12 HT0.out HT812.out (Nat.le_refl _) (Nat.le_refl _))
        unfold txV at HS1
        clear hw12 hb12 hzz
        go_wp2_with fail
        refine HS1.out.mono ?_
        rintro e w13 ⟨rfl, hb13⟩
        have HB13 := Lib.hid (HB12.out.trans (hb13.mono HB12.out.size))
        have HKT13 := Lib.hid (HKT12.out.below hb13 HKT12.out.lt)
        have HK13 := Lib.hid (HK812.out.below hb13 HK812.out.lt)
        have HKV13 := Lib.hid (HK12.out.below hb13 HK12.out.lt)
        have HS2 := Lib.hid (rsame_self t A A' A7 A7' c c' c7 c7' _ _ w13 (HT0.out.below hb13) (HT812.out.below hb13) hb13.size hb13.size)
        unfold txV at HS2
        clear k0 k1 k2 q0 q1 q2 hb13 HS1
        obtain ⟨k0, k1, k2⟩ := tx_cells HKT13.out
        obtain ⟨q0, q1, q2⟩ := tx_cell2 HK13.out
        go_wp2_with fail
        refine HS2.out.mono ?_
        rintro e w14 ⟨rfl, hb14⟩
        have HB14 := Lib.hid (HB13.out.trans (hb14.mono HB13.out.size))
        have HKV14 := Lib.hid (HKV13.out.below hb14 HKV13.out.lt)
        have e1 : w14.cell? ⟨w11.heap.size, 1, none⟩ = some (.slice A11 0 c11) := (HKV14.out.cell 1).trans rfl
        have e2 : w14.cell? ⟨w11.heap.size, 2, none⟩ = some (.slice A11' 0 c11') := (HKV14.out.cell 2).trans rfl
        have hn0' : (0 : Int) < (nr : Int) := by omega
        clear k0 k1 k2 q0 q1 q2 hb14 HS2 hn0
        go_wp2_with fail
        go_ret
        exact ⟨rfl, HB14.out⟩
    · have hf' : Txs.form t = false := by simpa using hf
      have HP := Lib.hid (put_no t A A' c c' _ w3 HT3.out HB3.out.size hf')
      have HC := Lib.hid (fun W (hb : Below w.heap.size w W) => check_long t A A' c c' _ W (HT.out.below hb) hb.size hf')
      unfold txV at HP HC
      clear hf hf'
      go_wp2_with fail
      refine HP.out.mono ?_
      rintro e w4 ⟨rfl, hb4⟩
      have HB4 := Lib.hid (HB3.out.trans (hb4.mono HB3.out.size))
      have HK4 := Lib.hid (HK3.out.below hb4 (by omega))
      clear hb4 HP k0 k1 k2
      obtain ⟨k0, k1, k2⟩ := tx_cells HK4.out
      go_wp2_with fail
      refine (HC.out w4 HB4.out).mono ?_
      rintro e w5 ⟨rfl, hb5⟩
      have HB5 := Lib.hid (HB4.out.trans (hb5.mono HB4.out.size))
      clear hb5
      go_wp2_with fail
      go_ret
      exact ⟨rfl, HB5.out⟩
end Go.Proofs.Ytmekgidfdlckoaa
