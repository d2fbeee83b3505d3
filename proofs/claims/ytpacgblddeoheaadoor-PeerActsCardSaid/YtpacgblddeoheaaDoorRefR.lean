/- RefR, merged: RefTwice, RefFr. -/
import Derived.Test.YtpacgblddeoheaaDoorRefBS
import Derived.Test.YtpacgblddeoheaaDoorFrA
import Derived.Test.YtpacgblddeoheaaDoorRef02
import Derived.Lib.AppendStr
/- The document's sum of a sum, and its first four bytes. -/
namespace Go.Proofs.YtpacgblddeoheaaDoor
open Go.RowKit Go.Deep
set_option linter.unusedVariables false
set_option linter.unusedSimpArgs false
set_option maxRecDepth 100000
attribute [local go_sem ↓] Go.wp_at_zero Go.wp_at_succ
theorem twice_ref (A : Option Addr) (n c B : Nat) (m : List UInt8) (w : World) (hl : m.length = n) (hc : n ≤ c) (hm : c ≤ maxLen) (hn : n ≤ 140737488351232) (hat : BytesAt w B A m) (hB : B ≤ w.heap.size) :
    Calls Tryd.prog 95 #[.slice A n c] w fun e w' => e = .returned (.agg (bytesArr (Sha.twice m))) ∧ Below w.heap.size w w' := by
  subst hl
  obtain ⟨os, hos⟩ : ∃ os, os = bytesArr (Sha.sum m) := ⟨_, rfl⟩
  obtain ⟨hoz, ho1⟩ := arr32 hos
  have HOZ := Lib.hid hoz
  have HO1 := Lib.hid ho1
  have HOS := Lib.hid hos
  obtain ⟨ps, hps⟩ : ∃ ps, ps = bytesArr (Sha.twice m) := ⟨_, rfl⟩
  obtain ⟨hpz, hp1⟩ := arr32 (m := Sha.sum m) hps
  have HPZ := Lib.hid hpz
  have HP1 := Lib.hid hp1
  have HPS := Lib.hid hps
  rw [← hps]
  have HS := Lib.hid (fun W h1 h2 => sum_ref A m.length c B m W rfl hc hm hn h1 h2)
  have HAT := Lib.hid hat
  have hzh := zero_hash
  obtain ⟨zh, hzhe⟩ : ∃ zh, zh = bytesArr (List.replicate 32 0) := ⟨_, rfl⟩
  rw [← hzhe] at hzh
  have HZH := Lib.hid hzh
  have HZHE := Lib.hid hzhe
  clear hoz ho1 hpz hp1 hps hat hzh hzhe
  go_enter Tryd.func95, Tryd.ntmps95
  go_wp2_with (refine wpList_allocOf rfl 93 rfl zh HZH.out ?_)
  have hb0 : Below w.heap.size w (w.alloc (.cells zh 93)) := Joins.below_alloc1 _ _
  refine (HS.out _ (HAT.out.below (hb0.mono hB)) (by simp; omega)).mono ?_
  rintro e w1 ⟨rfl, hb1⟩
  rw [← hos]
  have b01 : Below w.heap.size w w1 := hb0.trans (hb1.mono (by simp))
  have k1 : Bk w1 w.heap.size 93 zh := (Bk.new w _ _).below hb1 (by simp)
  have HB01 := Lib.hid b01
  have HK1 := Lib.hid k1
  have hz1 : w.heap.size < w1.heap.size := k1.lt
  clear hb0 hb1 b01 k1 hos
  go_upto_region 2 with (first
    | (refine wpList_allocOf rfl 93 rfl zh HZH.out ?_)
    | (refine wpList_store_rowTo rfl 93 (.tmp 3) (.tmp 5) rfl rfl w1.heap.size os rfl rfl 93 zh (Bk.new _ _ _) ?hi1 ?hold1 HO1.out ?_))
  case hi1 => rw [HOZ.out]; exact info_hash
  case hold1 => rw [HOZ.out, HZHE.out]; rfl
  obtain ⟨W2, hW2⟩ : ∃ W2, W2 = (w1.alloc (.cells zh 93)).setRow w1.heap.size os := ⟨_, rfl⟩
  rw [← hW2]
  have kos : Bk W2 w1.heap.size 93 (bytesArr (Sha.sum m)) := by rw [hW2, ← HOS.out]; exact Bk.setRow (Bk.new w1 _ zh) os
  have hb2 : Below w.heap.size w W2 := by rw [hW2]; exact below_setRow (HB01.out.alloc HB01.out.size _) (by omega) _
  have kr2 : Bk W2 w.heap.size 93 zh := by rw [hW2]; exact (HK1.out.alloc _).setRow_far (by omega) os
  have HB2 := Lib.hid hb2
  have HR2 := Lib.hid kr2
  have hlt2 := kr2.lt
  have HS2 := Lib.hid (sum_ref (some ⟨w1.heap.size, 0, none⟩) 32 32 _ (Sha.sum m) W2 (sum_len m) (Nat.le_refl _) (by simp [maxLen]) (by omega) (kos.bytesAt kos.lt) (Nat.le_refl _))
  rw [show Sha.sum (Sha.sum m) = Sha.twice m from rfl, ← HPS.out] at HS2
  clear hW2 kos hb2 kr2
  go_wp2_with fail
  refine HS2.out.mono ?_
  rintro e w3 ⟨rfl, hb3⟩
  have HB3 := Lib.hid (HB2.out.trans (hb3.mono HB2.out.size))
  have HR3 := Lib.hid (HR2.out.below hb3 hlt2)
  clear hb3
  go_wp2_with (refine wpList_store_rowTo rfl 93 (.tmp 2) (.tmp 7) rfl rfl w.heap.size ps rfl rfl 93 zh HR3.out ?hi2 ?hold2 HP1.out ?_)
  case hi2 => rw [HPZ.out]; exact info_hash
  case hold2 => rw [HPZ.out, HZHE.out]; rfl
  refine bodyPost_ret (results_cell_row rfl _ _ w.heap.size 93 ps (0, 0) _ rfl (Bk.setRow HR3.out ps) Tryd.underlying93 rfl (by rw [HPZ.out]; exact info_hash)) rfl ⟨rfl, ?_⟩
  exact below_setRow HB3.out (Nat.le_refl _) _
end Go.Proofs.YtpacgblddeoheaaDoor
/- The document's check, its frames' names. -/
/- The document's check of bytes. -/
namespace Go.Proofs.YtpacgblddeoheaaDoor
open Go.RowKit Go.Deep
set_option linter.unusedVariables false
set_option linter.unusedSimpArgs false
set_option maxRecDepth 100000
attribute [local go_sem ↓] Go.wp_at_zero Go.wp_at_succ
theorem check_bytes (b0 b1 b2 b3 : UInt8) : ((b0.toUInt32 ||| b1.toUInt32 <<< 8 ||| b2.toUInt32 <<< 16 ||| b3.toUInt32 <<< 24).toNat : Int) = (b0.toNat : Int) + (b1.toNat : Int) * 256 + (b2.toNat : Int) * 65536 + (b3.toNat : Int) * 16777216 := by
  have h0 := b0.toNat_lt
  have h1 := b1.toNat_lt
  have h2 := b2.toNat_lt
  have h3 := b3.toNat_lt
  simp only [UInt32.toNat_or, UInt32.toNat_shiftLeft, UInt8.toNat_toUInt32]
  have s1 : b1.toNat <<< ((8 : UInt32).toNat % 32) % 2 ^ 32 = 2 ^ 8 * b1.toNat := by
    show b1.toNat <<< 8 % 2 ^ 32 = _
    rw [Nat.shiftLeft_eq]; omega
  have s2 : b2.toNat <<< ((16 : UInt32).toNat % 32) % 2 ^ 32 = 2 ^ 16 * b2.toNat := by
    show b2.toNat <<< 16 % 2 ^ 32 = _
    rw [Nat.shiftLeft_eq]; omega
  have s3 : b3.toNat <<< ((24 : UInt32).toNat % 32) % 2 ^ 32 = 2 ^ 24 * b3.toNat := by
    show b3.toNat <<< 24 % 2 ^ 32 = _
    rw [Nat.shiftLeft_eq]; omega
  rw [s1, s2, s3, Nat.or_comm b0.toNat, ← Nat.two_pow_add_eq_or_of_lt (i := 8) (by omega), Nat.or_comm _ (2 ^ 16 * b2.toNat), ← Nat.two_pow_add_eq_or_of_lt (i := 16) (by omega), Nat.or_comm _ (2 ^ 24 * b3.toNat), ← Nat.two_pow_add_eq_or_of_lt (i := 24) (by omega)]
  omega
theorem check_ref (A : Option Addr) (n c B : Nat) (m : List UInt8) (w : World) (hl : m.length = n) (hc : n ≤ c) (hm : c ≤ maxLen) (hn : n ≤ 140737488351232) (hat : BytesAt w B A m) (hB : B ≤ w.heap.size) :
    Calls Tryd.prog 80 #[.slice A n c] w fun e w' => e = .returned (.int .u32 ((Sha.check m).toNat : Int)) ∧ Below w.heap.size w w' := by
  have HT := Lib.hid (twice_ref A n c B m w hl hc hm hn hat hB)
  obtain ⟨ts, hts⟩ : ∃ ts, ts = bytesArr (Sha.twice m) := ⟨_, rfl⟩
  obtain ⟨htz, ht1⟩ := arr32 (m := Sha.sum m) hts
  have HTZ := Lib.hid htz
  have HT1 := Lib.hid ht1
  rw [← hts] at HT
  have HTS := Lib.hid hts
  have hlen : (Sha.twice m).length = 32 := sum_len _
  have HLEN := Lib.hid hlen
  have hzh := zero_hash
  obtain ⟨zh, hzhe⟩ : ∃ zh, zh = bytesArr (List.replicate 32 0) := ⟨_, rfl⟩
  rw [← hzhe] at hzh
  have HZH := Lib.hid hzh
  have HZHE := Lib.hid hzhe
  have HCK := Lib.hid (show Sha.check m = ((Sha.twice m).getD 0 0).toUInt32 ||| ((Sha.twice m).getD 1 0).toUInt32 <<< 8 ||| ((Sha.twice m).getD 2 0).toUInt32 <<< 16 ||| ((Sha.twice m).getD 3 0).toUInt32 <<< 24 from rfl)
  clear hat hzh hzhe htz ht1 hts hlen
  go_enter Tryd.func80, Tryd.ntmps80
  go_wp2_with fail
  refine HT.out.mono ?_
  rintro e w1 ⟨rfl, hb1⟩
  have HB1 := Lib.hid hb1
  clear hb1
  go_upto_region 2 with (first
    | (refine wpList_allocOf rfl 93 rfl zh HZH.out ?_)
    | (refine wpList_store_rowTo rfl 93 (.tmp 3) (.tmp 5) rfl rfl w1.heap.size ts rfl rfl 93 zh (Bk.new _ _ _) ?hi1 ?hold1 HT1.out ?_))
  case hi1 => rw [HTZ.out]; exact info_hash
  case hold1 => rw [HTZ.out, HZHE.out]; rfl
  obtain ⟨W2, hW2⟩ : ∃ W2, W2 = (w1.alloc (.cells zh 93)).setRow w1.heap.size ts := ⟨_, rfl⟩
  rw [← hW2]
  have kt : Bk W2 w1.heap.size 93 (bytesArr (Sha.twice m)) := by rw [hW2, ← HTS.out]; exact Bk.setRow (Bk.new w1 _ zh) ts
  have HB2 := Lib.hid (show Below w.heap.size w W2 by rw [hW2]; exact below_setRow (HB1.out.alloc HB1.out.size _) HB1.out.size _)
  have c0 : W2.cell? ⟨w1.heap.size, 0, none⟩ = some (.int .u8 (((Sha.twice m).getD 0 0).toNat : Int)) := by rw [kt.cell]; simp [bytesArr, byteV, HLEN.out]
  have c1 : W2.cell? ⟨w1.heap.size, 1, none⟩ = some (.int .u8 (((Sha.twice m).getD 1 0).toNat : Int)) := by rw [kt.cell]; simp [bytesArr, byteV, HLEN.out]
  have c2 : W2.cell? ⟨w1.heap.size, 2, none⟩ = some (.int .u8 (((Sha.twice m).getD 2 0).toNat : Int)) := by rw [kt.cell]; simp [bytesArr, byteV, HLEN.out]
  have c3 : W2.cell? ⟨w1.heap.size, 3, none⟩ = some (.int .u8 (((Sha.twice m).getD 3 0).toNat : Int)) := by rw [kt.cell]; simp [bytesArr, byteV, HLEN.out]
  generalize (Sha.twice m).getD 0 0 = b0 at *
  generalize (Sha.twice m).getD 1 0 = b1 at *
  generalize (Sha.twice m).getD 2 0 = b2 at *
  generalize (Sha.twice m).getD 3 0 = b3 at *
  have h0 := b0.toNat_lt
  have h1 := b1.toNat_lt
  have h2 := b2.toNat_lt
  have h3 := b3.toNat_lt
  clear hW2 kt
  go_wp2_with fail
  go_ret
  refine ⟨ret_u32 ?_, HB2.out⟩
  rw [HCK.out, check_bytes]
  all_goals omega
end Go.Proofs.YtpacgblddeoheaaDoor
/- The document's frames: names, what is put. -/
namespace Go.Proofs.YtpacgblddeoheaaDoor
open Go.RowKit Go.Deep
set_option linter.unusedVariables false
set_option linter.unusedSimpArgs false
set_option maxRecDepth 100000
attribute [local go_sem ↓] Go.wp_at_zero Go.wp_at_succ
theorem take_all_next (s : ByteArray) {k : Nat} (h : k < s.size) : (s.data.toList.take (k + 1)).all Frm.letter = ((s.data.toList.take k).all Frm.letter && Frm.letter s[k]) := by
  have h' : k < s.data.toList.length := by rw [str_len]; exact h
  rw [List.take_succ_eq_append_getElem h', List.all_append]
  simp only [List.all_cons, List.all_nil, Bool.and_true]
  rfl
theorem not_letter (s : ByteArray) {k : Nat} (h : k < s.size) (hn : Frm.letter s[k] = false) : Frm.named s.data.toList = false := by
  have h' : k < s.data.toList.length := by rw [str_len]; exact h
  have : s.data.toList.all Frm.letter = false := by
    rw [List.all_eq_false]
    exact ⟨s.data.toList[k], List.getElem_mem h', by rw [show s.data.toList[k] = s[k] from rfl, hn]; simp⟩
  unfold Frm.named
  rw [this, Bool.and_false]
theorem named_all (s : ByteArray) (h : s.data.toList.all Frm.letter = true) : Frm.named s.data.toList = (decide (1 ≤ s.size) && decide (s.size ≤ 12)) := by
  unfold Frm.named
  rw [h, Bool.and_true, str_len]
  congr 1
  by_cases h0 : s.data.toList = []
  · have : s.size = 0 := by rw [← str_len, h0]; rfl
    simp [h0, this]
  · have : 0 < s.size := by rw [← str_len]; exact List.length_pos_iff.2 h0
    simp [h0]; omega
theorem named_ref (s : ByteArray) (w : World) (hs : s.size ≤ 9223372036854775807) : Calls Tryd.prog 94 #[.string s] w fun e w' => e = .returned (.bool (Frm.named s.data.toList)) ∧ w = w' := by
  go_enter Tryd.func94, Tryd.ntmps94
  go_wp2_with fail
  go_loop [6] (fun i => ∃ k : Nat, k ≤ s.size ∧ i = .int .i64 (k : Int) ∧ Hid ((s.data.toList.take k).all Frm.letter = true)) (fun i => s.size - (intOf i).toNat)
  case atStart => exact ⟨0, Nat.zero_le _, rfl, Lib.hid rfl⟩
  case round =>
    obtain ⟨k, hk, rfl, ha⟩ := hrel
    by_cases hlt : k < s.size
    · have hlt' : (k : Int) < (s.size : Int) := by omega
      have HT := Lib.hid (take_all_next s hlt)
      have HLT := Lib.hid (show Frm.letter s[k] = decide (97 ≤ s[k].toNat ∧ s[k].toNat ≤ 122) from rfl)
      have HNL := Lib.hid (not_letter s hlt)
      by_cases g1 : s[k].toNat < 97
      · have g1' : (s[k].toNat : Int) < 97 := by omega
        go_wp2_with fail
        go_ret
        exact ⟨ret_bool (HNL.out (by rw [HLT.out]; exact decide_eq_false (by omega))).symm, rfl⟩
      · have g1' : ¬ (s[k].toNat : Int) < 97 := by omega
        by_cases g2 : 122 < s[k].toNat
        · have g2' : (122 : Int) < (s[k].toNat : Int) := by omega
          go_wp2_with fail
          go_ret
          exact ⟨ret_bool (HNL.out (by rw [HLT.out]; exact decide_eq_false (by omega))).symm, rfl⟩
        · have g2' : ¬ (122 : Int) < (s[k].toNat : Int) := by omega
          go_wp2_with fail
          go_round
          case rel => exact ⟨k + 1, by omega, by go_num, Lib.hid (by rw [HT.out, ha.out, HLT.out]; simp; omega)⟩
          case measure => simp [intOf]; omega
    · have hlt' : ¬ (k : Int) < (s.size : Int) := by omega
      have HNA := Lib.hid (named_all s (by have := ha.out; rwa [show k = s.data.toList.length by rw [str_len]; omega, List.take_length] at this))
      clear ha
      by_cases h1 : 1 ≤ s.size
      · have h1' : (1 : Int) ≤ (s.size : Int) := by omega
        by_cases h12 : s.size ≤ 12
        · have h12' : (s.size : Int) ≤ 12 := by omega
          go_wp2_with fail
          go_ret
          exact ⟨ret_bool (by rw [HNA.out]; simp [h1, h12]), rfl⟩
        · have h12' : ¬ (s.size : Int) ≤ 12 := by omega
          go_wp2_with fail
          go_ret
          exact ⟨ret_bool (by rw [HNA.out]; simp [h12]), rfl⟩
      · have h1' : ¬ (1 : Int) ≤ (s.size : Int) := by omega
        go_wp2_with fail
        go_ret
        exact ⟨ret_bool (by rw [HNA.out]; simp [h1]), rfl⟩
theorem magic_ref (w : World) : Calls Tryd.prog 93 #[] w fun e w' => ∃ g, e = .returned (.slice (some ⟨g, 0, none⟩) 4 4) ∧ w.heap.size ≤ g ∧ Bk w' g 5 (bytesArr Frm.magic) ∧ Below w.heap.size w w' := by
  go_enter Tryd.func93, Tryd.ntmps93
  go_wp2
  go_ret
  exact ⟨_, rfl, Nat.le_refl _, Bk.new _ _ _, Joins.below_alloc1 _ _⟩
end Go.Proofs.YtpacgblddeoheaaDoor
