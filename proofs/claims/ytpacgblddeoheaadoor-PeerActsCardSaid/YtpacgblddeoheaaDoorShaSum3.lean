/- Package sha: Check. -/
import Derived.Test.YtpacgblddeoheaaDoorShaTwice
namespace Go.Proofs.YtpacgblddeoheaaDoor
open Go.RowKit Go.Deep
set_option linter.unusedVariables false
set_option linter.unusedSimpArgs false
set_option maxRecDepth 100000
attribute [local go_sem ↓] Go.wp_at_zero Go.wp_at_succ

theorem u8cell {b : UInt8} : (Value.int .u8 (b.toNat : Int)) = .int .u8 (b.toUInt32.toNat : Int) := by rw [UInt8.toNat_toUInt32]
theorem hash_byte {w : World} {g t : Nat} {l : List UInt8} (h : Bk w g t (bytesArr l)) {i : Nat} (hi : i < l.length) : w.cell? ⟨g, i, none⟩ = some (.int .u8 ((l.getD i 0).toUInt32.toNat : Int)) := by
  rw [h.cell]; simp [bytesArr, byteV, hi]
theorem check_any (A : Option Addr) (c B : Nat) (l : List UInt8) (w : World) (hl : Laid w) (hp : BytesAt w B A l) (hB : B ≤ w.heap.size) (hlc : l.length ≤ c) (hm : c ≤ maxLen) (hs : l.length ≤ 576460752303423488) :
    Calls Tryd.prog 69 #[.slice A l.length c] w fun e w' => e = .returned (.int .u32 ((Sha.check l).toNat : Int)) ∧ Below w.heap.size w w' := by
  have hpb := parts_box w 22 A c B w.heap.size l hB hlc hm hp rfl
  have hfl : [l].flatten = l := by simp only [List.flatten_cons, List.flatten_nil, List.append_nil]
  have HT := Lib.hid (twice_any (some ⟨w.heap.size, 0, none⟩) 1 _ [l] _ (hl.below (Joins.below_alloc1 _ _)) hpb (Nat.le_refl _) (Nat.le_refl _) (by simp [maxLen]) (by rw [hfl]; exact hs))
  rw [hfl] at HT
  have HC := Lib.hid (show Sha.check l = ((Sha.twice l).getD 0 0).toUInt32 ||| ((Sha.twice l).getD 1 0).toUInt32 <<< 8 ||| ((Sha.twice l).getD 2 0).toUInt32 <<< 16 ||| ((Sha.twice l).getD 3 0).toUInt32 <<< 24 from rfl)
  have hlen := sum_len (Sha.sum l)
  obtain ⟨t, ht⟩ : ∃ t, t = Sha.twice l := ⟨_, rfl⟩
  have hlen : t.length = 32 := by rw [ht]; exact hlen
  rw [← ht] at HT HC
  have HLEN := Lib.hid hlen
  obtain ⟨ts, hts⟩ : ∃ ts, ts = bytesArr t := ⟨_, rfl⟩
  rw [← hts] at HT
  have HTZ := Lib.hid (show ts.size = 32 by rw [hts]; simp [bytesArr, hlen])
  have HT1 := Lib.hid (show ts.all (·.oneCell') = true by rw [hts]; simp [bytesArr, Value.oneCell', byteV])
  have HTS := Lib.hid hts
  clear hpb hp hl ht hts hlen
  go_enter Tryd.func69, Tryd.ntmps69
  go_wp2_with fail
  refine HT.out.mono ?_
  rintro e w1 ⟨rfl, hb1⟩
  have HB1 := Lib.hid ((Joins.below_alloc1 w (.cells #[.slice A l.length c] 22)).trans (hb1.mono (by simp)))
  clear hb1 HT
  go_upto_region 2 with (refine wpList_store_row rfl 93 (.tmp 3) (.tmp 6) rfl w1.heap.size ts (by rfl) (by rfl) 93 (bytesArr (List.replicate 32 0)) ?hg1 ?hi1 ?hold1 HT1.out ?_)
  case hg1 => exact Bk.new w1 _ (bytesArr (List.replicate 32 0))
  case hi1 => rw [HTZ.out]; exact info_hash
  case hold1 => rw [HTZ.out]; rfl
  rw [← zero32]
  obtain ⟨W2, hW2⟩ : ∃ W2, W2 = (w1.alloc (.cells (bytesArr (List.replicate 32 0)) 93)).setRow w1.heap.size ts := ⟨_, rfl⟩
  rw [← hW2]
  have kt : Bk W2 w1.heap.size 93 (bytesArr t) := by rw [hW2, ← HTS.out]; exact Bk.setRow (Bk.new w1 _ (bytesArr (List.replicate 32 0))) ts
  have HB2 := Lib.hid (show Below w.heap.size w W2 by rw [hW2]; exact below_setRow (HB1.out.alloc HB1.out.size _) HB1.out.size _)
  have c0 := hash_byte kt (i := 0) (by rw [HLEN.out]; omega)
  have c1 := hash_byte kt (i := 1) (by rw [HLEN.out]; omega)
  have c2 := hash_byte kt (i := 2) (by rw [HLEN.out]; omega)
  have c3 := hash_byte kt (i := 3) (by rw [HLEN.out]; omega)
  generalize (t.getD 0 0).toUInt32 = x0 at *
  generalize (t.getD 1 0).toUInt32 = x1 at *
  generalize (t.getD 2 0).toUInt32 = x2 at *
  generalize (t.getD 3 0).toUInt32 = x3 at *
  have l0 := u32_lt x0
  have l1 := u32_lt x1
  have l2 := u32_lt x2
  have l3 := u32_lt x3
  clear hW2 kt
  go_wp2_with fail
  go_ret
  refine ⟨ret_u32 ?_, HB2.out⟩
  rw [u_shl8, u_shl16, u_shl24, u_or, u_or, u_or, HC.out]
end Go.Proofs.YtpacgblddeoheaaDoor
