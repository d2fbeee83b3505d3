/- The document's sum of a sum, and its first four bytes. -/
import Derived.Test.YtacbibflhdmcoaaDoorRefBS
namespace Go.Proofs.YtacbibflhdmcoaaDoor
open Go.RowKit Go.Deep
set_option linter.unusedVariables false
set_option linter.unusedSimpArgs false
set_option maxRecDepth 100000
attribute [local go_sem ↓] Go.wp_at_zero Go.wp_at_succ
theorem twice_ref (A : Option Addr) (n c B : Nat) (m : List UInt8) (w : World) (hl : m.length = n) (hc : n ≤ c) (hm : c ≤ maxLen) (hn : n ≤ 140737488351232) (hat : BytesAt w B A m) (hB : B ≤ w.heap.size) :
    Calls Tryd.prog 60 #[.slice A n c] w fun e w' => e = .returned (.agg (bytesArr (Sha.twice m))) ∧ Below w.heap.size w w' := by
  subst hl
  obtain ⟨os, hos⟩ : ∃ os, os = bytesArr (Sha.sum m) := ⟨_, rfl⟩
  obtain ⟨hoz, ho1⟩ := arr32 hos
  have HOZ := Lib.hid hoz
  have HO1 := Lib.hid ho1
  have HOS := Lib.hid hos
  obtain ⟨ps, hps⟩ : ∃ ps, ps = bytesArr (Sha.twice m) := ⟨_, rfl⟩
  obtain ⟨hpz, hp1⟩ := arr32 (m := Sha.sum m) hps
  have HPZ := Lib.hid hpz
  have HP1 := Lib.hid hp1
  have HPS := Lib.hid hps
  rw [← hps]
  have HS := Lib.hid (fun W h1 h2 => sum_ref A m.length c B m W rfl hc hm hn h1 h2)
  have HAT := Lib.hid hat
  have hzh := zero_hash
  obtain ⟨zh, hzhe⟩ : ∃ zh, zh = bytesArr (List.replicate 32 0) := ⟨_, rfl⟩
  rw [← hzhe] at hzh
  have HZH := Lib.hid hzh
  have HZHE := Lib.hid hzhe
  clear hoz ho1 hpz hp1 hps hat hzh hzhe
  go_enter Tryd.func60, Tryd.ntmps60
  go_wp2_with (refine wpList_allocOf rfl 54 rfl zh HZH.out ?_)
  have hb0 : Below w.heap.size w (w.alloc (.cells zh 54)) := Joins.below_alloc1 _ _
  refine (HS.out _ (HAT.out.below (hb0.mono hB)) (by simp; omega)).mono ?_
  rintro e w1 ⟨rfl, hb1⟩
  rw [← hos]
  have b01 : Below w.heap.size w w1 := hb0.trans (hb1.mono (by simp))
  have k1 : Bk w1 w.heap.size 54 zh := (Bk.new w _ _).below hb1 (by simp)
  have HB01 := Lib.hid b01
  have HK1 := Lib.hid k1
  have hz1 : w.heap.size < w1.heap.size := k1.lt
  clear hb0 hb1 b01 k1 hos
  go_upto_region 2 with (first
    | (refine wpList_allocOf rfl 54 rfl zh HZH.out ?_)
    | (refine wpList_store_rowTo rfl 54 (.tmp 3) (.tmp 5) rfl rfl w1.heap.size os rfl rfl 54 zh (Bk.new _ _ _) ?hi1 ?hold1 HO1.out ?_))
  case hi1 => rw [HOZ.out]; exact info_hash
  case hold1 => rw [HOZ.out, HZHE.out]; rfl
  obtain ⟨W2, hW2⟩ : ∃ W2, W2 = (w1.alloc (.cells zh 54)).setRow w1.heap.size os := ⟨_, rfl⟩
  rw [← hW2]
  have kos : Bk W2 w1.heap.size 54 (bytesArr (Sha.sum m)) := by rw [hW2, ← HOS.out]; exact Bk.setRow (Bk.new w1 _ zh) os
  have hb2 : Below w.heap.size w W2 := by rw [hW2]; exact below_setRow (HB01.out.alloc HB01.out.size _) (by omega) _
  have kr2 : Bk W2 w.heap.size 54 zh := by rw [hW2]; exact (HK1.out.alloc _).setRow_far (by omega) os
  have HB2 := Lib.hid hb2
  have HR2 := Lib.hid kr2
  have hlt2 := kr2.lt
  have HS2 := Lib.hid (sum_ref (some ⟨w1.heap.size, 0, none⟩) 32 32 _ (Sha.sum m) W2 (sum_len m) (Nat.le_refl _) (by simp [maxLen]) (by omega) (kos.bytesAt kos.lt) (Nat.le_refl _))
  rw [show Sha.sum (Sha.sum m) = Sha.twice m from rfl, ← HPS.out] at HS2
  clear hW2 kos hb2 kr2
  go_wp2_with fail
  refine HS2.out.mono ?_
  rintro e w3 ⟨rfl, hb3⟩
  have HB3 := Lib.hid (HB2.out.trans (hb3.mono HB2.out.size))
  have HR3 := Lib.hid (HR2.out.below hb3 hlt2)
  clear hb3
  go_wp2_with (refine wpList_store_rowTo rfl 54 (.tmp 2) (.tmp 7) rfl rfl w.heap.size ps rfl rfl 54 zh HR3.out ?hi2 ?hold2 HP1.out ?_)
  case hi2 => rw [HPZ.out]; exact info_hash
  case hold2 => rw [HPZ.out, HZHE.out]; rfl
  refine bodyPost_ret (results_cell_row rfl _ _ w.heap.size 54 ps (0, 0) _ rfl (Bk.setRow HR3.out ps) Tryd.underlying54 rfl (by rw [HPZ.out]; exact info_hash)) rfl ⟨rfl, ?_⟩
  exact below_setRow HB3.out (Nat.le_refl _) _
end Go.Proofs.YtacbibflhdmcoaaDoor
