/- Package sha: sums of bytes. -/
import Derived.Test.YtpacgblddeoheaaDoorShaD
namespace Go.Proofs.YtpacgblddeoheaaDoor
open Go.RowKit Go.Deep
set_option linter.unusedVariables false
set_option linter.unusedSimpArgs false
set_option maxRecDepth 100000
attribute [local go_sem ↓] Go.wp_at_zero Go.wp_at_succ

theorem sum_len (m : List UInt8) : (Sha.sum m).length = 32 := by
  unfold Sha.sum Sha.St.list Sha.be
  rfl
theorem arr32 {os : Array Value} {m : List UInt8} (h : os = bytesArr (Sha.sum m)) : os.size = 32 ∧ os.all (·.oneCell') = true := by
  subst h
  exact ⟨by simp [bytesArr, sum_len], by simp [bytesArr, Value.oneCell', byteV]⟩
def zeros32 : Array Value := bytesArr (List.replicate 32 0)
theorem Bk.setRow {w : World} {g t : Nat} {cs : Array Value} (h : Bk w g t cs) (cs' : Array Value) : Bk (w.setRow g cs') g t cs' := setRow_heap _ _ _ _ _ _ h
theorem Bk.setRow_far {w : World} {g g' t : Nat} {cs : Array Value} (h : Bk w g t cs) (hn : g ≠ g') (cs' : Array Value) : Bk (w.setRow g' cs') g t cs := (setRow_other w g' g cs' hn).trans h
set_option maxHeartbeats 400000 in
theorem sums_any (A : Option Addr) (c B : Nat) (ls : List (List UInt8)) (w : World) (hl : Laid w) (hp : PartsAt w B A ls) (hB : B ≤ w.heap.size) (hlc : ls.length ≤ c) (hm : c ≤ maxLen) (hs : ls.flatten.length ≤ 576460752303423488) :
    Calls Tryd.prog 99 #[.slice A ls.length c] w fun e w' => e = .returned (.agg (bytesArr (Sha.sum ls.flatten))) ∧ Below w.heap.size w w' := by
  obtain ⟨os, hos⟩ : ∃ os, os = bytesArr (Sha.sum ls.flatten) := ⟨_, rfl⟩
  obtain ⟨hoz, ho1⟩ := arr32 hos
  have HOZ := Lib.hid hoz
  have HO1 := Lib.hid ho1
  have HOS := Lib.hid hos
  rw [← hos]
  have HP := Lib.hid hp
  have HL := Lib.hid hl
  clear hoz ho1 hos hp hl
  go_enter Tryd.func99, Tryd.ntmps99
  go_wp2_with fail
  rw [← zero32]
  have hb0 : Below w.heap.size w (w.alloc (.cells (bytesArr (List.replicate 32 0)) 93)) := Joins.below_alloc1 _ _
  refine (hash_new _ (HL.out.below hb0)).mono ?_
  rintro e w1 ⟨h, rfl, hh, hi1, hb1⟩
  have hh' : w.heap.size + 1 ≤ h := by simpa using hh
  have b01 : Below w.heap.size w w1 := hb0.trans (hb1.mono (by simp))
  have k1 : Bk w1 w.heap.size 93 (bytesArr (List.replicate 32 0)) := (Bk.new w _ _).below hb1 (by simp)
  have hlt1 := hi1.lt
  have HB01 := Lib.hid b01
  have HK1 := Lib.hid k1
  have n1 : 1 ≠ h := by have := HL.out.lc; omega
  have n2 : 0 ≠ h := by have := HL.out.lf; omega
  have HC := Lib.hid (write_any h [] ls A c B w1 hi1 (HL.out.below b01) n1 n2 (HP.out.below (b01.mono hB)) (by omega) hlc hm (by show 0 + ls.flatten.length ≤ _; omega))
  clear hb0 hb1 b01 k1 hi1 n1 n2 hh
  go_wp2_with fail
  refine HC.out.mono ?_
  rintro e w2 ⟨rfl, hi2, hk2⟩
  rw [List.nil_append] at hi2
  have HB02 := Lib.hid (HB01.out.trans (hk2.below_from (B := w.heap.size) (by omega) HB01.out.size))
  have HK2 := Lib.hid (HK1.out.kp hk2 (by omega))
  have HC2 := Lib.hid (sum_any h _ w2 hi2 (HL.out.below HB02.out) hs)
  clear hk2 hi2 HC HK1
  go_wp2_with fail
  refine HC2.out.mono ?_
  rintro e w3 ⟨rfl, hb3⟩
  rw [← HOS.out]
  have HB03 := Lib.hid (HB02.out.trans (hb3.mono HB02.out.size))
  have HK3 := Lib.hid (HK2.out.below hb3 HK2.out.lt)
  have hz3 : w.heap.size < w3.heap.size := HK3.out.lt
  clear hb3 HC2
  go_wp2_with (first
    | (refine wpList_store_row rfl 93 (.tmp 4) (.tmp 13) rfl w3.heap.size os (by rfl) (by rfl) 93 (bytesArr (List.replicate 32 0)) ?hg1 ?hi1 ?hold1 HO1.out ?_)
    | (refine wpList_load_row rfl 93 (.tmp 4) rfl w3.heap.size rfl 93 os (0, 0) _ ?hg2 Tryd.underlying93 rfl ?hi2 ?_)
    | (refine wpList_store_row rfl 93 (.tmp 2) (.tmp 15) rfl w.heap.size os (by rfl) (by rfl) 93 (bytesArr (List.replicate 32 0)) ?hg3 ?hi3 ?hold3 HO1.out ?_))
  case hg1 => exact Bk.new w3 _ (bytesArr (List.replicate 32 0))
  case hi1 => rw [HOZ.out]; exact info_hash
  case hold1 => rw [HOZ.out]; rfl
  case hg2 => exact Bk.setRow (Bk.new w3 _ (bytesArr (List.replicate 32 0))) os
  case hi2 => rw [HOZ.out]; exact info_hash
  case hg3 => exact (HK3.out.alloc _).setRow_far (by omega) os
  case hi3 => rw [HOZ.out]; exact info_hash
  case hold3 => rw [HOZ.out]; rfl
  refine bodyPost_ret (results_cell_row rfl _ _ w.heap.size 93 os (0, 0) _ rfl (Bk.setRow ((HK3.out.alloc _).setRow_far (by omega) os) os) Tryd.underlying93 rfl (by rw [HOZ.out]; exact info_hash)) rfl ⟨rfl, ?_⟩
  exact below_setRow (below_setRow (HB03.out.alloc HB03.out.size _) (by omega) _) (Nat.le_refl _) _
theorem Bk.bytesAt {w : World} {g t B : Nat} {bs : List UInt8} (h : Bk w g t (bytesArr bs)) (hB : g < B) : BytesAt w B (some ⟨g, 0, none⟩) bs := by
  intro i hi
  refine ⟨g, 0, [byteV bs[i]], rfl, hB, rfl, fun j hj => ?_⟩
  have hj0 : j = 0 := by simpa using hj
  subst hj0
  rw [h.cell]
  simp [bytesArr, hi]
theorem parts_one (w : World) (B g c : Nat) (A : Option Addr) (p : List UInt8) (hg : g < B) (h0 : w.cell? ⟨g, 0, none⟩ = some (.slice A p.length c)) (hc : p.length ≤ c) (hm : c ≤ maxLen) (hp : BytesAt w B A p) : PartsAt w B (some ⟨g, 0, none⟩) [p] := by
  intro i hi
  obtain rfl : i = 0 := by simp at hi; omega
  refine ⟨g, 0, [.slice A p.length c], rfl, hg, ⟨A, c, rfl, hc, hm, hp⟩, fun j hj => ?_⟩
  have hj0 : j = 0 := by simpa using hj
  subst hj0; simpa using h0
/-- one row of bytes, handed on by itself -/
theorem parts_box (w : World) (t : TypeId) (A : Option Addr) (c B n : Nat) (p : List UInt8) (hB : B ≤ w.heap.size) (hc : p.length ≤ c) (hm : c ≤ maxLen) (hp : BytesAt w B A p) (hn : n = w.heap.size) :
    PartsAt (w.alloc (.cells #[.slice A p.length c] t)) (w.alloc (.cells #[.slice A p.length c] t)).heap.size (some ⟨n, 0, none⟩) [p] := by
  subst hn
  exact parts_one _ _ _ c A p (by simp) ((Bk.new w t _).cell 0) hc hm (At.mono (At.below hp (((Below.refl _ _).alloc hB _))) (by simp; omega))
set_option maxHeartbeats 400000 in
theorem twice_any (A : Option Addr) (c B : Nat) (ls : List (List UInt8)) (w : World) (hl : Laid w) (hp : PartsAt w B A ls) (hB : B ≤ w.heap.size) (hlc : ls.length ≤ c) (hm : c ≤ maxLen) (hs : ls.flatten.length ≤ 576460752303423488) :
    Calls Tryd.prog 88 #[.slice A ls.length c] w fun e w' => e = .returned (.agg (bytesArr (Sha.twice ls.flatten))) ∧ Below w.heap.size w w' := by
  obtain ⟨os, hos⟩ : ∃ os, os = bytesArr (Sha.sum ls.flatten) := ⟨_, rfl⟩
  obtain ⟨hoz, ho1⟩ := arr32 hos
  have HOZ := Lib.hid hoz
  have HO1 := Lib.hid ho1
  have HOS := Lib.hid hos
  obtain ⟨ps, hps⟩ : ∃ ps, ps = bytesArr (Sha.twice ls.flatten) := ⟨_, rfl⟩
  obtain ⟨hpz, hp1⟩ := arr32 (m := Sha.sum ls.flatten) hps
  have HPZ := Lib.hid hpz
  have HP1 := Lib.hid hp1
  have HPS := Lib.hid hps
  rw [← hps]
  have HP := Lib.hid hp
  have HL := Lib.hid hl
  clear hoz ho1 hos hp hl hpz hp1 hps
  go_enter Tryd.func88, Tryd.ntmps88
  go_wp2_with fail
  rw [← zero32]
  have hb0 : Below w.heap.size w (w.alloc (.cells (bytesArr (List.replicate 32 0)) 93)) := Joins.below_alloc1 _ _
  refine (sums_any A c B ls _ (HL.out.below hb0) (HP.out.below (hb0.mono hB)) (by simp; omega) hlc hm hs).mono ?_
  rintro e w1 ⟨rfl, hb1⟩
  rw [← HOS.out]
  have b01 : Below w.heap.size w w1 := hb0.trans (hb1.mono (by simp))
  have k1 : Bk w1 w.heap.size 93 (bytesArr (List.replicate 32 0)) := (Bk.new w _ _).below hb1 (by simp)
  have HB01 := Lib.hid b01
  have HK1 := Lib.hid k1
  have hz1 : w.heap.size < w1.heap.size := k1.lt
  clear hb0 hb1 b01 k1
  go_wp2_with (refine wpList_store_row rfl 93 (.tmp 3) (.tmp 5) rfl w1.heap.size os (by rfl) (by rfl) 93 (bytesArr (List.replicate 32 0)) ?hg1 ?hi1 ?hold1 HO1.out ?_)
  case hg1 => exact Bk.new w1 _ (bytesArr (List.replicate 32 0))
  case hi1 => rw [HOZ.out]; exact info_hash
  case hold1 => rw [HOZ.out]; rfl
  rw [← zero32]
  obtain ⟨W2, hW2⟩ : ∃ W2, W2 = (w1.alloc (.cells (bytesArr (List.replicate 32 0)) 93)).setRow w1.heap.size os := ⟨_, rfl⟩
  rw [← hW2]
  have kos : Bk W2 w1.heap.size 93 (bytesArr (Sha.sum ls.flatten)) := by rw [hW2, ← HOS.out]; exact Bk.setRow (Bk.new w1 _ (bytesArr (List.replicate 32 0))) os
  have hb2 : Below w.heap.size w W2 := by rw [hW2]; exact below_setRow (HB01.out.alloc HB01.out.size _) (by omega) _
  have hz2 : W2.heap.size = w1.heap.size + 1 := by rw [hW2]; simp [World.setRow]
  have kr2 : Bk W2 w.heap.size 93 (bytesArr (List.replicate 32 0)) := by rw [hW2]; exact (HK1.out.alloc _).setRow_far (by omega) os
  have hpb := parts_box W2 22 (some ⟨w1.heap.size, 0, none⟩) 32 W2.heap.size (w1.heap.size + 1) (Sha.sum ls.flatten) (Nat.le_refl _) (by rw [sum_len]; omega) (by simp [maxLen]) (kos.bytesAt (by omega)) hz2.symm
  rw [sum_len] at hpb
  have hb2' := hb2.alloc hb2.size (.cells #[.slice (some ⟨w1.heap.size, 0, none⟩) 32 32] 22)
  have hfl : [Sha.sum ls.flatten].flatten = Sha.sum ls.flatten := by simp only [List.flatten_cons, List.flatten_nil, List.append_nil]
  refine (sums_any (some ⟨w1.heap.size + 1, 0, none⟩) 1 _ [Sha.sum ls.flatten] _ (HL.out.below hb2') hpb (Nat.le_refl _) (Nat.le_refl _) (by simp [maxLen]) (by rw [hfl, sum_len]; omega)).mono ?_
  rintro e w3 ⟨rfl, hb3⟩
  rw [hfl, show Sha.sum (Sha.sum ls.flatten) = Sha.twice ls.flatten from rfl, ← HPS.out]
  have HB03 := Lib.hid (hb2'.trans (hb3.mono hb2'.size))
  have HK3 := Lib.hid ((kr2.alloc (.cells #[.slice (some ⟨w1.heap.size, 0, none⟩) 32 32] 22)).below hb3 (by simp; omega))
  clear kos hb2 hpb hb2' hfl hb3 kr2 hz2 hW2 HK1
  go_wp2_with (refine wpList_store_row rfl 93 (.tmp 2) (.tmp 8) rfl w.heap.size ps (by rfl) (by rfl) 93 (bytesArr (List.replicate 32 0)) HK3.out ?hi2 ?hold2 HP1.out ?_)
  case hi2 => rw [HPZ.out]; exact info_hash
  case hold2 => rw [HPZ.out]; rfl
  refine bodyPost_ret (results_cell_row rfl _ _ w.heap.size 93 ps (0, 0) _ rfl (Bk.setRow HK3.out ps) Tryd.underlying93 rfl (by rw [HPZ.out]; exact info_hash)) rfl ⟨rfl, ?_⟩
  exact below_setRow HB03.out (Nat.le_refl _) _
end Go.Proofs.YtpacgblddeoheaaDoor
