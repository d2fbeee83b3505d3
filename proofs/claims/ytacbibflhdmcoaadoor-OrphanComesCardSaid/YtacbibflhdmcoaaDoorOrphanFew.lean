/- OrphanFew: the walk. -/
import Derived.Test.YtacbibflhdmcoaaDoorOrphC
import Derived.Test.YtacbibflhdmcoaaDoorOrphA
import Derived.Test.YtacbibflhdmcoaaDoorOrders
namespace Go.Proofs.YtacbibflhdmcoaaDoor
open Go.RowKit Go.Deep T7 O14 Go.ChangeShapes Go.WideShapes Go.ChangeAt
set_option linter.unusedVariables false
set_option linter.unusedSimpArgs false
set_option maxRecDepth 100000
set_option maxHeartbeats 4000000
attribute [local go_sem ↓] Go.wp_at_zero Go.wp_at_succ

theorem idarg_open {H : Type} {enc : TypeId × Value → H} {W : World} {v : Value} {d : DataW H} {p : List MemPlace} (hv : Value.okWide Tryd.prog W .any 0 54 v) (h : DataW.Trod enc Tryd.prog W 0 (fun _ => true) true 54 v d p) : ∃ l : List UInt8, v = .agg (l.map byteV).toArray ∧ l.length = 32 := by
  unfold Value.okWide at hv
  rw [Tryd.underlying54] at hv
  obtain ⟨cs, rfl, hsz, _⟩ := hv
  obtain ⟨fuel, hf⟩ := h
  obtain ⟨l, h1, h2⟩ := T7.hash_open hf
  refine ⟨l, ?_, h2⟩
  rw [← h1]
  rfl
theorem At.takeN {α : Type} {k : Nat} {R : List Value → α → Prop} {w : World} {B : Nat} {A : Option Addr} {l : List α} (h : At k R w B A l) (n : Nat) : At k R w B A (l.take n) := fun i hi => by
  have hi' : i < l.length := by rw [List.length_take] at hi; omega
  obtain ⟨b, off, vs, h1, h2, h3, h4⟩ := h i hi'
  exact ⟨b, off, vs, h1, h2, by rw [List.getElem_take]; exact h3, h4⟩
theorem greatB_false {l : List O14.Act} (h : greatB l = false) : l.length ≤ 1000 ∧ ∀ a ∈ l, a.parents.length ≤ 1000000 := by
  unfold greatB at h
  simp only [Bool.or_eq_false_iff, decide_eq_false_iff_not] at h
  refine ⟨by omega, fun a ha => ?_⟩
  have := List.any_eq_false.1 h.2 a ha
  simp only [Bool.or_eq_true, decide_eq_true_eq, not_or] at this
  omega
theorem hasId_any (es : List Ent) (id : List UInt8) : (es.any fun x => decide (x.id = id)) = (es.map Ent.id).any fun x => decide (x = id) := by
  rw [List.any_map]; rfl
theorem first_only {ids : List (List UInt8)} (h : ids.Nodup) {k : Nat} (hk : k < ids.length) : ((ids.take k).any fun x => decide (x = ids[k])) = false := by
  rw [List.any_eq_false]
  intro x hx
  obtain ⟨i, hi, rfl⟩ := List.mem_iff_getElem.1 hx
  rw [List.length_take] at hi
  rw [List.getElem_take, decide_eq_true_iff]
  exact (List.pairwise_iff_getElem.1 h) i k (by omega) hk (by omega)
theorem orphanFew_walk (w : World) (hlay : Laid w) (A : Option Addr) (n c : Nat) (l : List O14.Act) (hl : l.length = n) (hc : n ≤ c) (hm : c ≤ maxLen) (hat : At 7 (IsAct w w.heap.size) w w.heap.size A l) (id : List UInt8) (hid : id.length = 32) :
    Calls Tryd.prog 4 #[.slice A n c, .agg (id.map byteV).toArray] w fun e w' => e = .returned (.bool true) ∧ Below w.heap.size w w' := by
  subst hl
  have HLY := Lib.hid hlay
  have HAT := Lib.hid (show ActsAt w w.heap.size A l from hat)
  have HIL := Lib.hid hid
  obtain ⟨ix, hix⟩ : ∃ ix, ix = id.map byteV := ⟨_, rfl⟩
  have HIX := Lib.hid hix
  have HIXL := Lib.hid (show ix.length = 32 by rw [hix, List.length_map]; exact hid)
  rw [← hix]
  obtain ⟨w1, hw1⟩ : ∃ w1, w1 = w.alloc (.cells ix.toArray 54) := ⟨_, rfl⟩
  have HB1 := Lib.hid (show Below w.heap.size w w1 by rw [hw1]; exact Joins.below_alloc1 _ _)
  have HX1 := Lib.hid (show Bk w1 w.heap.size 54 ix.toArray by rw [hw1]; exact Bk.new _ _ _)
  have hz1 : w.heap.size < w1.heap.size := HX1.out.lt
  have HG := Lib.hid (fun W hb => great_any l A c w.heap.size W (HAT.out.below hb) hb.size hc hm)
  obtain ⟨gb, hgb⟩ : ∃ gb, gb = greatB l := ⟨_, rfl⟩
  rw [← hgb] at HG
  have HGB := Lib.hid hgb
  clear hlay hat hid hix hgb
  go_enter Tryd.func4, Tryd.ntmps4
  go_upto_region 1 with (fail)
  rw [← hw1]
  clear hw1
  go_wp2_with fail
  refine (alive_any w1 (HLY.out.below HB1.out)).mono ?_
  rintro e w2 ⟨rfl, hb2⟩
  have HB2 := Lib.hid (HB1.out.trans (hb2.mono HB1.out.size))
  have HX2 := Lib.hid (HX1.out.below hb2 hz1)
  clear hb2
  go_wp2_with fail
  refine (HG.out w2 HB2.out).mono ?_
  rintro e w3 ⟨rfl, hb3⟩
  have hz2 : w.heap.size < w2.heap.size := HX2.out.lt
  have HB3 := Lib.hid (HB2.out.trans (hb3.mono HB2.out.size))
  have HX3 := Lib.hid (HX2.out.below hb3 hz2)
  clear hb3
  cases gb with
  | true =>
    clear HGB
    go_wp2_with fail
    go_ret
    exact ⟨rfl, HB3.out⟩
  | false =>
  obtain ⟨hl1, hpa⟩ := greatB_false HGB.out.symm
  clear HGB
  have hz3 : w.heap.size < w3.heap.size := HX3.out.lt
  go_wp2_with fail
  refine (grown_any l A c w.heap.size w3 (HLY.out.below HB3.out) (HAT.out.below HB3.out) HB3.out.size hl1 hpa).mono ?_
  rintro e w4 ⟨O, v, rfl, hO, hP, hb4⟩
  have HB4 := Lib.hid (HB3.out.trans (hb4.mono HB3.out.size))
  have HX4 := Lib.hid (HX3.out.below hb4 hz3)
  have HP4 := Lib.hid hP
  have hgood := good_run l
  obtain ⟨es, hes⟩ : ∃ es, es = runEs l := ⟨_, rfl⟩
  rw [← hes] at HP4 hgood
  have h8 := hgood.few
  have HGD := Lib.hid hgood
  have hz4 : w.heap.size < w4.heap.size := HX4.out.lt
  have HALL := Lib.hid (all_any _ es O w3.heap.size v w4 HP4.out (by omega))
  clear hb4 hP hgood hes
  go_wp2_with fail
  refine HALL.out.mono ?_
  rintro e w5 ⟨A5, c5, rfl, hids, hb5⟩
  obtain ⟨A5', c5', hv5, hc5, hm5, hat5⟩ := hids.at_
  injection hv5 with e1 e2 e3
  subst e1 e3
  have HB5 := Lib.hid (HB4.out.trans (hb5.mono HB4.out.size))
  have HX5 := Lib.hid (HX4.out.below hb5 hz4)
  have HP5 := Lib.hid (show PoolAt (PU w3.heap.size O v) w5 O w3.heap.size v es from HP4.out.kp' (S := fun _ => False) hb5 (fun _ _ h => h) HP4.out.tO HP4.out.tv)
  have HAT5 := Lib.hid hat5
  have hz5 : w.heap.size < w5.heap.size := HX5.out.lt
  obtain ⟨ids, hids'⟩ : ∃ ids, ids = es.map Ent.id := ⟨_, rfl⟩
  have HIDS := Lib.hid hids'
  have HND := Lib.hid (show ids.Nodup by rw [hids']; exact HGD.out.apart)
  rw [← hids'] at HAT5 hc5
  obtain ⟨n, hn⟩ : ∃ n, n = es.length := ⟨_, rfl⟩
  have HE1000 := Lib.hid (show es.length ≤ 1000 by omega)
  have HN := Lib.hid (show n = ids.length by rw [hids', List.length_map, hn])
  rw [← hn] at h8 ⊢
  rw [← HN.out] at hc5
  have hc63 : (c5 : Int) ≤ 9223372036854775807 := by unfold maxLen at hm5; omega
  clear hids' hn hb5 hids hat5 e2 HALL HP4
  obtain ⟨zs, hzs⟩ : ∃ zs, zs = ((List.replicate 32 (0 : UInt8)).map byteV).toArray := ⟨_, rfl⟩
  have HZ := Lib.hid (show (Tryd.prog.info? 54).map (·.zero) = some (some (.agg zs)) by rw [hzs]; exact zero_hash0)
  have HZL := Lib.hid (show zs.size = 32 by rw [hzs]; simp)
  clear hzs
  go_wp2_with fail
  go_loopw [19] (fun iv wr => ∃ k : Nat, iv = .int .i64 (k : Int) ∧ k ≤ n ∧ Hid (Below w5.heap.size w5 wr)) (fun iv _ => n - (intOf iv).toNat)
  case atStart => exact ⟨0, rfl, Nat.zero_le _, Lib.hid (Below.refl _ _)⟩
  case round =>
    obtain ⟨k, rfl, hk, hb⟩ := hrel
    have hzr := hb.out.size
    by_cases hlt : k < n
    · have hlt1 : k < ids.length := by rw [← HN.out]; exact hlt
      obtain ⟨b, off, rfl, hbB, hr, hok⟩ := HashesAt.range (At.below HAT5.out hb.out) hlt1
      have i1 : (0 : Int) ≤ (k : Int) := by omega
      have i2 : (k : Int) < (n : Int) := by omega
      have hkc : k ≤ c5 := by omega
      have i3 : (k : Int) ≤ (c5 : Int) := by omega
      have HHAS := Lib.hid (fun W (hW : Below w5.heap.size w5 W) => has_any _ es O w3.heap.size v ids[k] hok W (HP5.out.kp' (T' := PU w3.heap.size O v) (S := fun _ => False) hW (fun _ _ h => h) HP5.out.tO HP5.out.tv) HE1000.out)
      have HRH := Lib.hid (fun W (hW : Below w5.heap.size w5 W) => rhas_any (ids.take k) (some ⟨b, off, none⟩) c5 w5.heap.size ids[k] hok W (At.takeN (At.below HAT5.out hW) k) hW.size (by rw [List.length_take]; omega))
      have hy1 : (es.any fun x => decide (x.id = ids[k])) = true := by
        rw [hasId_any, ← HIDS.out]
        exact List.any_eq_true.2 ⟨ids[k], List.getElem_mem hlt1, by simp⟩
      rw [hy1] at HHAS
      rw [first_only HND.out hlt1, List.length_take, Nat.min_eq_left (by omega)] at HRH
      have HR := Lib.hid hr
      have L1 := Lib.hid (show (ids[k].map byteV).length = 32 by rw [List.length_map]; exact hok)
      have HONE := Lib.hid (oneCell_bytes ids[k])
      generalize ids[k].map byteV = xs at *
      obtain ⟨wx, hwx⟩ : ∃ wx, wx = wr.alloc (.cells xs.toArray 54) := ⟨_, rfl⟩
      have HKX := Lib.hid (show Bk wx wr.heap.size 54 xs.toArray by rw [hwx]; exact Bk.new _ _ _)
      have HBX := Lib.hid (show Below w5.heap.size w5 wx by rw [hwx]; exact hb.out.alloc hb.out.size _)
      have hzx := HBX.out.size
      clear hr hy1
      go_upto_region 10 with (refine wpList_elem2 rfl rfl rfl rfl 54 (.tmp 22) (.tmp 8) (.tmp 23) (.tmp 21) rfl rfl rfl rfl b (off + k * 32) (by rfl) xs _ HR.out Tryd.underlying54 rfl (by rw [L1.out]; exact size_hash0) zs HZ.out (by rw [HZL.out, L1.out]) HONE.out (.int .i64 (k : Int)) (by rfl) (by rfl) (by rfl) ?_)
      rw [← hwx]
      clear hwx
      have HXR := Lib.hid (show wx.rangeAt wr.heap.size 0 xs from bk_range HKX.out)
      have HBD := Lib.hid (show Below w5.heap.size w5 wx.drew from HBX.out.drew)
      refine wp_region_L [(3, wr.heap.size, 0, xs), (7, wr.heap.size, 0, xs)] (by kernel_rfl) ?_
      refine wpAnyL_pure (i := 0) (v := ?_) rfl (by kernel_rfl) (by kernel_rfl) (by kernel_rfl) (fun _ _ _ h => h) (Or.inl ⟨by rfl, ?_⟩) ?_
      rotate_left
      · (intro w' _; go_simp <;> with_reducible rfl)
      simp only [Act.put, List.setIfInBounds_toArray, List.set_cons_zero, List.set_cons_succ, List.getElem_toArray, List.getElem_cons_zero, List.getElem_cons_succ]
      refine wpAnyL_pure (i := 1) (v := ?_) rfl (by kernel_rfl) (by kernel_rfl) (by kernel_rfl) (fun _ _ _ h => h) (Or.inl ⟨by rfl, ?_⟩) ?_
      rotate_left
      · (intro w' _; go_simp <;> with_reducible rfl)
      simp only [Act.put, List.setIfInBounds_toArray, List.set_cons_zero, List.set_cons_succ, List.getElem_toArray, List.getElem_cons_zero, List.getElem_cons_succ]
      refine wpAnyL_pure (i := 2) (v := ?_) rfl (by kernel_rfl) (by kernel_rfl) (by kernel_rfl) (fun _ _ _ h => h) (Or.inl ⟨by rfl, ?_⟩) ?_
      rotate_left
      · (intro w' _; go_simp <;> with_reducible rfl)
      simp only [Act.put, List.setIfInBounds_toArray, List.set_cons_zero, List.set_cons_succ, List.getElem_toArray, List.getElem_cons_zero, List.getElem_cons_succ]
      refine wpAnyL_load (i := 3) wr.heap.size 0 xs (.head _) HXR.out rfl (by kernel_rfl) (by kernel_rfl) (by kernel_rfl) (fun _ _ _ h => h) (by rfl) 54 (.tmp 8) rfl (by rfl) _ Tryd.underlying54 rfl (by rw [L1.out]; exact size_hash0) ?_
      simp only [Act.put, List.setIfInBounds_toArray, List.set_cons_zero, List.set_cons_succ, List.getElem_toArray, List.getElem_cons_zero, List.getElem_cons_succ]
      refine wpAnyL_ready (rs := [4]) (by kernel_rfl) (by simp) ?_
      refine (AllReadyL.cons rfl (fun K hK => ?_) AllReadyL.nil)
      go_simp
      refine (HRH.out _ HBD.out).mono ?_
      rintro e w' ⟨rfl, hb4⟩
      go_wp2_with fail
      refine hK.out _ _ (Keeps.below hb4) ?_
      clear hK K
      try simp only [Act.put, List.setIfInBounds_toArray, List.set_cons_zero, List.set_cons_succ, List.getElem_toArray, List.getElem_cons_zero, List.getElem_cons_succ]
      have HB4' := Lib.hid (HBD.out.trans (hb4.mono HBD.out.size))
      have HXR2 := Lib.hid (show w'.rangeAt wr.heap.size 0 xs from bk_range ((HKX.out.below ((Below.refl _ wx).drew.trans hb4) HKX.out.lt)))
      clear hb4
      refine wpAnyL_pure (i := 5) (v := ?_) rfl (by kernel_rfl) (by kernel_rfl) (by kernel_rfl) (fun _ _ _ h => h) (Or.inl ⟨by rfl, ?_⟩) ?_
      rotate_left
      · (intro w' _; go_simp <;> with_reducible rfl)
      simp only [Act.put, List.setIfInBounds_toArray, List.set_cons_zero, List.set_cons_succ, List.getElem_toArray, List.getElem_cons_zero, List.getElem_cons_succ]
      refine wpAnyL_pure (i := 6) (v := ?_) rfl (by kernel_rfl) (by kernel_rfl) (by kernel_rfl) (fun _ _ _ h => h) (Or.inl ⟨by rfl, ?_⟩) ?_
      rotate_left
      · (intro w' _; go_simp <;> with_reducible rfl)
      simp only [Act.put, List.setIfInBounds_toArray, List.set_cons_zero, List.set_cons_succ, List.getElem_toArray, List.getElem_cons_zero, List.getElem_cons_succ]
      refine wpAnyL_load (i := 7) wr.heap.size 0 xs (.tail _ (.head _)) HXR2.out rfl (by kernel_rfl) (by kernel_rfl) (by kernel_rfl) (fun _ _ _ h => h) (by rfl) 54 (.tmp 8) rfl (by rfl) _ Tryd.underlying54 rfl (by rw [L1.out]; exact size_hash0) ?_
      simp only [Act.put, List.setIfInBounds_toArray, List.set_cons_zero, List.set_cons_succ, List.getElem_toArray, List.getElem_cons_zero, List.getElem_cons_succ]
      refine wpAnyL_ready (rs := [8]) (by kernel_rfl) (by simp) ?_
      refine (AllReadyL.cons rfl (fun K hK => ?_) AllReadyL.nil)
      go_simp
      refine (HHAS.out _ HB4'.out).mono ?_
      rintro e w'' ⟨rfl, hb5⟩
      go_wp2_with fail
      refine hK.out _ _ (Keeps.below hb5) ?_
      clear hK K
      try simp only [Act.put, List.setIfInBounds_toArray, List.set_cons_zero, List.set_cons_succ, List.getElem_toArray, List.getElem_cons_zero, List.getElem_cons_succ]
      have HB5' := Lib.hid (HB4'.out.trans (hb5.mono HB4'.out.size))
      clear hb5
      refine wpAnyL_pure (i := 9) (v := ?_) rfl (by kernel_rfl) (by kernel_rfl) (by kernel_rfl) (fun _ _ _ h => h) (Or.inl ⟨by rfl, ?_⟩) ?_
      rotate_left
      · (intro w' _; go_simp <;> with_reducible rfl)
      simp only [Act.put, List.setIfInBounds_toArray, List.set_cons_zero, List.set_cons_succ, List.getElem_toArray, List.getElem_cons_zero, List.getElem_cons_succ]
      refine wpAnyL_pure (i := 10) (v := ?_) rfl (by kernel_rfl) (by kernel_rfl) (by kernel_rfl) (fun _ _ _ h => h) (Or.inl ⟨by rfl, ?_⟩) ?_
      rotate_left
      · (intro w' _; go_simp <;> with_reducible rfl)
      simp only [Act.put, List.setIfInBounds_toArray, List.set_cons_zero, List.set_cons_succ, List.getElem_toArray, List.getElem_cons_zero, List.getElem_cons_succ]
      refine wpAnyL_done (by kernel_rfl) ?_ _
      go_wp2_with fail
      go_roundw
      case rel => exact ⟨k + 1, by go_num, by omega, HB5'⟩
      case measure => simp [intOf]; omega
    · obtain rfl : k = n := by omega
      have HBR := Lib.hid (HB5.out.trans (hb.out.mono HB5.out.size))
      have HXr := Lib.hid (HX5.out.below hb.out hz5)
      have HXR := Lib.hid (show wr.rangeAt w.heap.size 0 ix from bk_range HXr.out)
      have HHAS := Lib.hid (fun W (hW : Below w5.heap.size w5 W) => has_any _ es O w3.heap.size v id HIL.out W (HP5.out.kp' (T' := PU w3.heap.size O v) (S := fun _ => False) hW (fun _ _ h => h) HP5.out.tO HP5.out.tv) HE1000.out)
      have HRH := Lib.hid (fun W (hW : Below w5.heap.size w5 W) => rhas_any ids A5 c5 w5.heap.size id HIL.out W (At.below HAT5.out hW) hW.size (by rw [← HN.out]; omega))
      rw [hasId_any, ← HIDS.out, ← HIX.out] at HHAS
      rw [← HN.out, ← HIX.out] at HRH
      generalize (ids.any fun x => decide (x = id)) = hb0 at HHAS HRH
      have i8 : (k : Int) ≤ 8 := by omega
      go_upto_region 13 with (fail)
      have HBD := Lib.hid (show Below w5.heap.size w5 wr.drew from hb.out.drew)
      refine wp_region_L [(5, w.heap.size, 0, ix), (8, w.heap.size, 0, ix)] (by kernel_rfl) ?_
      refine wpAnyL_pure (i := 0) (v := ?_) rfl (by kernel_rfl) (by kernel_rfl) (by kernel_rfl) (fun _ _ _ h => h) (Or.inl ⟨by rfl, ?_⟩) ?_
      rotate_left
      · (intro w' _; go_simp <;> with_reducible rfl)
      simp only [Act.put, List.setIfInBounds_toArray, List.set_cons_zero, List.set_cons_succ, List.getElem_toArray, List.getElem_cons_zero, List.getElem_cons_succ]
      refine wpAnyL_pure (i := 1) (v := ?_) rfl (by kernel_rfl) (by kernel_rfl) (by kernel_rfl) (fun _ _ _ h => h) (Or.inl ⟨by rfl, ?_⟩) ?_
      rotate_left
      · (intro w' _; go_simp <;> with_reducible rfl)
      simp only [Act.put, List.setIfInBounds_toArray, List.set_cons_zero, List.set_cons_succ, List.getElem_toArray, List.getElem_cons_zero, List.getElem_cons_succ]
      refine wpAnyL_pure (i := 2) (v := ?_) rfl (by kernel_rfl) (by kernel_rfl) (by kernel_rfl) (fun _ _ _ h => h) (Or.inl ⟨by rfl, ?_⟩) ?_
      rotate_left
      · (intro w' _; go_simp <;> with_reducible rfl)
      simp only [Act.put, List.setIfInBounds_toArray, List.set_cons_zero, List.set_cons_succ, List.getElem_toArray, List.getElem_cons_zero, List.getElem_cons_succ]
      refine wpAnyL_pure (i := 3) (v := ?_) rfl (by kernel_rfl) (by kernel_rfl) (by kernel_rfl) (fun _ _ _ h => h) (Or.inl ⟨by rfl, ?_⟩) ?_
      rotate_left
      · (intro w' _; go_simp <;> with_reducible rfl)
      simp only [Act.put, List.setIfInBounds_toArray, List.set_cons_zero, List.set_cons_succ, List.getElem_toArray, List.getElem_cons_zero, List.getElem_cons_succ]
      refine wpAnyL_pure (i := 4) (v := ?_) rfl (by kernel_rfl) (by kernel_rfl) (by kernel_rfl) (fun _ _ _ h => h) (Or.inl ⟨by rfl, ?_⟩) ?_
      rotate_left
      · (intro w' _; go_simp <;> with_reducible rfl)
      simp only [Act.put, List.setIfInBounds_toArray, List.set_cons_zero, List.set_cons_succ, List.getElem_toArray, List.getElem_cons_zero, List.getElem_cons_succ]
      refine wpAnyL_load (i := 5) w.heap.size 0 ix (.head _) HXR.out rfl (by kernel_rfl) (by kernel_rfl) (by kernel_rfl) (fun _ _ _ h => h) (by rfl) 54 (.tmp 3) rfl (by rfl) _ Tryd.underlying54 rfl (by rw [HIXL.out]; exact size_hash0) ?_
      simp only [Act.put, List.setIfInBounds_toArray, List.set_cons_zero, List.set_cons_succ, List.getElem_toArray, List.getElem_cons_zero, List.getElem_cons_succ]
      refine wpAnyL_pure (i := 7) (v := ?_) rfl (by kernel_rfl) (by kernel_rfl) (by kernel_rfl) (fun _ _ _ h => h) (Or.inl ⟨by rfl, ?_⟩) ?_
      rotate_left
      · (intro w' _; go_simp <;> with_reducible rfl)
      simp only [Act.put, List.setIfInBounds_toArray, List.set_cons_zero, List.set_cons_succ, List.getElem_toArray, List.getElem_cons_zero, List.getElem_cons_succ]
      refine wpAnyL_load (i := 8) w.heap.size 0 ix (.tail _ (.head _)) HXR.out rfl (by kernel_rfl) (by kernel_rfl) (by kernel_rfl) (fun _ _ _ h => h) (by rfl) 54 (.tmp 3) rfl (by rfl) _ Tryd.underlying54 rfl (by rw [HIXL.out]; exact size_hash0) ?_
      simp only [Act.put, List.setIfInBounds_toArray, List.set_cons_zero, List.set_cons_succ, List.getElem_toArray, List.getElem_cons_zero, List.getElem_cons_succ]
      refine wpAnyL_ready (rs := [6]) (by kernel_rfl) (by simp) ?_
      refine (AllReadyL.cons rfl (fun K hK => ?_) AllReadyL.nil)
      go_simp
      refine (HHAS.out _ HBD.out).mono ?_
      rintro e w' ⟨rfl, hb4⟩
      go_wp2_with fail
      refine hK.out _ _ (Keeps.below hb4) ?_
      clear hK K
      try simp only [Act.put, List.setIfInBounds_toArray, List.set_cons_zero, List.set_cons_succ, List.getElem_toArray, List.getElem_cons_zero, List.getElem_cons_succ]
      have HB4' := Lib.hid (HBD.out.trans (hb4.mono HBD.out.size))
      clear hb4
      refine wpAnyL_ready (rs := [9]) (by kernel_rfl) (by simp) ?_
      refine (AllReadyL.cons rfl (fun K hK => ?_) AllReadyL.nil)
      go_simp
      refine (HRH.out _ HB4'.out).mono ?_
      rintro e w'' ⟨rfl, hb5⟩
      go_wp2_with fail
      refine hK.out _ _ (Keeps.below hb5) ?_
      clear hK K
      try simp only [Act.put, List.setIfInBounds_toArray, List.set_cons_zero, List.set_cons_succ, List.getElem_toArray, List.getElem_cons_zero, List.getElem_cons_succ]
      have HB5' := Lib.hid (HB4'.out.trans (hb5.mono HB4'.out.size))
      clear hb5
      have HEQB : ∀ W : World, (binOp .eql 4 (.bool hb0) (.bool hb0)).run Tryd.prog W = .ok (.bool true) W := fun W => by cases hb0 <;> rfl
      refine wpAnyL_pure (i := 10) (v := ?_) rfl (by kernel_rfl) (by kernel_rfl) (by kernel_rfl) (fun _ _ _ h => h) (Or.inl ⟨by rfl, ?_⟩) ?_
      rotate_left
      · (intro w' _; go_simp <;> with_reducible rfl)
      simp only [Act.put, List.setIfInBounds_toArray, List.set_cons_zero, List.set_cons_succ, List.getElem_toArray, List.getElem_cons_zero, List.getElem_cons_succ]
      refine wpAnyL_pure (i := 11) (v := ?_) rfl (by kernel_rfl) (by kernel_rfl) (by kernel_rfl) (fun _ _ _ h => h) (Or.inl ⟨by rfl, ?_⟩) ?_
      rotate_left
      · (intro w' _; go_simp <;> with_reducible rfl)
      simp only [Act.put, List.setIfInBounds_toArray, List.set_cons_zero, List.set_cons_succ, List.getElem_toArray, List.getElem_cons_zero, List.getElem_cons_succ]
      refine wpAnyL_pure (i := 12) (v := ?_) rfl (by kernel_rfl) (by kernel_rfl) (by kernel_rfl) (fun _ _ _ h => h) (Or.inl ⟨by rfl, ?_⟩) ?_
      rotate_left
      · (intro w' _; go_simp <;> with_reducible rfl)
      simp only [Act.put, List.setIfInBounds_toArray, List.set_cons_zero, List.set_cons_succ, List.getElem_toArray, List.getElem_cons_zero, List.getElem_cons_succ]
      refine wpAnyL_done (by kernel_rfl) ?_ _
      go_wp2_with fail
      go_ret
      exact ⟨rfl, HB5.out.trans (HB5'.out.mono HB5.out.size)⟩
end Go.Proofs.YtacbibflhdmcoaaDoor
