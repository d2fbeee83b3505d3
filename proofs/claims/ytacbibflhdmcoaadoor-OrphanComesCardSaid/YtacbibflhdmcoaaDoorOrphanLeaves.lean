/- OrphanLeaves: the walk. -/
import Derived.Test.YtacbibflhdmcoaaDoorOrphanApart
namespace Go.Proofs.YtacbibflhdmcoaaDoor
open Go.RowKit Go.Deep T7 O14 Go.ChangeShapes Go.WideShapes Go.ChangeAt
set_option linter.unusedVariables false
set_option linter.unusedSimpArgs false
set_option maxRecDepth 100000
set_option maxHeartbeats 4000000
attribute [local go_sem ↓] Go.wp_at_zero Go.wp_at_succ

section
variable {α : Type}
theorem filter_get {l : List α} {p : α → Bool} {i : Nat} (hi : i < l.length) (h : p l[i] = true) : ((l.take i).filter p).length < (l.filter p).length ∧ (l.filter p)[((l.take i).filter p).length]? = some l[i] := by
  have e : l.filter p = (l.take i).filter p ++ l[i] :: (l.drop (i + 1)).filter p := by
    have e0 : l = l.take i ++ l[i] :: l.drop (i + 1) := by rw [List.getElem_cons_drop, List.take_append_drop]
    have := congrArg (List.filter p) e0
    rw [List.filter_append, List.filter_cons, if_pos h] at this
    exact this
  rw [e]
  refine ⟨by rw [List.length_append, List.length_cons]; omega, ?_⟩
  rw [List.getElem?_append_right (Nat.le_refl _)]
  simp
theorem filter_snoc_yes {l : List α} {p : α → Bool} {i : Nat} (hi : i < l.length) (h : p l[i] = true) : ((l.take (i + 1)).filter p).length = ((l.take i).filter p).length + 1 := by
  rw [List.take_succ_eq_append_getElem hi, List.filter_append]; simp [h]
theorem filter_snoc_no {l : List α} {p : α → Bool} {i : Nat} (hi : i < l.length) (h : p l[i] = false) : ((l.take (i + 1)).filter p).length = ((l.take i).filter p).length := by
  rw [List.take_succ_eq_append_getElem hi, List.filter_append]; simp [h]
theorem filter_none (l : List α) (p : α → Bool) : (l.filter fun x => !p x).filter p = [] := by
  rw [List.filter_filter]
  apply List.filter_eq_nil_iff.2
  intro a _
  cases p a <;> simp
theorem filter_self (l : List α) (p : α → Bool) : ((l.filter fun x => !p x).filter fun x => !p x) = l.filter fun x => !p x := by
  rw [List.filter_filter]
  congr 1
  funext a
  cases p a <;> rfl
theorem filter_sum (l : List α) (p : α → Bool) : (l.filter p).length + (l.filter fun x => !p x).length = l.length := by
  induction l with
  | nil => rfl
  | cons x l ih => cases h : p x <;> simp [List.filter_cons, h] <;> omega
end
/-- who stays has another id than whoever goes -/
theorem other_id {es : List Ent} (hn : (es.map Ent.id).Nodup) {p : Ent → Bool} {i k : Nat} (hi : i < es.length) (hp : p es[i] = false) (hk : k < (es.filter p).length) : ((es.filter p).map Ent.id)[k]'(by rw [List.length_map]; exact hk) ≠ es[i].id := by
  rw [List.getElem_map]
  intro e
  have hm := List.getElem_mem hk
  obtain ⟨h1, h2⟩ := List.mem_filter.1 hm
  obtain ⟨m, hm', hme⟩ := List.mem_iff_getElem.1 h1
  have hne : m ≠ i := by
    intro h
    subst h
    rw [hme] at hp
    rw [hp] at h2
    cases h2
  have hpw := List.pairwise_iff_getElem.1 hn
  have e' : es[m].id = es[i].id := by rw [hme]; exact e
  rcases Nat.lt_or_gt_of_ne hne with h | h
  · exact hpw m i (by rw [List.length_map]; exact hm') (by rw [List.length_map]; exact hi) h (by rw [List.getElem_map, List.getElem_map]; exact e')
  · exact hpw i m (by rw [List.length_map]; exact hi) (by rw [List.length_map]; exact hm') h (by rw [List.getElem_map, List.getElem_map]; exact e'.symm)
theorem get_of {l : List (List UInt8)} {k : Nat} {x : List UInt8} (h : l[k]? = some x) : ∃ hk : k < l.length, l[k] = x := List.getElem?_eq_some_iff.1 h
theorem orphanLeaves_walk (w : World) (hlay : Laid w) (A : Option Addr) (n c : Nat) (l : List O14.Act) (hl : l.length = n) (hc : n ≤ c) (hm : c ≤ maxLen) (hat : At 7 (IsAct w w.heap.size) w w.heap.size A l) (src : Int) (wsrc : (Lit.int .i64 src).wf = true) (now : Int) (wnow : (Lit.int .u64 now).wf = true) :
    Calls Tryd.prog 6 #[.slice A n c, .int .i64 src, .int .u64 now] w fun e w' => e = .returned (.bool true) ∧ Below w.heap.size w w' := by
  subst hl
  obtain ⟨nw, hnw⟩ : ∃ nw : Nat, now = (nw : Int) := ⟨now.toNat, by have := wf_u64 wnow; omega⟩
  subst hnw
  clear wnow
  have HLY := Lib.hid hlay
  have HAT := Lib.hid (show ActsAt w w.heap.size A l from hat)
  have HG := Lib.hid (fun W hb => great_any l A c w.heap.size W (HAT.out.below hb) hb.size hc hm)
  obtain ⟨gb, hgb⟩ : ∃ gb, gb = greatB l := ⟨_, rfl⟩
  rw [← hgb] at HG
  have HGB := Lib.hid hgb
  clear hlay hat hgb wsrc
  go_enter Tryd.func6, Tryd.ntmps6
  go_wp2_with fail
  refine (alive_any w HLY.out).mono ?_
  rintro e w2 ⟨rfl, hb2⟩
  have HB2 := Lib.hid hb2
  clear hb2
  go_wp2_with fail
  refine (HG.out w2 HB2.out).mono ?_
  rintro e w3 ⟨rfl, hb3⟩
  have HB3 := Lib.hid (HB2.out.trans (hb3.mono HB2.out.size))
  clear hb3
  cases gb with
  | true =>
    clear HGB
    go_wp2_with fail
    go_ret
    exact ⟨rfl, HB3.out⟩
  | false =>
  obtain ⟨hl1, hpa⟩ := greatB_false HGB.out.symm
  clear HGB
  go_wp2_with fail
  refine (grown_any l A c w.heap.size w3 (HLY.out.below HB3.out) (HAT.out.below HB3.out) HB3.out.size hl1 hpa).mono ?_
  rintro e w4 ⟨O, v, rfl, hO, hP, hb4⟩
  have HB4 := Lib.hid (HB3.out.trans (hb4.mono HB3.out.size))
  have hgood := good_run l
  obtain ⟨es, hes⟩ : ∃ es, es = runEs l := ⟨_, rfl⟩
  rw [← hes] at hP hgood
  have h8 := hgood.few
  have HND := Lib.hid hgood.apart
  have HFIN := Lib.hid (show ∀ e ∈ es, e.fin ≤ 18446744073709551615 from fun e he => (hgood.each e he).2.2)
  generalize PU w3.heap.size O v = T0 at hP
  have HP4 := Lib.hid hP
  have hO4 : O < w4.heap.size := HP4.out.bk.lt
  have hz3 := HB3.out.size
  have hz4 := hb4.size
  clear hb4 hP hgood hes
  -- the names of what the law speaks of
  obtain ⟨pq, hpq⟩ : ∃ p : Ent → Bool, p = fun x => decide (x.src = src) := ⟨_, rfl⟩
  obtain ⟨qq, hqq⟩ : ∃ q : Ent → Bool, q = fun x => decide (x.fin ≤ nw) := ⟨_, rfl⟩
  have HLV := Lib.hid (show ∀ (T : Nat → Prop) (es : List Ent) (v : Value) (W : World), PoolAt T W O w3.heap.size v es → w3.heap.size ≤ W.heap.size → es.length ≤ 1000 → Calls Tryd.prog 28 #[.pointer (some ⟨O, 0, none⟩), .int .i64 src] W (OutIds T W O w3.heap.size es pq) by
    rw [hpq]; exact fun T es v W h hb hn => leave_any T es O w3.heap.size v src W h hb hn)
  have HEX := Lib.hid (show ∀ (T : Nat → Prop) (es : List Ent) (v : Value) (W : World), PoolAt T W O w3.heap.size v es → w3.heap.size ≤ W.heap.size → es.length ≤ 1000 → Calls Tryd.prog 29 #[.pointer (some ⟨O, 0, none⟩), .int .u64 (nw : Int)] W (OutIds T W O w3.heap.size es qq) by
    rw [hqq]; exact fun T es v W h hb hn => expire_any T es O w3.heap.size v nw W h hb hn)
  clear hpq hqq
  obtain ⟨eg, heg⟩ : ∃ eg, eg = es.filter pq := ⟨_, rfl⟩
  obtain ⟨e1, he1⟩ : ∃ e1, e1 = es.filter fun x => !pq x := ⟨_, rfl⟩
  have hsum := filter_sum es pq
  rw [← heg, ← he1] at hsum
  have HEG := Lib.hid heg
  have HE1 := Lib.hid he1
  have HNL := Lib.hid (show e1.filter pq = [] by rw [he1]; exact filter_none es pq)
  have HSL := Lib.hid (show (e1.filter fun x => !pq x) = e1 by rw [he1]; exact filter_self es pq)
  have HFIN1 := Lib.hid (show ∀ e ∈ e1, e.fin ≤ 18446744073709551615 from fun e he => HFIN.out e (by rw [he1] at he; exact (List.mem_filter.1 he).1))
  clear heg he1
  have HALL := Lib.hid (fun (T : Nat → Prop) (es : List Ent) (v : Value) (W : World) (h : PoolAt T W O w3.heap.size v es) (hn : es.length ≤ 1000) => all_any T es O w3.heap.size v W h hn)
  go_wp2_with fail
  refine (HALL.out T0 es v w4 HP4.out (by omega)).mono ?_
  rintro e w5 ⟨A5, c5, rfl, hi5, hb5⟩
  have HP5 := Lib.hid (show PoolAt T0 w5 O w3.heap.size v es from HP4.out.kp' (S := fun _ => False) hb5 (fun _ _ h => h) HP4.out.tO HP4.out.tv)
  have HB5 := Lib.hid (HB4.out.trans (hb5.mono HB4.out.size))
  have HI5 := Lib.hid hi5
  have hz5 := hb5.size
  clear hb5 hi5
  obtain ⟨ng, hng⟩ : ∃ ng, ng = eg.length := ⟨_, rfl⟩
  obtain ⟨nr, hnr⟩ : ∃ nr, nr = e1.length := ⟨_, rfl⟩
  have HNG := Lib.hid hng
  have HNR := Lib.hid hnr
  have HLEN := Lib.hid (show es.length = ng + nr by omega)
  rw [HLEN.out]
  have hn8 : ng + nr ≤ 8 := by omega
  clear hsum hng hnr h8
  go_wp2_with fail
  refine (HLV.out T0 es v w5 HP5.out (by omega) (by rw [HLEN.out]; omega)).mono ?_
  rintro e w6 ⟨vg, v6, rfl, hi6, hP6, hv6, hk6⟩
  rw [← HEG.out] at hi6
  rw [← HE1.out] at hP6
  generalize Tn T0 w5 v6 = T6 at hP6
  have HP6 := Lib.hid hP6
  have HI6 := Lib.hid hi6
  have hz6 := hk6.size
  have HW6 := Lib.hid (show IdsAt w4.heap.size w6 (.slice A5 es.length c5) (es.map Ent.id) from ⟨HI5.out.1, own_kpo HI5.out.2 hk6 (fun i hi e => by have := (own_lt HI5.out.2 i hi).1; omega)⟩)
  have HB6 := Lib.hid (show Below w.heap.size w w6 from Kp.from_elder HB5.out hk6 (fun i hi e => by omega))
  obtain ⟨Ag, cg, hvg, _⟩ := own_form hi6.2
  subst hvg
  rw [List.length_map, ← HNG.out]
  clear hi6 hP6 hv6 hk6 HI5
  go_wp2_with fail
  refine (HALL.out T6 e1 v6 w6 HP6.out (by rw [← HNR.out]; omega)).mono ?_
  rintro e w7 ⟨A7, c7, rfl, hi7, hb7⟩
  rw [← HNR.out]
  have HP7 := Lib.hid (show PoolAt T6 w7 O w3.heap.size v6 e1 from HP6.out.kp' (S := fun _ => False) hb7 (fun _ _ h => h) HP6.out.tO HP6.out.tv)
  have HB7 := Lib.hid (HB6.out.trans (hb7.mono HB6.out.size))
  have HI7 := Lib.hid hi7
  have HG7 := Lib.hid (show IdsAt w5.heap.size w7 (.slice Ag (eg.map Ent.id).length cg) (eg.map Ent.id) from ⟨HI6.out.1, own_below HI6.out.2 hb7⟩)
  have HW7 := Lib.hid (show IdsAt w4.heap.size w7 (.slice A5 es.length c5) (es.map Ent.id) from ⟨HW6.out.1, own_below HW6.out.2 hb7⟩)
  have hz7 := hb7.size
  clear hb7 hi7 HI6 HW6
  go_wp2_with fail
  refine (HLV.out T6 e1 v6 w7 HP7.out (by omega) (by rw [← HNR.out]; omega)).mono ?_
  rintro e w8 ⟨v0, v8, rfl, hi8, hP8, hv8, hk8⟩
  rw [HNL.out] at hi8
  rw [HSL.out] at hP8
  generalize Tn T6 w7 v8 = T8 at hP8
  have HP8 := Lib.hid hP8
  have hz8 := hk8.size
  have HB8 := Lib.hid (show Below w.heap.size w w8 from Kp.from_elder HB7.out hk8 (fun i hi e => by omega))
  have HR8 := Lib.hid (show IdsAt w6.heap.size w8 (.slice A7 e1.length c7) (e1.map Ent.id) from ⟨HI7.out.1, own_kpo HI7.out.2 hk8 (fun i hi e => by have := (own_lt HI7.out.2 i hi).1; omega)⟩)
  have HG8 := Lib.hid (show IdsAt w5.heap.size w8 (.slice Ag (eg.map Ent.id).length cg) (eg.map Ent.id) from ⟨HG7.out.1, own_kpo HG7.out.2 hk8 (fun i hi e => by have := (own_lt HG7.out.2 i hi).1; omega)⟩)
  have HW8 := Lib.hid (show IdsAt w4.heap.size w8 (.slice A5 es.length c5) (es.map Ent.id) from ⟨HW7.out.1, own_kpo HW7.out.2 hk8 (fun i hi e => by have := (own_lt HW7.out.2 i hi).1; omega)⟩)
  obtain ⟨A0, c0, hv0, _⟩ := own_form hi8.2
  subst hv0
  rw [show ([] : List Ent).map Ent.id = [] from rfl, List.length_nil]
  clear hi8 hP8 hv8 hk8 HI7 HG7 HW7
  obtain ⟨Aw', cw', hvw, _, _, hatw⟩ := HW8.out.at_
  injection hvw with x1 x2 x3
  subst x1 x3
  obtain ⟨Ag', cg', hvg', _, _, hatg⟩ := HG8.out.at_
  injection hvg' with y1 y2 y3
  subst y1 y3
  obtain ⟨Ar', cr', hvr, _, _, hatr⟩ := HR8.out.at_
  injection hvr with z1 z2 z3
  subst z1 z3
  have HATW := Lib.hid hatw
  have HATG := Lib.hid hatg
  have HATR := Lib.hid hatr
  clear x2 y2 z2 hatw hatg hatr HW8 HG8 HR8
  obtain ⟨zs, hzs⟩ : ∃ zs, zs = ((List.replicate 32 (0 : UInt8)).map byteV).toArray := ⟨_, rfl⟩
  have HZ := Lib.hid (show (Tryd.prog.info? 54).map (·.zero) = some (some (.agg zs)) by rw [hzs]; exact zero_hash0)
  have HZL := Lib.hid (show zs.size = 32 by rw [hzs]; simp)
  clear hzs
  go_wp2_with fail
  go_loopw [11, 12, 46] (fun kk jj iv wr => ∃ i k j : Nat, iv = .int .i64 (i : Int) ∧ kk = .int .i64 (k : Int) ∧ jj = .int .i64 (j : Int) ∧ i ≤ ng + nr ∧ Hid (k = ((es.take i).filter pq).length) ∧ Hid (j = ((es.take i).filter fun x => !pq x).length) ∧ k ≤ ng ∧ j ≤ nr ∧ Hid (Below w8.heap.size w8 wr)) (fun _ _ iv _ => ng + nr - (intOf iv).toNat)
  case atStart => exact ⟨0, 0, 0, rfl, rfl, rfl, Nat.zero_le _, Lib.hid (by simp), Lib.hid (by simp), Nat.zero_le _, Nat.zero_le _, Lib.hid (Below.refl _ _)⟩
  case round =>
    obtain ⟨i, k, j, rfl, rfl, rfl, hi, hkd, hjd, hk, hj, hb⟩ := hrel
    have hzr := hb.out.size
    by_cases hlt : i < ng + nr
    · have hlt1 : i < es.length := by rw [HLEN.out]; exact hlt
      obtain ⟨b, off, rfl, hbB, hr, hok⟩ := HashesAt.range (At.below HATW.out hb.out) (i := i) (by rw [List.length_map]; exact hlt1)
      rw [List.getElem_map] at hr hok
      have i1 : (0 : Int) ≤ (i : Int) := by omega
      have i2 : (i : Int) < (ng : Int) + (nr : Int) := by omega
      have HR := Lib.hid hr
      obtain ⟨xs, hxs⟩ : ∃ xs, xs = es[i].id.map byteV := ⟨_, rfl⟩
      have HXS := Lib.hid hxs
      have L1 := Lib.hid (show xs.length = 32 by rw [hxs, List.length_map]; exact hok)
      have HONE := Lib.hid (show ∀ u ∈ xs, u.oneCell' = true by rw [hxs]; exact oneCell_bytes _)
      rw [← hxs] at HR
      have HOKX := Lib.hid hok
      obtain ⟨wx, hwx⟩ : ∃ wx, wx = wr.alloc (.cells xs.toArray 54) := ⟨_, rfl⟩
      have HKX := Lib.hid (show Bk wx wr.heap.size 54 xs.toArray by rw [hwx]; exact Bk.new _ _ _)
      have HBX := Lib.hid (show Below w8.heap.size w8 wx by rw [hwx]; exact hb.out.alloc hb.out.size _)
      have HXR := Lib.hid (show wx.rangeAt wr.heap.size 0 xs from bk_range HKX.out)
      clear hr hxs hok
      go_upto_region 16 with (refine wpList_elem rfl rfl rfl 54 (.tmp 48) (.tmp 14) (.tmp 49) rfl rfl rfl b (off + i * 32) (by rfl) xs _ HR.out Tryd.underlying54 rfl (by rw [L1.out]; exact size_hash0) zs HZ.out (by rw [HZL.out, L1.out]) HONE.out (by rfl) (by rfl) ?_)
      rw [← hwx]
      clear hwx
      cases hpx : pq es[i] with
      | true =>
        obtain ⟨hkl, hkg⟩ := filter_get hlt1 hpx
        rw [← HEG.out, ← hkd.out] at hkl hkg
        have hkn : k < ng := by rw [HNG.out]; exact hkl
        have hgk : (eg.map Ent.id)[k]? = some es[i].id := by rw [List.getElem?_map, hkg]; rfl
        obtain ⟨hkL, hgk'⟩ := get_of hgk
        obtain ⟨bg, og, rfl, hbgB, hrg, hokq⟩ := HashesAt.range (At.below HATG.out HBX.out) hkL
        rw [hgk', ← HXS.out] at hrg
        have HRG := Lib.hid hrg
        have k1 : (0 : Int) ≤ (k : Int) := by omega
        have k2 : (k : Int) < (ng : Int) := by omega
        have HEQ : ∀ W, (binOp .eql 54 (.agg xs.toArray) (.agg xs.toArray)).run Tryd.prog W = .ok (.bool true) W := fun W => by
          have := run_eq_hash W es[i].id es[i].id HOKX.out HOKX.out
          rw [decide_eq_true rfl, ← HXS.out] at this
          exact this
        have HK1 := Lib.hid (show k + 1 = ((es.take (i + 1)).filter pq).length by rw [filter_snoc_yes hlt1 hpx, ← hkd.out])
        have HJ1 := Lib.hid (show j = ((es.take (i + 1)).filter fun x => !pq x).length by rw [filter_snoc_no hlt1 (by rw [hpx]; rfl), ← hjd.out])
        clear hkl hkg hgk hrg hokq hgk' hkL
        refine wp_region_L [(8, bg, (og + k * 32), xs), (9, wr.heap.size, 0, xs)] (by kernel_rfl) ?_
        refine wpAnyL_pure (i := 0) (v := ?_) rfl (by kernel_rfl) (by kernel_rfl) (by kernel_rfl) (fun _ _ _ h => h) (Or.inl ⟨by rfl, ?_⟩) ?_
        rotate_left
        · (intro w' _; go_simp <;> with_reducible rfl)
        simp only [Act.put, List.setIfInBounds_toArray, List.set_cons_zero, List.set_cons_succ, List.getElem_toArray, List.getElem_cons_zero, List.getElem_cons_succ]
        refine wpAnyL_pure (i := 1) (v := ?_) rfl (by kernel_rfl) (by kernel_rfl) (by kernel_rfl) (fun _ _ _ h => h) (Or.inl ⟨by rfl, ?_⟩) ?_
        rotate_left
        · (intro w' _; go_simp <;> with_reducible rfl)
        simp only [Act.put, List.setIfInBounds_toArray, List.set_cons_zero, List.set_cons_succ, List.getElem_toArray, List.getElem_cons_zero, List.getElem_cons_succ]
        refine wpAnyL_pure (i := 2) (v := ?_) rfl (by kernel_rfl) (by kernel_rfl) (by kernel_rfl) (fun _ _ _ h => h) (Or.inl ⟨by rfl, ?_⟩) ?_
        rotate_left
        · (intro w' _; go_simp <;> with_reducible rfl)
        simp only [Act.put, List.setIfInBounds_toArray, List.set_cons_zero, List.set_cons_succ, List.getElem_toArray, List.getElem_cons_zero, List.getElem_cons_succ]
        refine wpAnyL_pure (i := 3) (v := ?_) rfl (by kernel_rfl) (by kernel_rfl) (by kernel_rfl) (fun _ _ _ h => h) (Or.inl ⟨by rfl, ?_⟩) ?_
        rotate_left
        · (intro w' _; go_simp <;> with_reducible rfl)
        simp only [Act.put, List.setIfInBounds_toArray, List.set_cons_zero, List.set_cons_succ, List.getElem_toArray, List.getElem_cons_zero, List.getElem_cons_succ]
        refine wpAnyL_pure (i := 4) (v := ?_) rfl (by kernel_rfl) (by kernel_rfl) (by kernel_rfl) (fun _ _ _ h => h) (Or.inl ⟨by rfl, ?_⟩) ?_
        rotate_left
        · (intro w' _; go_simp <;> with_reducible rfl)
        simp only [Act.put, List.setIfInBounds_toArray, List.set_cons_zero, List.set_cons_succ, List.getElem_toArray, List.getElem_cons_zero, List.getElem_cons_succ]
        refine wpAnyL_pure (i := 5) (v := ?_) rfl (by kernel_rfl) (by kernel_rfl) (by kernel_rfl) (fun _ _ _ h => h) (Or.inl ⟨by rfl, ?_⟩) ?_
        rotate_left
        · (intro w' _; go_simp <;> with_reducible rfl)
        simp only [Act.put, List.setIfInBounds_toArray, List.set_cons_zero, List.set_cons_succ, List.getElem_toArray, List.getElem_cons_zero, List.getElem_cons_succ]
        refine wpAnyL_pure (i := 6) (v := ?_) rfl (by kernel_rfl) (by kernel_rfl) (by kernel_rfl) (fun _ _ _ h => h) (Or.inl ⟨by rfl, ?_⟩) ?_
        rotate_left
        · (intro w' _; go_simp <;> with_reducible rfl)
        simp only [Act.put, List.setIfInBounds_toArray, List.set_cons_zero, List.set_cons_succ, List.getElem_toArray, List.getElem_cons_zero, List.getElem_cons_succ]
        refine wpAnyL_pure (i := 7) (v := ?_) rfl (by kernel_rfl) (by kernel_rfl) (by kernel_rfl) (fun _ _ _ h => h) (Or.inl ⟨by rfl, ?_⟩) ?_
        rotate_left
        · (intro w' _; go_simp <;> with_reducible rfl)
        simp only [Act.put, List.setIfInBounds_toArray, List.set_cons_zero, List.set_cons_succ, List.getElem_toArray, List.getElem_cons_zero, List.getElem_cons_succ]
        refine wpAnyL_load (i := 8) bg (og + k * 32) xs (.head _) HRG.out rfl (by kernel_rfl) (by kernel_rfl) (by kernel_rfl) (fun _ _ _ h => h) (by rfl) 54 (.tmp 58) rfl (by rfl) _ Tryd.underlying54 rfl (by rw [L1.out]; exact size_hash0) ?_
        simp only [Act.put, List.setIfInBounds_toArray, List.set_cons_zero, List.set_cons_succ, List.getElem_toArray, List.getElem_cons_zero, List.getElem_cons_succ]
        refine wpAnyL_load (i := 9) wr.heap.size 0 xs (.tail _ (.head _)) HXR.out rfl (by kernel_rfl) (by kernel_rfl) (by kernel_rfl) (fun _ _ _ h => h) (by rfl) 54 (.tmp 14) rfl (by rfl) _ Tryd.underlying54 rfl (by rw [L1.out]; exact size_hash0) ?_
        simp only [Act.put, List.setIfInBounds_toArray, List.set_cons_zero, List.set_cons_succ, List.getElem_toArray, List.getElem_cons_zero, List.getElem_cons_succ]
        refine wpAnyL_pure (i := 10) (v := ?_) rfl (by kernel_rfl) (by kernel_rfl) (by kernel_rfl) (fun _ _ _ h => h) (Or.inl ⟨by rfl, ?_⟩) ?_
        rotate_left
        · (intro w' _; go_simp <;> with_reducible rfl)
        simp only [Act.put, List.setIfInBounds_toArray, List.set_cons_zero, List.set_cons_succ, List.getElem_toArray, List.getElem_cons_zero, List.getElem_cons_succ]
        refine wpAnyL_pure (i := 11) (v := ?_) rfl (by kernel_rfl) (by kernel_rfl) (by kernel_rfl) (fun _ _ _ h => h) (Or.inl ⟨by rfl, ?_⟩) ?_
        rotate_left
        · (intro w' _; go_simp <;> with_reducible rfl)
        simp only [Act.put, List.setIfInBounds_toArray, List.set_cons_zero, List.set_cons_succ, List.getElem_toArray, List.getElem_cons_zero, List.getElem_cons_succ]
        refine wpAnyL_pure (i := 12) (v := ?_) rfl (by kernel_rfl) (by kernel_rfl) (by kernel_rfl) (fun _ _ _ h => h) (Or.inl ⟨by rfl, ?_⟩) ?_
        rotate_left
        · (intro w' _; go_simp <;> with_reducible rfl)
        simp only [Act.put, List.setIfInBounds_toArray, List.set_cons_zero, List.set_cons_succ, List.getElem_toArray, List.getElem_cons_zero, List.getElem_cons_succ]
        refine wpAnyL_done (by kernel_rfl) ?_ _
        go_wp2_with fail
        go_roundw
        case rel => exact ⟨i + 1, k + 1, j, by go_num, by go_num, rfl, by omega, HK1, HJ1, by omega, hj, Lib.hid (HBX.out.drew)⟩
        case measure => simp [intOf]; omega
      | false =>
        have hpx' : (!pq es[i]) = true := by rw [hpx]; rfl
        obtain ⟨hjl, hjg⟩ := filter_get (p := fun x => !pq x) hlt1 hpx'
        rw [← HE1.out, ← hjd.out] at hjl hjg
        have hjn : j < nr := by rw [HNR.out]; exact hjl
        have hrj : (e1.map Ent.id)[j]? = some es[i].id := by rw [List.getElem?_map, hjg]; rfl
        obtain ⟨hjL, hrj'⟩ := get_of hrj
        obtain ⟨br, or, rfl, hbrB, hrr, hokq⟩ := HashesAt.range (At.below HATR.out HBX.out) hjL
        rw [hrj', ← HXS.out] at hrr
        have HRR := Lib.hid hrr
        have j1 : (0 : Int) ≤ (j : Int) := by omega
        have j2 : (j : Int) < (nr : Int) := by omega
        have HK1 := Lib.hid (show k = ((es.take (i + 1)).filter pq).length by rw [filter_snoc_no hlt1 hpx, ← hkd.out])
        have HJ1 := Lib.hid (show j + 1 = ((es.take (i + 1)).filter fun x => !pq x).length by rw [filter_snoc_yes (p := fun x => !pq x) hlt1 hpx', ← hjd.out])
        clear hjl hjg hrj hrr hokq hrj' hjL
        by_cases hkn : k < ng
        · have hkL : k < (eg.map Ent.id).length := by rw [List.length_map, ← HNG.out]; exact hkn
          obtain ⟨bg, og, rfl, hbgB, hrg, hokg⟩ := HashesAt.range (At.below HATG.out HBX.out) hkL
          have hne : (eg.map Ent.id)[k] ≠ es[i].id := by
            have := other_id HND.out hlt1 hpx (k := k) (by rw [← HEG.out, ← HNG.out]; exact hkn)
            simpa only [← HEG.out] using this
          obtain ⟨ys, hys⟩ : ∃ ys, ys = ((eg.map Ent.id)[k]).map byteV := ⟨_, rfl⟩
          have L2 := Lib.hid (show ys.length = 32 by rw [hys, List.length_map]; exact hokg)
          rw [← hys] at hrg
          have HRG := Lib.hid hrg
          have k1 : (0 : Int) ≤ (k : Int) := by omega
          have k2 : (k : Int) < (ng : Int) := by omega
          have HEQ : ∀ W, (binOp .eql 54 (.agg ys.toArray) (.agg xs.toArray)).run Tryd.prog W = .ok (.bool false) W := fun W => by
            have := run_eq_hash W ((eg.map Ent.id)[k]) es[i].id hokg HOKX.out
            rw [decide_eq_false hne, ← HXS.out, ← hys] at this
            exact this
          clear hrg hys hne hokg hkL
          refine wp_region_L [(8, bg, (og + k * 32), ys), (9, wr.heap.size, 0, xs)] (by kernel_rfl) ?_
          refine wpAnyL_pure (i := 0) (v := ?_) rfl (by kernel_rfl) (by kernel_rfl) (by kernel_rfl) (fun _ _ _ h => h) (Or.inl ⟨by rfl, ?_⟩) ?_
          rotate_left
          · (intro w' _; go_simp <;> with_reducible rfl)
          simp only [Act.put, List.setIfInBounds_toArray, List.set_cons_zero, List.set_cons_succ, List.getElem_toArray, List.getElem_cons_zero, List.getElem_cons_succ]
          refine wpAnyL_pure (i := 1) (v := ?_) rfl (by kernel_rfl) (by kernel_rfl) (by kernel_rfl) (fun _ _ _ h => h) (Or.inl ⟨by rfl, ?_⟩) ?_
          rotate_left
          · (intro w' _; go_simp <;> with_reducible rfl)
          simp only [Act.put, List.setIfInBounds_toArray, List.set_cons_zero, List.set_cons_succ, List.getElem_toArray, List.getElem_cons_zero, List.getElem_cons_succ]
          refine wpAnyL_pure (i := 2) (v := ?_) rfl (by kernel_rfl) (by kernel_rfl) (by kernel_rfl) (fun _ _ _ h => h) (Or.inl ⟨by rfl, ?_⟩) ?_
          rotate_left
          · (intro w' _; go_simp <;> with_reducible rfl)
          simp only [Act.put, List.setIfInBounds_toArray, List.set_cons_zero, List.set_cons_succ, List.getElem_toArray, List.getElem_cons_zero, List.getElem_cons_succ]
          refine wpAnyL_pure (i := 3) (v := ?_) rfl (by kernel_rfl) (by kernel_rfl) (by kernel_rfl) (fun _ _ _ h => h) (Or.inl ⟨by rfl, ?_⟩) ?_
          rotate_left
          · (intro w' _; go_simp <;> with_reducible rfl)
          simp only [Act.put, List.setIfInBounds_toArray, List.set_cons_zero, List.set_cons_succ, List.getElem_toArray, List.getElem_cons_zero, List.getElem_cons_succ]
          refine wpAnyL_pure (i := 4) (v := ?_) rfl (by kernel_rfl) (by kernel_rfl) (by kernel_rfl) (fun _ _ _ h => h) (Or.inl ⟨by rfl, ?_⟩) ?_
          rotate_left
          · (intro w' _; go_simp <;> with_reducible rfl)
          simp only [Act.put, List.setIfInBounds_toArray, List.set_cons_zero, List.set_cons_succ, List.getElem_toArray, List.getElem_cons_zero, List.getElem_cons_succ]
          refine wpAnyL_pure (i := 5) (v := ?_) rfl (by kernel_rfl) (by kernel_rfl) (by kernel_rfl) (fun _ _ _ h => h) (Or.inl ⟨by rfl, ?_⟩) ?_
          rotate_left
          · (intro w' _; go_simp <;> with_reducible rfl)
          simp only [Act.put, List.setIfInBounds_toArray, List.set_cons_zero, List.set_cons_succ, List.getElem_toArray, List.getElem_cons_zero, List.getElem_cons_succ]
          refine wpAnyL_pure (i := 6) (v := ?_) rfl (by kernel_rfl) (by kernel_rfl) (by kernel_rfl) (fun _ _ _ h => h) (Or.inl ⟨by rfl, ?_⟩) ?_
          rotate_left
          · (intro w' _; go_simp <;> with_reducible rfl)
          simp only [Act.put, List.setIfInBounds_toArray, List.set_cons_zero, List.set_cons_succ, List.getElem_toArray, List.getElem_cons_zero, List.getElem_cons_succ]
          refine wpAnyL_pure (i := 7) (v := ?_) rfl (by kernel_rfl) (by kernel_rfl) (by kernel_rfl) (fun _ _ _ h => h) (Or.inl ⟨by rfl, ?_⟩) ?_
          rotate_left
          · (intro w' _; go_simp <;> with_reducible rfl)
          simp only [Act.put, List.setIfInBounds_toArray, List.set_cons_zero, List.set_cons_succ, List.getElem_toArray, List.getElem_cons_zero, List.getElem_cons_succ]
          refine wpAnyL_load (i := 8) bg (og + k * 32) ys (.head _) HRG.out rfl (by kernel_rfl) (by kernel_rfl) (by kernel_rfl) (fun _ _ _ h => h) (by rfl) 54 (.tmp 58) rfl (by rfl) _ Tryd.underlying54 rfl (by rw [L2.out]; exact size_hash0) ?_
          simp only [Act.put, List.setIfInBounds_toArray, List.set_cons_zero, List.set_cons_succ, List.getElem_toArray, List.getElem_cons_zero, List.getElem_cons_succ]
          refine wpAnyL_load (i := 9) wr.heap.size 0 xs (.tail _ (.head _)) HXR.out rfl (by kernel_rfl) (by kernel_rfl) (by kernel_rfl) (fun _ _ _ h => h) (by rfl) 54 (.tmp 14) rfl (by rfl) _ Tryd.underlying54 rfl (by rw [L1.out]; exact size_hash0) ?_
          simp only [Act.put, List.setIfInBounds_toArray, List.set_cons_zero, List.set_cons_succ, List.getElem_toArray, List.getElem_cons_zero, List.getElem_cons_succ]
          refine wpAnyL_pure (i := 10) (v := ?_) rfl (by kernel_rfl) (by kernel_rfl) (by kernel_rfl) (fun _ _ _ h => h) (Or.inl ⟨by rfl, ?_⟩) ?_
          rotate_left
          · (intro w' _; go_simp <;> with_reducible rfl)
          simp only [Act.put, List.setIfInBounds_toArray, List.set_cons_zero, List.set_cons_succ, List.getElem_toArray, List.getElem_cons_zero, List.getElem_cons_succ]
          refine wpAnyL_pure (i := 11) (v := ?_) rfl (by kernel_rfl) (by kernel_rfl) (by kernel_rfl) (fun _ _ _ h => h) (Or.inl ⟨by rfl, ?_⟩) ?_
          rotate_left
          · (intro w' _; go_simp <;> with_reducible rfl)
          simp only [Act.put, List.setIfInBounds_toArray, List.set_cons_zero, List.set_cons_succ, List.getElem_toArray, List.getElem_cons_zero, List.getElem_cons_succ]
          refine wpAnyL_pure (i := 12) (v := ?_) rfl (by kernel_rfl) (by kernel_rfl) (by kernel_rfl) (fun _ _ _ h => h) (Or.inl ⟨by rfl, ?_⟩) ?_
          rotate_left
          · (intro w' _; go_simp <;> with_reducible rfl)
          simp only [Act.put, List.setIfInBounds_toArray, List.set_cons_zero, List.set_cons_succ, List.getElem_toArray, List.getElem_cons_zero, List.getElem_cons_succ]
          refine wpAnyL_done (by kernel_rfl) ?_ _
          clear HEQ
          go_upto_region 18 with (fail)
          have HEQ : ∀ W, (binOp .eql 54 (.agg xs.toArray) (.agg xs.toArray)).run Tryd.prog W = .ok (.bool true) W := fun W => by
            have := run_eq_hash W es[i].id es[i].id HOKX.out HOKX.out
            rw [decide_eq_true rfl, ← HXS.out] at this
            exact this
          have HXD := Lib.hid (show wx.drew.rangeAt wr.heap.size 0 xs from HXR.out)
          have HRD := Lib.hid (show wx.drew.rangeAt br (or + j * 32) xs from HRR.out)
          refine wp_region_L [(8, br, (or + j * 32), xs), (9, wr.heap.size, 0, xs)] (by kernel_rfl) ?_
          refine wpAnyL_pure (i := 0) (v := ?_) rfl (by kernel_rfl) (by kernel_rfl) (by kernel_rfl) (fun _ _ _ h => h) (Or.inl ⟨by rfl, ?_⟩) ?_
          rotate_left
          · (intro w' _; go_simp <;> with_reducible rfl)
          simp only [Act.put, List.setIfInBounds_toArray, List.set_cons_zero, List.set_cons_succ, List.getElem_toArray, List.getElem_cons_zero, List.getElem_cons_succ]
          refine wpAnyL_pure (i := 1) (v := ?_) rfl (by kernel_rfl) (by kernel_rfl) (by kernel_rfl) (fun _ _ _ h => h) (Or.inl ⟨by rfl, ?_⟩) ?_
          rotate_left
          · (intro w' _; go_simp <;> with_reducible rfl)
          simp only [Act.put, List.setIfInBounds_toArray, List.set_cons_zero, List.set_cons_succ, List.getElem_toArray, List.getElem_cons_zero, List.getElem_cons_succ]
          refine wpAnyL_pure (i := 2) (v := ?_) rfl (by kernel_rfl) (by kernel_rfl) (by kernel_rfl) (fun _ _ _ h => h) (Or.inl ⟨by rfl, ?_⟩) ?_
          rotate_left
          · (intro w' _; go_simp <;> with_reducible rfl)
          simp only [Act.put, List.setIfInBounds_toArray, List.set_cons_zero, List.set_cons_succ, List.getElem_toArray, List.getElem_cons_zero, List.getElem_cons_succ]
          refine wpAnyL_pure (i := 3) (v := ?_) rfl (by kernel_rfl) (by kernel_rfl) (by kernel_rfl) (fun _ _ _ h => h) (Or.inl ⟨by rfl, ?_⟩) ?_
          rotate_left
          · (intro w' _; go_simp <;> with_reducible rfl)
          simp only [Act.put, List.setIfInBounds_toArray, List.set_cons_zero, List.set_cons_succ, List.getElem_toArray, List.getElem_cons_zero, List.getElem_cons_succ]
          refine wpAnyL_pure (i := 4) (v := ?_) rfl (by kernel_rfl) (by kernel_rfl) (by kernel_rfl) (fun _ _ _ h => h) (Or.inl ⟨by rfl, ?_⟩) ?_
          rotate_left
          · (intro w' _; go_simp <;> with_reducible rfl)
          simp only [Act.put, List.setIfInBounds_toArray, List.set_cons_zero, List.set_cons_succ, List.getElem_toArray, List.getElem_cons_zero, List.getElem_cons_succ]
          refine wpAnyL_pure (i := 5) (v := ?_) rfl (by kernel_rfl) (by kernel_rfl) (by kernel_rfl) (fun _ _ _ h => h) (Or.inl ⟨by rfl, ?_⟩) ?_
          rotate_left
          · (intro w' _; go_simp <;> with_reducible rfl)
          simp only [Act.put, List.setIfInBounds_toArray, List.set_cons_zero, List.set_cons_succ, List.getElem_toArray, List.getElem_cons_zero, List.getElem_cons_succ]
          refine wpAnyL_pure (i := 6) (v := ?_) rfl (by kernel_rfl) (by kernel_rfl) (by kernel_rfl) (fun _ _ _ h => h) (Or.inl ⟨by rfl, ?_⟩) ?_
          rotate_left
          · (intro w' _; go_simp <;> with_reducible rfl)
          simp only [Act.put, List.setIfInBounds_toArray, List.set_cons_zero, List.set_cons_succ, List.getElem_toArray, List.getElem_cons_zero, List.getElem_cons_succ]
          refine wpAnyL_pure (i := 7) (v := ?_) rfl (by kernel_rfl) (by kernel_rfl) (by kernel_rfl) (fun _ _ _ h => h) (Or.inl ⟨by rfl, ?_⟩) ?_
          rotate_left
          · (intro w' _; go_simp <;> with_reducible rfl)
          simp only [Act.put, List.setIfInBounds_toArray, List.set_cons_zero, List.set_cons_succ, List.getElem_toArray, List.getElem_cons_zero, List.getElem_cons_succ]
          refine wpAnyL_load (i := 8) br (or + j * 32) xs (.head _) HRD.out rfl (by kernel_rfl) (by kernel_rfl) (by kernel_rfl) (fun _ _ _ h => h) (by rfl) 54 (.tmp 73) rfl (by rfl) _ Tryd.underlying54 rfl (by rw [L1.out]; exact size_hash0) ?_
          simp only [Act.put, List.setIfInBounds_toArray, List.set_cons_zero, List.set_cons_succ, List.getElem_toArray, List.getElem_cons_zero, List.getElem_cons_succ]
          refine wpAnyL_load (i := 9) wr.heap.size 0 xs (.tail _ (.head _)) HXD.out rfl (by kernel_rfl) (by kernel_rfl) (by kernel_rfl) (fun _ _ _ h => h) (by rfl) 54 (.tmp 14) rfl (by rfl) _ Tryd.underlying54 rfl (by rw [L1.out]; exact size_hash0) ?_
          simp only [Act.put, List.setIfInBounds_toArray, List.set_cons_zero, List.set_cons_succ, List.getElem_toArray, List.getElem_cons_zero, List.getElem_cons_succ]
          refine wpAnyL_pure (i := 10) (v := ?_) rfl (by kernel_rfl) (by kernel_rfl) (by kernel_rfl) (fun _ _ _ h => h) (Or.inl ⟨by rfl, ?_⟩) ?_
          rotate_left
          · (intro w' _; go_simp <;> with_reducible rfl)
          simp only [Act.put, List.setIfInBounds_toArray, List.set_cons_zero, List.set_cons_succ, List.getElem_toArray, List.getElem_cons_zero, List.getElem_cons_succ]
          refine wpAnyL_pure (i := 11) (v := ?_) rfl (by kernel_rfl) (by kernel_rfl) (by kernel_rfl) (fun _ _ _ h => h) (Or.inl ⟨by rfl, ?_⟩) ?_
          rotate_left
          · (intro w' _; go_simp <;> with_reducible rfl)
          simp only [Act.put, List.setIfInBounds_toArray, List.set_cons_zero, List.set_cons_succ, List.getElem_toArray, List.getElem_cons_zero, List.getElem_cons_succ]
          refine wpAnyL_pure (i := 12) (v := ?_) rfl (by kernel_rfl) (by kernel_rfl) (by kernel_rfl) (fun _ _ _ h => h) (Or.inl ⟨by rfl, ?_⟩) ?_
          rotate_left
          · (intro w' _; go_simp <;> with_reducible rfl)
          simp only [Act.put, List.setIfInBounds_toArray, List.set_cons_zero, List.set_cons_succ, List.getElem_toArray, List.getElem_cons_zero, List.getElem_cons_succ]
          refine wpAnyL_done (by kernel_rfl) ?_ _
          go_wp2_with fail
          go_roundw
          case rel => exact ⟨i + 1, k, j + 1, by go_num, rfl, by go_num, by omega, HK1, HJ1, hk, by omega, Lib.hid (HBX.out.drew.drew)⟩
          case measure => simp [intOf]; omega
        · have k2 : ¬ (k : Int) < (ng : Int) := by omega
          refine wp_region_L [] (by kernel_rfl) ?_
          refine wpAnyL_pure (i := 0) (v := ?_) rfl (by kernel_rfl) (by kernel_rfl) (by kernel_rfl) (fun _ _ _ h => h) (Or.inl ⟨by rfl, ?_⟩) ?_
          rotate_left
          · (intro w' _; go_simp <;> with_reducible rfl)
          simp only [Act.put, List.setIfInBounds_toArray, List.set_cons_zero, List.set_cons_succ, List.getElem_toArray, List.getElem_cons_zero, List.getElem_cons_succ]
          refine wpAnyL_pure (i := 1) (v := ?_) rfl (by kernel_rfl) (by kernel_rfl) (by kernel_rfl) (fun _ _ _ h => h) (Or.inl ⟨by rfl, ?_⟩) ?_
          rotate_left
          · (intro w' _; go_simp <;> with_reducible rfl)
          simp only [Act.put, List.setIfInBounds_toArray, List.set_cons_zero, List.set_cons_succ, List.getElem_toArray, List.getElem_cons_zero, List.getElem_cons_succ]
          refine wpAnyL_pure (i := 2) (v := ?_) rfl (by kernel_rfl) (by kernel_rfl) (by kernel_rfl) (fun _ _ _ h => h) (Or.inl ⟨by rfl, ?_⟩) ?_
          rotate_left
          · (intro w' _; go_simp <;> with_reducible rfl)
          simp only [Act.put, List.setIfInBounds_toArray, List.set_cons_zero, List.set_cons_succ, List.getElem_toArray, List.getElem_cons_zero, List.getElem_cons_succ]
          refine wpAnyL_pure (i := 3) (v := ?_) rfl (by kernel_rfl) (by kernel_rfl) (by kernel_rfl) (fun _ _ _ h => h) (Or.inl ⟨by rfl, ?_⟩) ?_
          rotate_left
          · (intro w' _; go_simp <;> with_reducible rfl)
          simp only [Act.put, List.setIfInBounds_toArray, List.set_cons_zero, List.set_cons_succ, List.getElem_toArray, List.getElem_cons_zero, List.getElem_cons_succ]
          refine wpAnyL_pure (i := 4) (v := ?_) rfl (by kernel_rfl) (by kernel_rfl) (by kernel_rfl) (fun _ _ _ h => h) (Or.inl ⟨by rfl, ?_⟩) ?_
          rotate_left
          · (intro w' _; go_simp <;> with_reducible rfl)
          simp only [Act.put, List.setIfInBounds_toArray, List.set_cons_zero, List.set_cons_succ, List.getElem_toArray, List.getElem_cons_zero, List.getElem_cons_succ]
          refine wpAnyL_pure (i := 5) (v := undef) rfl (by kernel_rfl) (by kernel_rfl) (by kernel_rfl) (fun _ _ _ h => h) (Or.inr ⟨by rfl, rfl⟩) ?_
          simp only [Act.put, List.setIfInBounds_toArray, List.set_cons_zero, List.set_cons_succ, List.getElem_toArray, List.getElem_cons_zero, List.getElem_cons_succ]
          refine wpAnyL_pure (i := 6) (v := undef) rfl (by kernel_rfl) (by kernel_rfl) (by kernel_rfl) (fun _ _ _ h => h) (Or.inr ⟨by rfl, rfl⟩) ?_
          simp only [Act.put, List.setIfInBounds_toArray, List.set_cons_zero, List.set_cons_succ, List.getElem_toArray, List.getElem_cons_zero, List.getElem_cons_succ]
          refine wpAnyL_pure (i := 7) (v := undef) rfl (by kernel_rfl) (by kernel_rfl) (by kernel_rfl) (fun _ _ _ h => h) (Or.inr ⟨by rfl, rfl⟩) ?_
          simp only [Act.put, List.setIfInBounds_toArray, List.set_cons_zero, List.set_cons_succ, List.getElem_toArray, List.getElem_cons_zero, List.getElem_cons_succ]
          refine wpAnyL_pure (i := 8) (v := undef) rfl (by kernel_rfl) (by kernel_rfl) (by kernel_rfl) (fun _ _ _ h => h) (Or.inr ⟨by rfl, rfl⟩) ?_
          simp only [Act.put, List.setIfInBounds_toArray, List.set_cons_zero, List.set_cons_succ, List.getElem_toArray, List.getElem_cons_zero, List.getElem_cons_succ]
          refine wpAnyL_pure (i := 9) (v := undef) rfl (by kernel_rfl) (by kernel_rfl) (by kernel_rfl) (fun _ _ _ h => h) (Or.inr ⟨by rfl, rfl⟩) ?_
          simp only [Act.put, List.setIfInBounds_toArray, List.set_cons_zero, List.set_cons_succ, List.getElem_toArray, List.getElem_cons_zero, List.getElem_cons_succ]
          refine wpAnyL_pure (i := 10) (v := undef) rfl (by kernel_rfl) (by kernel_rfl) (by kernel_rfl) (fun _ _ _ h => h) (Or.inr ⟨by rfl, rfl⟩) ?_
          simp only [Act.put, List.setIfInBounds_toArray, List.set_cons_zero, List.set_cons_succ, List.getElem_toArray, List.getElem_cons_zero, List.getElem_cons_succ]
          refine wpAnyL_pure (i := 11) (v := ?_) rfl (by kernel_rfl) (by kernel_rfl) (by kernel_rfl) (fun _ _ _ h => h) (Or.inl ⟨by rfl, ?_⟩) ?_
          rotate_left
          · (intro w' _; go_simp <;> with_reducible rfl)
          simp only [Act.put, List.setIfInBounds_toArray, List.set_cons_zero, List.set_cons_succ, List.getElem_toArray, List.getElem_cons_zero, List.getElem_cons_succ]
          refine wpAnyL_pure (i := 12) (v := ?_) rfl (by kernel_rfl) (by kernel_rfl) (by kernel_rfl) (fun _ _ _ h => h) (Or.inl ⟨by rfl, ?_⟩) ?_
          rotate_left
          · (intro w' _; go_simp <;> with_reducible rfl)
          simp only [Act.put, List.setIfInBounds_toArray, List.set_cons_zero, List.set_cons_succ, List.getElem_toArray, List.getElem_cons_zero, List.getElem_cons_succ]
          refine wpAnyL_done (by kernel_rfl) ?_ _
          go_upto_region 18 with (fail)
          have HEQ : ∀ W, (binOp .eql 54 (.agg xs.toArray) (.agg xs.toArray)).run Tryd.prog W = .ok (.bool true) W := fun W => by
            have := run_eq_hash W es[i].id es[i].id HOKX.out HOKX.out
            rw [decide_eq_true rfl, ← HXS.out] at this
            exact this
          have HXD := Lib.hid (show wx.drew.rangeAt wr.heap.size 0 xs from HXR.out)
          have HRD := Lib.hid (show wx.drew.rangeAt br (or + j * 32) xs from HRR.out)
          refine wp_region_L [(8, br, (or + j * 32), xs), (9, wr.heap.size, 0, xs)] (by kernel_rfl) ?_
          refine wpAnyL_pure (i := 0) (v := ?_) rfl (by kernel_rfl) (by kernel_rfl) (by kernel_rfl) (fun _ _ _ h => h) (Or.inl ⟨by rfl, ?_⟩) ?_
          rotate_left
          · (intro w' _; go_simp <;> with_reducible rfl)
          simp only [Act.put, List.setIfInBounds_toArray, List.set_cons_zero, List.set_cons_succ, List.getElem_toArray, List.getElem_cons_zero, List.getElem_cons_succ]
          refine wpAnyL_pure (i := 1) (v := ?_) rfl (by kernel_rfl) (by kernel_rfl) (by kernel_rfl) (fun _ _ _ h => h) (Or.inl ⟨by rfl, ?_⟩) ?_
          rotate_left
          · (intro w' _; go_simp <;> with_reducible rfl)
          simp only [Act.put, List.setIfInBounds_toArray, List.set_cons_zero, List.set_cons_succ, List.getElem_toArray, List.getElem_cons_zero, List.getElem_cons_succ]
          refine wpAnyL_pure (i := 2) (v := ?_) rfl (by kernel_rfl) (by kernel_rfl) (by kernel_rfl) (fun _ _ _ h => h) (Or.inl ⟨by rfl, ?_⟩) ?_
          rotate_left
          · (intro w' _; go_simp <;> with_reducible rfl)
          simp only [Act.put, List.setIfInBounds_toArray, List.set_cons_zero, List.set_cons_succ, List.getElem_toArray, List.getElem_cons_zero, List.getElem_cons_succ]
          refine wpAnyL_pure (i := 3) (v := ?_) rfl (by kernel_rfl) (by kernel_rfl) (by kernel_rfl) (fun _ _ _ h => h) (Or.inl ⟨by rfl, ?_⟩) ?_
          rotate_left
          · (intro w' _; go_simp <;> with_reducible rfl)
          simp only [Act.put, List.setIfInBounds_toArray, List.set_cons_zero, List.set_cons_succ, List.getElem_toArray, List.getElem_cons_zero, List.getElem_cons_succ]
          refine wpAnyL_pure (i := 4) (v := ?_) rfl (by kernel_rfl) (by kernel_rfl) (by kernel_rfl) (fun _ _ _ h => h) (Or.inl ⟨by rfl, ?_⟩) ?_
          rotate_left
          · (intro w' _; go_simp <;> with_reducible rfl)
          simp only [Act.put, List.setIfInBounds_toArray, List.set_cons_zero, List.set_cons_succ, List.getElem_toArray, List.getElem_cons_zero, List.getElem_cons_succ]
          refine wpAnyL_pure (i := 5) (v := ?_) rfl (by kernel_rfl) (by kernel_rfl) (by kernel_rfl) (fun _ _ _ h => h) (Or.inl ⟨by rfl, ?_⟩) ?_
          rotate_left
          · (intro w' _; go_simp <;> with_reducible rfl)
          simp only [Act.put, List.setIfInBounds_toArray, List.set_cons_zero, List.set_cons_succ, List.getElem_toArray, List.getElem_cons_zero, List.getElem_cons_succ]
          refine wpAnyL_pure (i := 6) (v := ?_) rfl (by kernel_rfl) (by kernel_rfl) (by kernel_rfl) (fun _ _ _ h => h) (Or.inl ⟨by rfl, ?_⟩) ?_
          rotate_left
          · (intro w' _; go_simp <;> with_reducible rfl)
          simp only [Act.put, List.setIfInBounds_toArray, List.set_cons_zero, List.set_cons_succ, List.getElem_toArray, List.getElem_cons_zero, List.getElem_cons_succ]
          refine wpAnyL_pure (i := 7) (v := ?_) rfl (by kernel_rfl) (by kernel_rfl) (by kernel_rfl) (fun _ _ _ h => h) (Or.inl ⟨by rfl, ?_⟩) ?_
          rotate_left
          · (intro w' _; go_simp <;> with_reducible rfl)
          simp only [Act.put, List.setIfInBounds_toArray, List.set_cons_zero, List.set_cons_succ, List.getElem_toArray, List.getElem_cons_zero, List.getElem_cons_succ]
          refine wpAnyL_load (i := 8) br (or + j * 32) xs (.head _) HRD.out rfl (by kernel_rfl) (by kernel_rfl) (by kernel_rfl) (fun _ _ _ h => h) (by rfl) 54 (.tmp 73) rfl (by rfl) _ Tryd.underlying54 rfl (by rw [L1.out]; exact size_hash0) ?_
          simp only [Act.put, List.setIfInBounds_toArray, List.set_cons_zero, List.set_cons_succ, List.getElem_toArray, List.getElem_cons_zero, List.getElem_cons_succ]
          refine wpAnyL_load (i := 9) wr.heap.size 0 xs (.tail _ (.head _)) HXD.out rfl (by kernel_rfl) (by kernel_rfl) (by kernel_rfl) (fun _ _ _ h => h) (by rfl) 54 (.tmp 14) rfl (by rfl) _ Tryd.underlying54 rfl (by rw [L1.out]; exact size_hash0) ?_
          simp only [Act.put, List.setIfInBounds_toArray, List.set_cons_zero, List.set_cons_succ, List.getElem_toArray, List.getElem_cons_zero, List.getElem_cons_succ]
          refine wpAnyL_pure (i := 10) (v := ?_) rfl (by kernel_rfl) (by kernel_rfl) (by kernel_rfl) (fun _ _ _ h => h) (Or.inl ⟨by rfl, ?_⟩) ?_
          rotate_left
          · (intro w' _; go_simp <;> with_reducible rfl)
          simp only [Act.put, List.setIfInBounds_toArray, List.set_cons_zero, List.set_cons_succ, List.getElem_toArray, List.getElem_cons_zero, List.getElem_cons_succ]
          refine wpAnyL_pure (i := 11) (v := ?_) rfl (by kernel_rfl) (by kernel_rfl) (by kernel_rfl) (fun _ _ _ h => h) (Or.inl ⟨by rfl, ?_⟩) ?_
          rotate_left
          · (intro w' _; go_simp <;> with_reducible rfl)
          simp only [Act.put, List.setIfInBounds_toArray, List.set_cons_zero, List.set_cons_succ, List.getElem_toArray, List.getElem_cons_zero, List.getElem_cons_succ]
          refine wpAnyL_pure (i := 12) (v := ?_) rfl (by kernel_rfl) (by kernel_rfl) (by kernel_rfl) (fun _ _ _ h => h) (Or.inl ⟨by rfl, ?_⟩) ?_
          rotate_left
          · (intro w' _; go_simp <;> with_reducible rfl)
          simp only [Act.put, List.setIfInBounds_toArray, List.set_cons_zero, List.set_cons_succ, List.getElem_toArray, List.getElem_cons_zero, List.getElem_cons_succ]
          refine wpAnyL_done (by kernel_rfl) ?_ _
          go_wp2_with fail
          go_roundw
          case rel => exact ⟨i + 1, k, j + 1, by go_num, rfl, by go_num, by omega, HK1, HJ1, hk, by omega, Lib.hid (HBX.out.drew.drew)⟩
          case measure => simp [intOf]; omega
    · obtain rfl : i = ng + nr := by omega
      have HPr := Lib.hid (show PoolAt T8 wr O w3.heap.size v8 e1 from HP8.out.kp' (S := fun _ => False) hb.out (fun _ _ h => h) HP8.out.tO HP8.out.tv)
      have HBr := Lib.hid (HB8.out.trans (hb.out.mono HB8.out.size))
      obtain ⟨eo, heo⟩ : ∃ eo, eo = e1.filter qq := ⟨_, rfl⟩
      obtain ⟨e2, he2⟩ : ∃ e2, e2 = e1.filter fun x => !qq x := ⟨_, rfl⟩
      have hsum2 := filter_sum e1 qq
      rw [← heo, ← he2] at hsum2
      have HEO := Lib.hid heo
      have HE2 := Lib.hid he2
      have HNL2 := Lib.hid (show e2.filter qq = [] by rw [he2]; exact filter_none e1 qq)
      have HSL2 := Lib.hid (show (e2.filter fun x => !qq x) = e2 by rw [he2]; exact filter_self e1 qq)
      have HE3 := Lib.hid (show (e2.filter fun x => !decide (x.fin ≤ 18446744073709551615)) = [] by
        apply List.filter_eq_nil_iff.2
        intro e he
        rw [he2] at he
        have := HFIN1.out e (List.mem_filter.1 he).1
        simp [this])
      have hl1' : e1.length ≤ 8 := by rw [← HNR.out]; omega
      obtain ⟨no, hno⟩ : ∃ no, no = eo.length := ⟨_, rfl⟩
      obtain ⟨n2, hn2⟩ : ∃ n2, n2 = e2.length := ⟨_, rfl⟩
      have HNO := Lib.hid hno
      have HN2 := Lib.hid hn2
      have hnr2 : nr = no + n2 := by have := HNR.out; omega
      subst hnr2
      clear heo he2 hsum2 hno hn2 HATW HATG HATR HEG HE1 HNG hkd hjd HLV HLEN
      go_wp2_with fail
      refine (HEX.out T8 e1 v8 wr HPr.out (by omega) (by omega)).mono ?_
      rintro e w9 ⟨v9o, v9, rfl, hi9, hP9, _, hk9⟩
      rw [← HEO.out] at hi9
      rw [← HE2.out] at hP9
      generalize Tn T8 wr v9 = T9 at hP9
      have HP9 := Lib.hid hP9
      have hz9 := hk9.size
      have HB9 := Lib.hid (show Below w.heap.size w w9 from Kp.from_elder HBr.out hk9 (fun i hi e => by omega))
      obtain ⟨A9, c9, hv9, _⟩ := own_form hi9.2
      subst hv9
      rw [List.length_map, ← HNO.out]
      clear hi9 hP9 hk9
      go_wp2_with fail
      refine (HALL.out T9 e2 v9 w9 HP9.out (by rw [← HN2.out]; omega)).mono ?_
      rintro e w10 ⟨A10, c10, rfl, _, hb10⟩
      rw [← HN2.out]
      have HP10 := Lib.hid (show PoolAt T9 w10 O w3.heap.size v9 e2 from HP9.out.kp' (S := fun _ => False) hb10 (fun _ _ h => h) HP9.out.tO HP9.out.tv)
      have HB10 := Lib.hid (HB9.out.trans (hb10.mono HB9.out.size))
      have hz10 := hb10.size
      clear hb10
      go_wp2_with fail
      refine (HEX.out T9 e2 v9 w10 HP10.out (by omega) (by rw [← HN2.out]; omega)).mono ?_
      rintro e w11 ⟨v11o, v11, rfl, hi11, hP11, _, hk11⟩
      rw [HNL2.out] at hi11
      rw [HSL2.out] at hP11
      generalize Tn T9 w10 v11 = T11 at hP11
      have HP11 := Lib.hid hP11
      have hz11 := hk11.size
      have HB11 := Lib.hid (show Below w.heap.size w w11 from Kp.from_elder HB10.out hk11 (fun i hi e => by omega))
      obtain ⟨A11, c11, hv11, _⟩ := own_form hi11.2
      subst hv11
      rw [show ([] : List Ent).map Ent.id = [] from rfl, List.length_nil]
      clear hi11 hP11 hk11
      have HEM := Lib.hid (show Calls Tryd.prog 29 #[.pointer (some ⟨O, 0, none⟩), .int .u64 18446744073709551615] w11 (OutIds T11 w11 O w3.heap.size e2 fun x => decide (x.fin ≤ 18446744073709551615)) from expire_any T11 e2 O w3.heap.size v11 18446744073709551615 w11 HP11.out (by omega) (by rw [← HN2.out]; omega))
      go_wp2_with fail
      refine HEM.out.mono ?_
      rintro e w12 ⟨v12o, v12, rfl, _, hP12, _, hk12⟩
      rw [HE3.out] at hP12
      generalize Tn T11 w11 v12 = T12 at hP12
      have HP12 := Lib.hid hP12
      have HB12 := Lib.hid (show Below w.heap.size w w12 from Kp.from_elder HB11.out hk12 (fun i hi e => by omega))
      clear hP12 hk12 HEM
      go_wp2_with fail
      refine (HALL.out T12 [] v12 w12 HP12.out (by simp)).mono ?_
      rintro e w13 ⟨A13, c13, rfl, _, hb13⟩
      rw [List.length_nil]
      have HB13 := Lib.hid (HB12.out.trans (hb13.mono HB12.out.size))
      clear hb13
      go_wp2_with fail
      go_ret
      exact ⟨rfl, HB13.out⟩
end Go.Proofs.YtacbibflhdmcoaaDoor
