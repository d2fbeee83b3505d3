/- The program's Same: of two transactions. -/
import Derived.Test.YtpacgblddeoheaaDoorTxES
import Derived.Laws.IdiomStrings
import Derived.Laws.BytesString
import Derived.Lib.BufferRead
namespace Go.Proofs.YtpacgblddeoheaaDoor.T7
open Go.RowKit Go.Deep
set_option linter.unusedVariables false
set_option linter.unusedSimpArgs false
set_option maxRecDepth 100000
attribute [local go_sem ↓] Go.wp_at_zero Go.wp_at_succ

theorem conv_bytes (w : World) (A : Option Addr) (n c B : Nat) (l : List UInt8) (hl : l.length = n) (h : BytesAt w B A l) : (convert 22 9 (.slice A n c)).run Tryd.prog w = .ok (.string ⟨l.toArray⟩) w := by
  subst hl
  cases A with
  | none =>
    have : l = [] := by
      cases l with
      | nil => rfl
      | cons x l => obtain ⟨b, off, hA, _⟩ := h.cell (i := 0) (by simp); cases hA
    subst this
    exact Lib.run_convert_nil_bytes w 22 9 5 c Tryd.underlying22 Tryd.underlying5 Tryd.underlying9
  | some a =>
    refine run_convert_bytes_back w 22 9 5 a c l Tryd.underlying22 Tryd.underlying5 Tryd.underlying9 (fun j hj => ?_)
    obtain ⟨b, off, hA, _, hc⟩ := h.cell hj
    cases hA
    rw [Addr.add_mid]; exact hc
theorem str_beq (l l' : List UInt8) : ((⟨l.toArray⟩ : ByteArray).toList == (⟨l'.toArray⟩ : ByteArray).toList) = decide (l = l') := by
  rw [ByteArray.toList_eq, ByteArray.toList_eq]
  by_cases h : l = l'
  · subst h; simp
  · rw [decide_eq_false h, beq_eq_false_iff_ne]; simpa using h
theorem bequal_any (A A' : Option Addr) (n n' c c' : Nat) (l l' : List UInt8) (w : World) (B B' : Nat) (e : l.length = n) (e' : l'.length = n') (h : BytesAt w B A l) (h' : BytesAt w B' A' l') :
    Calls Tryd.prog 71 #[.slice A n c, .slice A' n' c'] w fun r w' => r = .returned (.bool (decide (l = l'))) ∧ w = w' := by
  have h1 := conv_bytes w A n c B l e h
  have h2 := conv_bytes w A' n' c' B' l' e' h'
  have hs := str_beq l l'
  obtain ⟨s, hs1⟩ : ∃ s : ByteArray, s = ⟨l.toArray⟩ := ⟨_, rfl⟩
  obtain ⟨s', hs2⟩ : ∃ s : ByteArray, s = ⟨l'.toArray⟩ := ⟨_, rfl⟩
  rw [← hs1] at h1 hs
  rw [← hs2] at h2 hs
  have HS := Lib.hid hs
  clear hs1 hs2 hs h h'
  go_enter Tryd.func71, Tryd.ntmps71
  go_wp2_with fail
  go_ret
  exact ⟨ret_bool HS.out, rfl⟩
set_option maxHeartbeats 2000000 in
theorem sleq_any (A A' : Option Addr) (n n' c c' B B' : Nat) (l l' : List Txs.Out) (w : World) (hl : l.length = n) (hl' : l'.length = n') (hn : n ≤ 9223372036854775807) (hn' : n' ≤ 9223372036854775807) (h : OutsAt w B A l) (h' : OutsAt w B' A' l') :
    Calls Tryd.prog 70 #[.slice A n c, .slice A' n' c'] w fun r w' => r = .returned (.bool (decide (l = l'))) ∧ ∃ n, w' = w.drewN n := by
  have HO := Lib.hid h
  have HO' := Lib.hid h'
  have HN := Lib.hid hl
  have HN' := Lib.hid hl'
  clear h h'
  by_cases hnn : ¬ n = n'
  · have HD := Lib.hid (show decide (l = l') = false by rw [decide_eq_false_iff_not]; rintro rfl; omega)
    have hb : ((n : Int) != (n' : Int)) = true := by rw [bne_iff_ne]; omega
    clear hnn hl hl'
    go_enter Tryd.func70, Tryd.ntmps70
    go_wp2_with fail
    go_ret
    exact ⟨ret_bool HD.out.symm, 0, rfl⟩
  obtain rfl : n = n' := by omega
  clear hl hl' hnn
  go_enter Tryd.func70, Tryd.ntmps70
  go_wp2_with fail
  go_loopw [13] (fun i wr => ∃ k : Nat, k ≤ n ∧ i = .int .i64 (k : Int) ∧ Hid (l.take k = l'.take k) ∧ ∃ m, wr = w.drewN m) (fun i _ => n - (intOf i).toNat)
  case atStart => exact ⟨0, Nat.zero_le _, rfl, Lib.hid rfl, 0, rfl⟩
  case round =>
    obtain ⟨k, hk, rfl, ha, m, rfl⟩ := hrel
    by_cases hlt : k < n
    · have hlt1 : k < l.length := by rw [HN.out]; exact hlt
      have hlt2 : k < l'.length := by rw [HN'.out]; exact hlt
      obtain ⟨b, off, rfl, hbB, hr, hok⟩ := HO.out.range hlt1
      obtain ⟨b', off', rfl, hbB', hr', hok'⟩ := HO'.out.range hlt2
      have HSU := Lib.hid (fun hx => tk_succ hlt1 hlt2 ha.out hx)
      have HNX := Lib.hid (fun hx => show decide (l = l') = false from decide_eq_false (nth_ne hlt1 hlt2 hx))
      generalize l[k] = x at *
      generalize l'[k] = y at *
      have i1 : (0 : Int) ≤ (k : Int) := by omega
      have i2 : (k : Int) < (n : Int) := by omega
      obtain ⟨px, hpx⟩ : ∃ px : Ot, px = ⟨x, hok.2⟩ := ⟨_, rfl⟩
      obtain ⟨py, hpy⟩ : ∃ py : Ot, py = ⟨y, hok'.2⟩ := ⟨_, rfl⟩
      have R1 := Lib.hid (show (w.drewN m).rangeAt b (off + k * 33) px.cells by rw [hpx]; exact hr)
      have R2 := Lib.hid (show (w.drewN m).rangeAt b' (off' + k * 33) py.cells by rw [hpy]; exact hr')
      have L1 := Lib.hid (Ot.cells_len px)
      have L2 := Lib.hid (Ot.cells_len py)
      have HEQI := Lib.hid (show px.ne py = false → x = y from fun h => by have := outs_eq_of h; rwa [hpx, hpy] at this)
      have HNEI := Lib.hid (show px.ne py = true → x ≠ y from fun h => by have := outs_ne_of h; rwa [hpx, hpy] at this)
      clear hpx hpy hr hr' hok hok'
      go_wp2_with fail
      cases hpn : px.ne py with
      | true =>
        have HF := Lib.hid (HNX.out (HNEI.out hpn))
        refine wp_region_quiet_lit (by kernel_rfl) (by kernel_rfl) ?_
        iterate 3 (go_big_quiet_step (fail))
        (refine wpQuiet_load_mid rfl 158 (.tmp 18) rfl b (off + k * 33) (by rfl) px.cells _ (fun w' ⟨n, e⟩ => by subst e; exact R1.out) Tryd.underlying158 rfl (by rw [L1.out]; exact size_out) ?_; go_frame)
        iterate 3 (go_big_quiet_step (fail))
        (refine wpQuiet_load_mid rfl 158 (.tmp 22) rfl b' (off' + k * 33) (by rfl) py.cells _ (fun w' ⟨n, e⟩ => by subst e; exact R2.out) Tryd.underlying158 rfl (by rw [L2.out]; exact size_out) ?_; go_frame)
        (refine wpQuiet_ne_ot rfl (.tmp 19) (.tmp 23) _ rfl px py (by rfl) (by rfl) true hpn ?_; go_frame)
        refine wpQuiet_nil ?_
        intro _ hw'
        obtain ⟨nq, hw''⟩ := hw'
        subst hw''
        go_wp2_with fail
        go_ret
        exact ⟨ret_bool HF.out.symm, m + nq, by first | rfl | simp⟩
      | false =>
        refine wp_region_quiet_lit (by kernel_rfl) (by kernel_rfl) ?_
        iterate 3 (go_big_quiet_step (fail))
        (refine wpQuiet_load_mid rfl 158 (.tmp 18) rfl b (off + k * 33) (by rfl) px.cells _ (fun w' ⟨n, e⟩ => by subst e; exact R1.out) Tryd.underlying158 rfl (by rw [L1.out]; exact size_out) ?_; go_frame)
        iterate 3 (go_big_quiet_step (fail))
        (refine wpQuiet_load_mid rfl 158 (.tmp 22) rfl b' (off' + k * 33) (by rfl) py.cells _ (fun w' ⟨n, e⟩ => by subst e; exact R2.out) Tryd.underlying158 rfl (by rw [L2.out]; exact size_out) ?_; go_frame)
        (refine wpQuiet_ne_ot rfl (.tmp 19) (.tmp 23) _ rfl px py (by rfl) (by rfl) false hpn ?_; go_frame)
        refine wpQuiet_nil ?_
        intro _ hw'
        obtain ⟨nq, hw''⟩ := hw'
        subst hw''
        have HTN := Lib.hid (HSU.out (HEQI.out hpn))
        go_wp2_with fail
        go_roundw
        case rel => exact ⟨k + 1, by omega, by go_num, HTN, m + nq, by first | rfl | simp⟩
        case measure => simp [intOf]; omega
    · have HD := Lib.hid (show decide (l = l') = true from decide_eq_true (take_all (by rw [HN.out]; omega) (by rw [HN'.out]; omega) ha.out))
      go_wp2_with fail
      go_ret
      exact ⟨ret_bool HD.out.symm, m, rfl⟩
set_option maxHeartbeats 4000000 in
theorem same7_any (t u : Txs.Tx) (A1 A2 A3 A4 : Option Addr) (c1 c2 c3 c4 B B' : Nat) (w : World) (h : TxAt w B t A1 c1 A2 c2) (h' : TxAt w B' u A3 c3 A4 c4) (hB : B ≤ w.heap.size) (hB' : B' ≤ w.heap.size) :
    Calls Tryd.prog 48 #[txV t A1 c1 A2 c2, txV u A3 c3 A4 c4] w fun e w' => e = .returned (.bool (decide (t = u))) ∧ Below w.heap.size w w' := by
  have hmi := Nat.le_trans h.ic h.im
  have hmo := Nat.le_trans h.oc h.om
  have hmi' := Nat.le_trans h'.ic h'.im
  have hmo' := Nat.le_trans h'.oc h'.om
  unfold maxLen at hmi hmo hmi' hmo'
  have HI := Lib.hid h.ins
  have HO := Lib.hid h.outs
  have HI' := Lib.hid h'.ins
  have HO' := Lib.hid h'.outs
  obtain ⟨w2, hw2⟩ : ∃ w2, w2 = (w.alloc (.cells #[.int .u32 (t.version : Int), .slice A1 t.ins.length c1, .slice A2 t.outs.length c2] 49)).alloc (.cells #[.int .u32 (u.version : Int), .slice A3 u.ins.length c3, .slice A4 u.outs.length c4] 49) := ⟨_, rfl⟩
  have HW := Lib.hid (show Below w.heap.size w w2 by rw [hw2]; exact Joins.below_alloc2 _ _ _)
  have HZ := Lib.hid (show w2.heap.size = w.heap.size + 2 by rw [hw2]; simp)
  have HK1 := Lib.hid (show Bk w2 w.heap.size 49 #[.int .u32 (t.version : Int), .slice A1 t.ins.length c1, .slice A2 t.outs.length c2] by rw [hw2]; exact (Bk.new _ _ _).alloc _)
  have HK2 := Lib.hid (show Bk w2 (w.heap.size + 1) 49 #[.int .u32 (u.version : Int), .slice A3 u.ins.length c3, .slice A4 u.outs.length c4] by
    rw [hw2]
    have := Bk.new (w.alloc (.cells #[.int .u32 (t.version : Int), .slice A1 t.ins.length c1, .slice A2 t.outs.length c2] 49)) 49 #[.int .u32 (u.version : Int), .slice A3 u.ins.length c3, .slice A4 u.outs.length c4]
    simpa using this)
  unfold txV
  clear h h'
  by_cases hv : ¬ t.version = u.version
  · have HF := Lib.hid (tx_ne (.inl hv))
    have hv' : ((t.version : Int) != (u.version : Int)) = true := by rw [bne_iff_ne]; omega
    clear hv
    go_enter Tryd.func48, Tryd.ntmps48
    go_wp2_with fail
    go_ret
    rw [← hw2]
    exact ⟨ret_bool HF.out.symm, HW.out⟩
  replace hv : t.version = u.version := by omega
  by_cases hil : ¬ t.ins.length = u.ins.length
  · have HF := Lib.hid (tx_ne (.inr (.inl (fun e => hil (by rw [e])))))
    have hv' : ((t.version : Int) != (u.version : Int)) = false := by rw [bne_eq_false_iff_eq]; omega
    have hi' : ((t.ins.length : Int) != (u.ins.length : Int)) = true := by rw [bne_iff_ne]; omega
    clear hv hil
    go_enter Tryd.func48, Tryd.ntmps48
    go_wp2_with fail
    go_ret
    rw [← hw2]
    exact ⟨ret_bool HF.out.symm, HW.out⟩
  replace hil : t.ins.length = u.ins.length := by omega
  have HSE := Lib.hid (fun W (hb : Below w.heap.size w W) => sleq_any A2 A4 t.outs.length u.outs.length c2 c4 B B' t.outs u.outs W rfl rfl (by omega) (by omega) (At.below HO.out (hb.mono hB)) (At.below HO'.out (hb.mono hB')))
  have HV := Lib.hid hv
  have HIL := Lib.hid hil
  rw [← hv, ← hil] at HK2 hw2 ⊢
  have HI2 := Lib.hid (HI.out.below (HW.out.mono hB))
  have HI2' := Lib.hid (HI'.out.below (HW.out.mono hB'))
  have HNE := Lib.hid (fun h => tx_ne (t := t) (u := u) h)
  have HEQ := Lib.hid (fun h2 h3 => tx_eq (t := t) (u := u) hv h2 h3)
  generalize t.version = ver at *
  obtain ⟨n, hn⟩ : ∃ n, n = t.ins.length := ⟨_, rfl⟩
  obtain ⟨m, hm⟩ : ∃ m, m = t.outs.length := ⟨_, rfl⟩
  obtain ⟨m', hm'⟩ : ∃ m', m' = u.outs.length := ⟨_, rfl⟩
  have hv' : ((ver : Int) != (ver : Int)) = false := by simp
  have hi' : ((n : Int) != (n : Int)) = false := by simp
  rw [← hm, ← hm'] at HSE
  rw [← hm'] at HK2 hw2 ⊢
  rw [← hn] at HK1 HK2 HIL hw2 hmi ⊢
  rw [← hm] at HK1 hw2 ⊢
  have HN := Lib.hid hn
  clear hv hil hn hm hm' hmo hmi' hmo' HI HO HI' HO' HV
  go_enter Tryd.func48, Tryd.ntmps48
  go_wp2_with fail
  rw [← hw2]
  clear hw2
  refine (HSE.out w2 HW.out).mono ?_
  rintro e w2a ⟨rfl, nd, hwd⟩
  have HBD := Lib.hid (show Below w2.heap.size w2 w2a by rw [hwd]; exact below_drewN (Below.refl _ _) nd)
  clear hwd HSE
  cases hod : decide (t.outs = u.outs) with
  | false =>
    have HF := Lib.hid (HNE.out (.inr (.inr (of_decide_eq_false hod))))
    have HEND := Lib.hid (HW.out.trans (HBD.out.mono (by rw [HZ.out]; omega)))
    go_wp2_with fail
    go_ret
    exact ⟨ret_bool HF.out.symm, HEND.out⟩
  | true =>
  have HOE := Lib.hid (of_decide_eq_true hod)
  clear hod
  have k1 : w2a.cell? ⟨w.heap.size, 1, none⟩ = some (.slice A1 n c1) := (HBD.out.cell (p := ⟨w.heap.size, 1, none⟩) HK1.out.lt).trans ((HK1.out.cell 1).trans rfl)
  go_wp2_with fail
  go_loopw [32] (fun i wr => ∃ k : Nat, k ≤ n ∧ i = .int .i64 (k : Int) ∧ Hid (t.ins.take k = u.ins.take k) ∧ Hid (Below w2.heap.size w2 wr)) (fun i _ => n - (intOf i).toNat)
  case atStart => exact ⟨0, Nat.zero_le _, rfl, Lib.hid rfl, HBD⟩
  case round =>
    obtain ⟨k, hk, rfl, ha, hb⟩ := hrel
    by_cases hlt : k < n
    · have hlt1 : k < t.ins.length := by rw [← HN.out]; exact hlt
      have hlt2 : k < u.ins.length := by rw [← HIL.out]; exact hlt
      obtain ⟨b, off, Ak, ck, rfl, hbB, hr, hok, hkc, hkm, hkat⟩ := (HI2.out.below (hb.out.mono (by rw [HZ.out]; omega))).range hlt1
      obtain ⟨b', off', Ak', ck', rfl, hbB', hr', hok', hkc', hkm', hkat'⟩ := (HI2'.out.below (hb.out.mono (by rw [HZ.out]; omega))).range hlt2
      have cu : wr.cell? ⟨w.heap.size + 1, 1, none⟩ = some (.slice (some ⟨b', off', none⟩) n c3) := (hb.out.cell (p := ⟨w.heap.size + 1, 1, none⟩) HK2.out.lt).trans ((HK2.out.cell 1).trans rfl)
      have HSU := Lib.hid (fun hx => tk_succ hlt1 hlt2 ha.out hx)
      have HNX := Lib.hid (fun hx => HNE.out (.inr (.inl (nth_ne hlt1 hlt2 hx))))
      have hws := hb.out.size
      rw [HZ.out] at hws
      generalize t.ins[k] = x at *
      generalize u.ins[k] = y at *
      have i1 : (0 : Int) ≤ (k : Int) := by omega
      have i2 : (k : Int) < (n : Int) := by omega
      obtain ⟨w3, hw3⟩ : ∃ w3, w3 = wr.alloc (.cells (inCells x (.slice Ak x.key.length ck)).toArray 97) := ⟨_, rfl⟩
      have hbx : Bk w3 wr.heap.size 97 (inCells x (.slice Ak x.key.length ck)).toArray := by rw [hw3]; exact Bk.new _ _ _
      have hb3 : Below wr.heap.size wr w3 := by rw [hw3]; exact Joins.below_alloc1 _ _
      have d3 : w3.cell? ⟨w.heap.size + 1, 1, none⟩ = some (.slice (some ⟨b', off', none⟩) n c3) := (hb3.cell (p := ⟨w.heap.size + 1, 1, none⟩) (by show w.heap.size + 1 < _; omega)).trans cu
      have hr3 := rangeAt_below hr' hb3 (show b' < wr.heap.size by omega)
      have dx := in_key hbx hok
      have dy := in_key_cell hr3 hok'
      have R1 := Lib.hid (by have := bk_range hbx; rw [in_pt x hok] at this; exact range_head this : w3.rangeAt wr.heap.size 0 (ptOf x hok).cells)
      have R2 := Lib.hid (by have := hr3; rw [in_pt y hok'] at this; exact range_head this : w3.rangeAt b' (off' + k * 34) (ptOf y hok').cells)
      have HSM := Lib.hid (fun i => (bequal_any Ak Ak' x.key.length y.key.length ck ck' x.key y.key (w3.drewN i) B B' rfl rfl (At.below hkat (below_drewN (hb3.mono (by omega)) i)) (At.below hkat' (below_drewN (hb3.mono (by omega)) i))).mono (fun e w' h => (⟨h.1, h.2.symm⟩ : e = _ ∧ w' = w3.drewN i)))
      have L1 := Lib.hid (Pt.cells_len (ptOf x hok))
      have L2 := Lib.hid (Pt.cells_len (ptOf y hok'))
      have HEQI := Lib.hid (fun h1 h2 => ins_eq_of hok hok' h1 h2)
      have HNEI := Lib.hid (fun h1 => ins_ne_of hok hok' h1)
      generalize ptOf x hok = px at *
      generalize ptOf y hok' = py at *
      have HR := Lib.hid hr
      have HL := Lib.hid (inCells_len hok (.slice Ak x.key.length ck))
      have HONE := Lib.hid (inCells_one x Ak x.key.length ck)
      have HKD := Lib.hid (show x.key = y.key → decide (x.key = y.key) = true from fun h => decide_eq_true h)
      generalize hcs : inCells x (.slice Ak x.key.length ck) = cs at *
      have HB3 := Lib.hid hb3
      have HZI := zero_in
      have HZL := Lib.hid zeroIn_len
      generalize (inCells ⟨List.replicate 32 0, 0, []⟩ (.slice none 0 0)).toArray = zs at *
      have HZI := Lib.hid HZI
      obtain ⟨kd, hkd⟩ : ∃ kd, kd = decide (x.key = y.key) := ⟨_, rfl⟩
      rw [← hkd] at HSM
      have HKD := Lib.hid hkd
      clear hcs hr hr' hr3 hbx hb3 hkat hkat' hok hok' hkc hkc' hkm hkm' hkd
      go_wp2_with (refine wpList_elem2 rfl rfl rfl rfl 97 (.tmp 35) (.tmp 6) (.tmp 36) (.tmp 34) rfl rfl rfl rfl b (off + k * 34) (by rfl) cs _ HR.out Tryd.underlying97 rfl (by rw [HL.out]; exact size_in) zs HZI.out (by rw [HZL.out, HL.out]) HONE.out (.int .i64 (k : Int)) (by rfl) (by rfl) (by rfl) ?_)
      go_frame
      rw [← hw3]
      clear hw3 cu
      cases hpn : px.ne py with
      | true =>
        have HF := Lib.hid (HNX.out (HNEI.out hpn))
        refine wp_region_quiet_lit (by kernel_rfl) (by kernel_rfl) ?_
        go_big_quiet_step (fail)
        (refine wpQuiet_load_mid rfl 95 (.tmp 37) rfl wr.heap.size 0 (by rfl) px.cells _ (fun w' ⟨n, e⟩ => by subst e; exact R1.out) Tryd.underlying95 rfl (by rw [L1.out]; exact size_pt) ?_; go_frame)
        iterate 5 (go_big_quiet_step (fail))
        (refine wpQuiet_load_mid rfl 95 (.tmp 43) rfl b' (off' + k * 34) (by rfl) py.cells _ (fun w' ⟨n, e⟩ => by subst e; exact R2.out) Tryd.underlying95 rfl (by rw [L2.out]; exact size_pt) ?_; go_frame)
        (refine wpQuiet_ne_pt rfl (.tmp 38) (.tmp 44) _ rfl px py (by rfl) (by rfl) true hpn ?_; go_frame)
        iterate 12 (go_big_quiet_step (fail))
        refine wpQuiet_nil ?_
        intro _ hw'
        obtain ⟨nq, hw''⟩ := hw'
        subst hw''
        have HEND := Lib.hid (below_drewN (HW.out.trans ((hb.out.trans (HB3.out.mono hb.out.size)).mono (by rw [HZ.out]; omega))) nq)
        go_wp2_with fail
        go_ret
        exact ⟨ret_bool HF.out.symm, HEND.out⟩
      | false =>
        cases kd with
        | true =>
          refine wp_region_quiet_lit (by kernel_rfl) (by kernel_rfl) ?_
          go_big_quiet_step (fail)
          (refine wpQuiet_load_mid rfl 95 (.tmp 37) rfl wr.heap.size 0 (by rfl) px.cells _ (fun w' ⟨n, e⟩ => by subst e; exact R1.out) Tryd.underlying95 rfl (by rw [L1.out]; exact size_pt) ?_; go_frame)
          iterate 5 (go_big_quiet_step (fail))
          (refine wpQuiet_load_mid rfl 95 (.tmp 43) rfl b' (off' + k * 34) (by rfl) py.cells _ (fun w' ⟨n, e⟩ => by subst e; exact R2.out) Tryd.underlying95 rfl (by rw [L2.out]; exact size_pt) ?_; go_frame)
          (refine wpQuiet_ne_pt rfl (.tmp 38) (.tmp 44) _ rfl px py (by rfl) (by rfl) false hpn ?_; go_frame)
          iterate 12 (go_big_quiet_step ((go_at_call 71; exact Calls.quiet_of_same (HSM.out _))))
          refine wpQuiet_nil ?_
          intro _ hw'
          obtain ⟨nq, hw''⟩ := hw'
          subst hw''
          have HBN := Lib.hid (below_drewN (hb.out.trans (HB3.out.mono hb.out.size)) nq)
          have HTN := Lib.hid (HSU.out (HEQI.out hpn (of_decide_eq_true HKD.out.symm)))
          go_wp2_with fail
          go_roundw
          case rel => exact ⟨k + 1, by omega, by go_num, HTN, HBN⟩
          case measure => simp [intOf]; omega
        | false =>
          have HF := Lib.hid (HNX.out (fun e => of_decide_eq_false HKD.out.symm (by rw [e])))
          refine wp_region_quiet_lit (by kernel_rfl) (by kernel_rfl) ?_
          go_big_quiet_step (fail)
          (refine wpQuiet_load_mid rfl 95 (.tmp 37) rfl wr.heap.size 0 (by rfl) px.cells _ (fun w' ⟨n, e⟩ => by subst e; exact R1.out) Tryd.underlying95 rfl (by rw [L1.out]; exact size_pt) ?_; go_frame)
          iterate 5 (go_big_quiet_step (fail))
          (refine wpQuiet_load_mid rfl 95 (.tmp 43) rfl b' (off' + k * 34) (by rfl) py.cells _ (fun w' ⟨n, e⟩ => by subst e; exact R2.out) Tryd.underlying95 rfl (by rw [L2.out]; exact size_pt) ?_; go_frame)
          (refine wpQuiet_ne_pt rfl (.tmp 38) (.tmp 44) _ rfl px py (by rfl) (by rfl) false hpn ?_; go_frame)
          iterate 12 (go_big_quiet_step ((go_at_call 71; exact Calls.quiet_of_same (HSM.out _))))
          refine wpQuiet_nil ?_
          intro _ hw'
          obtain ⟨nq, hw''⟩ := hw'
          subst hw''
          have HEND := Lib.hid (below_drewN (HW.out.trans ((hb.out.trans (HB3.out.mono hb.out.size)).mono (by rw [HZ.out]; omega))) nq)
          go_wp2_with fail
          go_ret
          exact ⟨ret_bool HF.out.symm, HEND.out⟩
    · have HIE := Lib.hid (show t.ins = u.ins from take_all (by rw [← HN.out]; omega) (by rw [← HIL.out]; omega) ha.out)
      have HEND := Lib.hid (HW.out.trans (hb.out.mono (by rw [HZ.out]; omega)))
      have HF := Lib.hid (HEQ.out HIE.out HOE.out)
      clear ha hb
      go_wp2_with fail
      go_ret
      exact ⟨ret_bool HF.out.symm, HEND.out⟩
end Go.Proofs.YtpacgblddeoheaaDoor.T7
