/- The program's Check. -/
import Derived.Test.YtacbibflhdmcoaaDoorTxCheck0
import Derived.Test.YtacbibflhdmcoaaDoorTxKey
import Derived.Test.YtacbibflhdmcoaaDoorMapInc
namespace Go.Proofs.YtacbibflhdmcoaaDoor.T7
open Go.RowKit Go.Deep
set_option linter.unusedVariables false
set_option linter.unusedSimpArgs false
set_option maxRecDepth 100000
attribute [local go_sem ↓] Go.wp_at_zero Go.wp_at_succ

theorem out_lt {w : World} {g t : Nat} {x : Txs.Out} (h : Bk w g t (outCells x).toArray) : w.cell? ⟨g, 0, none⟩ = some (.int .u64 (x.value : Int)) := out_value h
theorem zeroInt7 : ∀ u : World, (zeroValue 3).run Tryd.prog u = .ok (.int .i64 0) u := fun u => by kernel_rfl
theorem wf_wrap (n : Int) : (Lit.int .i64 (IntKind.i64.wrap n)).wf = true := by
  rw [IntKind.wrap_i64]
  simp [Lit.wf, IntKind.min, IntKind.max, IntKind.signed, IntKind.bits]
  constructor <;> omega
theorem kp_below7 {S : Nat → Prop} {w w' : World} {B : Nat} (h : Kp S w w') (hB : B ≤ w.heap.size) (hS : ∀ i, i < B → ¬ S i) : Below B w w' :=
  ⟨h.os, h.tape, h.output, h.size, fun i hi => h.block i (by omega) (hS i hi)⟩
set_option maxHeartbeats 4000000 in
theorem check_full (t : Txs.Tx) (A A' : Option Addr) (c c' B : Nat) (w : World) (h : TxAt w B t A c A' c') (hB : B ≤ w.heap.size) (hf : Txs.form t = true) (hi0 : t.ins.length ≠ 0) (ho0 : t.outs.length ≠ 0) :
    Calls Tryd.prog 27 #[txV t A c A' c'] w fun e w' => e = .returned (.int .i64 (Txs.check t)) ∧ Below w.heap.size w w' := by
  obtain ⟨f1, f2, f3⟩ := Txs.form_iff.1 hf
  have HF := fun W hb1 hb2 => form_any t A A' c c' B W (h.below hb1) hb2
  rw [hf] at HF
  have HCK := Lib.hid (show Txs.check t = if Txs.money t.outs = true then (if Txs.apart t.ins = true then 0 else 12) else 11 by unfold Txs.check; rw [if_pos hf, if_neg (by omega)])
  have HIA := Lib.hid h.ins
  have HOA := Lib.hid h.outs
  unfold txV at HF ⊢
  have HFF := Lib.hid HF
  obtain ⟨n, hn⟩ : ∃ n, n = t.ins.length := ⟨_, rfl⟩
  obtain ⟨m, hm⟩ : ∃ m, m = t.outs.length := ⟨_, rfl⟩
  rw [← hn, ← hm] at HFF ⊢
  rw [← hn] at f2 hi0
  rw [← hm] at f3 ho0
  generalize t.version = ver at *
  have HN := Lib.hid hn
  have HM := Lib.hid hm
  obtain ⟨w1, hw1⟩ : ∃ w1, w1 = w.alloc (.cells #[.int .u32 (ver : Int), .slice A n c, .slice A' m c'] 35) := ⟨_, rfl⟩
  have HK := Lib.hid (show Bk w1 w.heap.size 35 #[.int .u32 (ver : Int), .slice A n c, .slice A' m c'] by rw [hw1]; exact Bk.new _ _ _)
  have HZ := Lib.hid (show w1.heap.size = w.heap.size + 1 by rw [hw1]; simp)
  have HW := Lib.hid (show Below w.heap.size w w1 by rw [hw1]; exact Joins.below_alloc1 _ _)
  have hne1 : ((n : Int) == 0) = false := by rw [beq_eq_false_iff_ne]; omega
  have hne2 : ((m : Int) == 0) = false := by rw [beq_eq_false_iff_ne]; omega
  have hmm := @run_makeMap Tryd.prog
  clear h hf HF hn hm f1 hi0 ho0
  go_enter Tryd.func27, Tryd.ntmps27
  go_wp2_with fail
  rw [← hw1]
  clear hw1
  refine (HFF.out w1 (HW.out.mono hB) (by rw [HZ.out]; omega)).mono ?_
  rintro e w2 ⟨rfl, hb2⟩
  have HK2 := Lib.hid (HK.out.below hb2 HK.out.lt)
  have HB2 := Lib.hid (HW.out.trans (hb2.mono HW.out.size))
  have c1 : w2.cell? ⟨w.heap.size, 1, none⟩ = some (.slice A n c) := (HK2.out.cell 1).trans rfl
  have c2 : w2.cell? ⟨w.heap.size, 2, none⟩ = some (.slice A' m c') := (HK2.out.cell 2).trans rfl
  have hz2 := hb2.size
  rw [HZ.out] at hz2
  clear hb2 HFF
  go_wp2_with fail
  go_loopw [3, 25] (fun sv iv wr => ∃ (k S : Nat), k ≤ m ∧ iv = .int .i64 (k : Int) ∧ sv = .int .u64 (S : Int) ∧ S ≤ k * 1125899906842624 ∧ Hid (S = Txs.total (t.outs.take k)) ∧ Hid (∀ j (hj : j < t.outs.length), j < k → 0 < t.outs[j].value) ∧ Hid (Below w2.heap.size w2 wr)) (fun _ iv _ => m - (intOf iv).toNat)
  case atStart => exact ⟨0, 0, Nat.zero_le _, rfl, rfl, by omega, Lib.hid rfl, Lib.hid (fun j hj h => by omega), Lib.hid (Below.refl _ _)⟩
  case round =>
    obtain ⟨k, S, hk, rfl, rfl, hS, hST, hpos, hb⟩ := hrel
    have hws := hb.out.size
    by_cases hlt : k < m
    · have hlt1 : k < t.outs.length := by rw [← HM.out]; exact hlt
      obtain ⟨b, off, rfl, hbB, hr, hok⟩ := OutsAt.range (At.below HOA.out ((HB2.out.trans (hb.out.mono HB2.out.size)).mono hB)) hlt1
      have HSN := Lib.hid (Txs.total_snoc hlt1)
      have HMZ := Lib.hid (fun hz => Txs.money_zero hlt1 hz)
      have HMB := Lib.hid (fun hz => Txs.money_big hlt1 hz)
      have HPOS : Hid (0 < t.outs[k].value → ∀ j (hj : j < t.outs.length), j < k + 1 → 0 < t.outs[j].value) := Lib.hid (fun hp j hj hjk => by
        rcases Nat.lt_or_ge j k with h | h
        · exact hpos.out j hj h
        · obtain rfl : j = k := by omega
          exact hp)
      have i1 : (0 : Int) ≤ (k : Int) := by omega
      have i2 : (k : Int) < (m : Int) := by omega
      generalize t.outs[k] = x at *
      have hxv := hok.1
      have HOK := Lib.hid hok
      obtain ⟨v, hv⟩ : ∃ v, v = x.value := ⟨_, rfl⟩
      rw [← hv] at HSN HMZ HMB HPOS hxv
      have HR := Lib.hid hr
      have HLN := Lib.hid (outCells_len hok)
      have HONE := Lib.hid (outCells_one x)
      have HCV := Lib.hid (fun W => out_value (Bk.new W 94 (outCells x).toArray))
      rw [← hv] at HCV
      generalize hcs : outCells x = cs at *
      have HZI := zero_out
      have HZL := Lib.hid zeroOut_len
      generalize (outCells ⟨0, List.replicate 32 0⟩).toArray = zs at *
      have HZI := Lib.hid HZI
      have hbig : (v : Int) ≤ 18446744073709551615 := by omega
      clear hcs hr hok hv
      rcases Nat.eq_zero_or_pos v with hv0 | hvp
      · have HF := Lib.hid (HMZ.out hv0)
        have hvb : ((v : Int) == 0) = true := by rw [beq_iff_eq]; omega
        clear hv0
        go_wp2_with (refine wpList_elem rfl rfl rfl 94 (.tmp 27) (.tmp 5) (.tmp 28) rfl rfl rfl b (off + k * 33) (by rfl) cs _ HR.out Tryd.underlying94 rfl (by rw [HLN.out]; exact size_out) zs HZI.out (by rw [HZL.out, HLN.out]) HONE.out (by rfl) (by rfl) ?_; have hcell := HCV.out wr)
        go_ret
        exact ⟨congrArg (fun z => Ending.returned (.int .i64 z)) (by rw [HCK.out, HF.out]; rfl), (HB2.out.trans (hb.out.mono HB2.out.size)).alloc (by omega) _⟩
      · by_cases hvm : 1125899906842624 < v
        · have HF := Lib.hid (HMB.out hvm)
          have hvb : ((v : Int) == 0) = false := by rw [beq_eq_false_iff_ne]; omega
          have hvm' : (1125899906842624 : Int) < (v : Int) := by omega
          clear hvm hvp
          go_wp2_with (refine wpList_elem rfl rfl rfl 94 (.tmp 27) (.tmp 5) (.tmp 28) rfl rfl rfl b (off + k * 33) (by rfl) cs _ HR.out Tryd.underlying94 rfl (by rw [HLN.out]; exact size_out) zs HZI.out (by rw [HZL.out, HLN.out]) HONE.out (by rfl) (by rfl) ?_; have hcell := HCV.out wr)
          go_ret
          exact ⟨congrArg (fun z => Ending.returned (.int .i64 z)) (by rw [HCK.out, HF.out]; rfl), (HB2.out.trans (hb.out.mono HB2.out.size)).alloc (by omega) _⟩
        · have hvb : ((v : Int) == 0) = false := by rw [beq_eq_false_iff_ne]; omega
          have hvm' : ¬ (1125899906842624 : Int) < (v : Int) := by omega
          have hvm2 : (v : Int) ≤ 1125899906842624 := by omega
          have hS2 : (S : Int) ≤ 9007199254740992 := by omega
          have HPN := Lib.hid (HPOS.out hvp)
          have HST := Lib.hid (show S + v = Txs.total (t.outs.take (k + 1)) by rw [HSN.out, hST.out])
          clear hvm hvp
          go_wp2_with (refine wpList_elem rfl rfl rfl 94 (.tmp 27) (.tmp 5) (.tmp 28) rfl rfl rfl b (off + k * 33) (by rfl) cs _ HR.out Tryd.underlying94 rfl (by rw [HLN.out]; exact size_out) zs HZI.out (by rw [HZL.out, HLN.out]) HONE.out (by rfl) (by rfl) ?_; have hcell := HCV.out wr)
          go_roundw
          case rel => exact ⟨k + 1, S + v, by omega, by go_num, by go_num, by omega, HST, HPN, Lib.hid (hb.out.alloc hb.out.size _)⟩
          case measure => simp [intOf]; omega
    · obtain rfl : k = m := by omega
      have hS2 : (S : Int) ≤ 9007199254740992 := by omega
      have hSt := hST.out
      rw [HM.out, List.take_of_length_le (Nat.le_refl _)] at hSt
      by_cases hSm : 1125899906842624 < S
      · have HF := Lib.hid (show Txs.money t.outs = false from Txs.money_over (k := t.outs.length) (by rw [List.take_of_length_le (Nat.le_refl _), ← hSt]; exact hSm))
        have hSm' : (1125899906842624 : Int) < (S : Int) := by omega
        have HB := Lib.hid (HB2.out.trans (hb.out.mono HB2.out.size))
        clear hSm hSt hST hpos hb
        go_wp2_with fail
        go_ret
        exact ⟨congrArg (fun z => Ending.returned (.int .i64 z)) (by rw [HCK.out, HF.out]; rfl), HB.out⟩
      · have HF := Lib.hid (show Txs.money t.outs = true from Txs.money_yes (fun i hi => hpos.out i hi (by rw [HM.out]; exact hi)) (by rw [← hSt]; show S ≤ 1125899906842624; omega))
        have hSm' : ¬ (1125899906842624 : Int) < (S : Int) := by omega
        have HB := Lib.hid (HB2.out.trans (hb.out.mono HB2.out.size))
        have HKr := Lib.hid (HK2.out.below hb.out HK2.out.lt)
        have HCK2 := Lib.hid (show Txs.check t = if Txs.apart t.ins = true then 0 else 12 by rw [HCK.out, if_pos HF.out])
        have HI2 := Lib.hid (HIA.out.below (HB.out.mono hB))
        have d1 : wr.cell? ⟨w.heap.size, 1, none⟩ = some (.slice A n c) := (HKr.out.cell 1).trans rfl
        clear hSm hSt hST hpos hb c1 c2 HK2
        go_upto_region 16 with (fail)
        obtain ⟨wm, hwm⟩ : ∃ wm, wm = wr.alloc (.map #[] 0) := ⟨_, rfl⟩
        obtain ⟨b, hbe⟩ : ∃ b, b = wr.heap.size := ⟨_, rfl⟩
        have HOM := Lib.hid (show wm.ownsMap (H := Unit) Tryd.prog 78 (plainElem Tryd.prog 3) b 0 (.map []) by rw [hwm, hbe]; exact World.ownsMap_made _ _ _ _)
        have HBM := Lib.hid (show Below w.heap.size w wm by rw [hwm]; exact HB.out.alloc HB.out.size _)
        have HKM := Lib.hid (show Bk wm w.heap.size 35 _ by rw [hwm]; exact HKr.out.alloc _)
        have hbw : w.heap.size < b := by rw [hbe]; exact HKr.out.lt
        have hbm : wm.heap.size = b + 1 := by rw [hwm, hbe]; simp
        have d1 : wm.cell? ⟨w.heap.size, 1, none⟩ = some (.slice A n c) := (HKM.out.cell 1).trans rfl
        rw [← hwm, ← hbe]
        have HIM := Lib.hid (HIA.out.below (HBM.out.mono hB))
        clear hwm hbe HI2
        go_wp2_with fail
        go_loopw [48] (fun iv wz => ∃ (k : Nat) (D : DataW Unit), k ≤ n ∧ iv = .int .i64 (k : Int) ∧ Hid (wz.ownsMap Tryd.prog 78 (plainElem Tryd.prog 3) b k D) ∧ Hid (Seen D (t.ins.take k)) ∧ Hid (Kp (fun i => i = b) wm wz)) (fun iv _ => n - (intOf iv).toNat)
        case atStart => exact ⟨0, .map [], Nat.zero_le _, rfl, HOM, Lib.hid Seen.nil, Lib.hid (Kp.refl _ _)⟩
        case round =>
          obtain ⟨j, D, hj, rfl, hom, hsn, hkp⟩ := hrel
          by_cases hlt : j < n
          · have hlt1 : j < t.ins.length := by rw [← HN.out]; exact hlt
            have hbz := hkp.out.size
            have HBZ := Lib.hid (show Below w.heap.size wm wr from kp_below7 hkp.out (Nat.le_trans (Nat.le_of_lt hbw) (by omega)) (fun i hi => by omega))
            obtain ⟨q, off, Ak, ck, rfl, hqB, hr, hok, hkc, hkm, _⟩ := (HIM.out.below (HBZ.out.mono hB)).range hlt1
            have HSU : Hid (∀ (hx : t.ins[j].Ok) (d : DataW Unit), Seen (D.put (ptLit (ptOf t.ins[j] hx)) d) (t.ins.take (j + 1))) := Lib.hid (fun hx d => by rw [List.take_succ_eq_append_getElem hlt1]; exact hsn.out.put _ hx d)
            have i1 : (0 : Int) ≤ (j : Int) := by omega
            have i2 : (j : Int) < (n : Int) := by omega
            generalize t.ins[j] = x at *
            have hxn : (ptOf x hok).n < 4294967296 := hok.2
            have HKEY := Lib.hid (ptLit_key (ptOf x hok) hxn)
            have HRP := Lib.hid (fun (W : World) (h : Bk W wr.heap.size 91 (inCells x (.slice Ak x.key.length ck)).toArray) => (by have := bk_range h; rw [in_pt x hok] at this; exact range_head this : W.rangeAt wr.heap.size 0 (ptOf x hok).cells))
            have HSU := Lib.hid (HSU.out hok)
            have L1 := Lib.hid (Pt.cells_len (ptOf x hok))
            have HR := Lib.hid hr
            have HL := Lib.hid (inCells_len hok (.slice Ak x.key.length ck))
            have HONE := Lib.hid (inCells_one x Ak x.key.length ck)
            generalize ptOf x hok = px at *
            generalize hcs : inCells x (.slice Ak x.key.length ck) = cs at *
            have HZI := zero_in
            have HZL := Lib.hid zeroIn_len
            generalize (inCells ⟨List.replicate 32 0, 0, []⟩ (.slice none 0 0)).toArray = zs at *
            have HZI := Lib.hid HZI
            have HB3 := Lib.hid (Bk.new wr 91 cs.toArray)
            have HOZ := Lib.hid (hom.out.alloc (.cells cs.toArray 91))
            have HKZ := Lib.hid (hkp.out.alloc (.cells cs.toArray 91))
            clear hcs hr hok hkc hkm hxn hom hkp hsn HIM
            go_wp2_with (refine wpList_elem rfl rfl rfl 91 (.tmp 50) (.tmp 8) (.tmp 51) rfl rfl rfl q (off + j * 34) (by rfl) cs _ HR.out Tryd.underlying91 rfl (by rw [HL.out]; exact size_in) zs HZI.out (by rw [HZL.out, HL.out]) HONE.out (by rfl) (by rfl) ?_)
            go_frame
            obtain ⟨w3, hw3⟩ : ∃ w3, w3 = wr.alloc (.cells cs.toArray 91) := ⟨_, rfl⟩
            rw [← hw3]
            rw [← hw3] at HB3 HOZ HKZ
            obtain ⟨cc, v0, st, w4, hcw, hl3, hE3, hl4, hg4, hS4⟩ := map_inc (w := w3.drew) pt_klaw Tryd.underlying103 Tryd.underlying3 zeroInt7 HOZ.out.drew (by unfold maxLen; omega) HKEY.out
            have HHELD := Lib.hid (show w3.drew.rangeAt wr.heap.size 0 px.cells from fun i v hv => HRP.out w3 HB3.out i v hv)
            have hwf : (Lit.int .i64 (IntKind.i64.wrap (cc + 1))).wf = true := wf_wrap _
            obtain ⟨w5, hS5, ho5, hg5⟩ := hS4 _ hwf
            have hne : some wr.heap.size ≠ some b := by intro e; have := Option.some.inj e; omega
            have HKB4 := Lib.hid (fun i => (World.cell?_of_block (w := w3.drew) (a := ⟨wr.heap.size, i, none⟩) (hg4.block wr.heap.size HB3.out.lt hne)))
            have HKB5 := Lib.hid (fun i => (World.cell?_of_block (w := w3.drew) (a := ⟨wr.heap.size, i, none⟩) (hg5.block wr.heap.size HB3.out.lt hne)).trans (HKB4.out i).symm)
            have HO5 := Lib.hid ho5
            have HK5 := Lib.hid (HKZ.out.drew.grown hg5 (fun k e _ => (Option.some.inj e).symm))
            have HL3 := Lib.hid hl3
            have HL4 := Lib.hid hl4
            have HE3 := Lib.hid hE3
            have HS5 := Lib.hid hS5
            clear hw3 hl3 hl4 hE3 hg4 hS4 hcw hwf hS5 ho5 hg5 hne
            refine wp_region_held_drew (S := fun w' => w'.rangeAt wr.heap.size 0 px.cells) (by kernel_rfl) HHELD.out (fun hHeld => ?_)
            refine wpAnyH_take (i := 0) (v := ?_) rfl (by kernel_rfl) (by kernel_rfl) (by kernel_rfl) (fun _ _ _ h => h) (Or.inl ⟨by rfl, ?_⟩) hHeld ?_
            rotate_left
            · (intro w hSw; go_simp <;> with_reducible rfl)
            simp only [Act.put, List.setIfInBounds_toArray, List.set_cons_zero, List.set_cons_succ]
            refine wpAnyH_take (i := 1) (v := ?_) rfl (by kernel_rfl) (by kernel_rfl) (by kernel_rfl) (fun _ _ _ h => h) (Or.inl ⟨by rfl, ?_⟩) hHeld ?_
            rotate_left
            · (intro w hSw; go_simp <;> with_reducible rfl)
            simp only [Act.put, List.setIfInBounds_toArray, List.set_cons_zero, List.set_cons_succ]
            refine wpAnyH_take (i := 2) (v := .agg px.cells.toArray) rfl (by kernel_rfl) (by kernel_rfl) (by kernel_rfl) (fun _ _ _ h => h) (yieldsIf_load_mid (by rfl) 78 (.tmp 53) rfl wr.heap.size 0 (by rfl) px.cells _ (fun _ h => h) Tryd.underlying78 rfl (by rw [L1.out]; exact size_pt)) hHeld ?_
            simp only [Act.put, List.setIfInBounds_toArray, List.set_cons_zero, List.set_cons_succ]
            refine wpAnyH_ready (rs := [3, 5]) (by kernel_rfl) (by simp) ?_
            refine AllReadyH.cons rfl (fun K hK => ?_) (AllReadyH.cons rfl (fun K hK => ?_) AllReadyH.nil)
            · have hq := HL3.out
              go_simp
              clear hq
              refine hK.out _ _ hHeld (fun hHeld => ?_)
              clear hK K
              try simp only [Act.put, List.setIfInBounds_toArray, List.set_cons_zero, List.set_cons_succ]
              refine wpAnyH_take (i := 4) (v := ?_) rfl (by kernel_rfl) (by kernel_rfl) (by kernel_rfl) (fun _ _ _ h => h) (Or.inl ⟨by rfl, ?_⟩) hHeld ?_
              rotate_left
              · (intro w hSw; go_simp <;> with_reducible rfl)
              simp only [Act.put, List.setIfInBounds_toArray, List.set_cons_zero, List.set_cons_succ]
              refine wpAnyH_ready (rs := [5]) (by kernel_rfl) (by simp) ?_
              refine AllReadyH.cons rfl (fun K hK => ?_) AllReadyH.nil
              have hq := HE3.out
              go_simp
              clear hq
              refine hK.out _ _ (fun i v hv => (HKB4.out (0 + i)).trans (hHeld i v hv)) (fun hHeld => ?_)
              clear hK K
              try simp only [Act.put, List.setIfInBounds_toArray, List.set_cons_zero, List.set_cons_succ]
              refine wpAnyH_take (i := 6) (v := goInt st) rfl (by kernel_rfl) (by kernel_rfl) (by kernel_rfl) (fun _ _ _ h => h) (Or.inl ⟨by rfl, ?_⟩) hHeld ?_
              · intro w hSw; go_simp
              simp only [Act.put, List.setIfInBounds_toArray, List.set_cons_zero, List.set_cons_succ]
              refine wpAnyH_ready (rs := [7]) (by kernel_rfl) (by simp) ?_
              refine AllReadyH.cons rfl (fun K hK => ?_) AllReadyH.nil
              have hq := HS5.out
              simp only [goInt] at hq
              go_simp
              clear hq
              refine hK.out _ _ (fun i v hv => (HKB5.out (0 + i)).trans (hHeld i v hv)) (fun hHeld => ?_)
              clear hK K
              try simp only [Act.put, List.setIfInBounds_toArray, List.set_cons_zero, List.set_cons_succ]
              refine wpAnyH_done (by kernel_rfl) ?_ _
              go_wp2_with fail
              go_roundw
              case rel => exact ⟨j + 1, D.put (ptLit px) (.lit (.int .i64 (IntKind.i64.wrap (cc + 1)))), by omega, by go_num, HO5, Lib.hid (HSU.out _), HK5⟩
              case measure => simp [intOf]; omega
            · have hq := HE3.out
              go_simp
              clear hq
              refine hK.out _ _ (fun i v hv => (HKB4.out (0 + i)).trans (hHeld i v hv)) (fun hHeld => ?_)
              clear hK K
              try simp only [Act.put, List.setIfInBounds_toArray, List.set_cons_zero, List.set_cons_succ]
              refine wpAnyH_take (i := 6) (v := goInt st) rfl (by kernel_rfl) (by kernel_rfl) (by kernel_rfl) (fun _ _ _ h => h) (Or.inl ⟨by rfl, ?_⟩) hHeld ?_
              · intro w hSw; go_simp
              simp only [Act.put, List.setIfInBounds_toArray, List.set_cons_zero, List.set_cons_succ]
              refine wpAnyH_ready (rs := [3]) (by kernel_rfl) (by simp) ?_
              refine AllReadyH.cons rfl (fun K hK => ?_) AllReadyH.nil
              have hq := HL4.out
              go_simp
              clear hq
              refine hK.out _ _ (fun i v hv => hHeld i v hv) (fun hHeld => ?_)
              clear hK K
              try simp only [Act.put, List.setIfInBounds_toArray, List.set_cons_zero, List.set_cons_succ]
              refine wpAnyH_take (i := 4) (v := ?_) rfl (by kernel_rfl) (by kernel_rfl) (by kernel_rfl) (fun _ _ _ h => h) (Or.inl ⟨by rfl, ?_⟩) hHeld ?_
              rotate_left
              · (intro w hSw; go_simp <;> with_reducible rfl)
              simp only [Act.put, List.setIfInBounds_toArray, List.set_cons_zero, List.set_cons_succ]
              refine wpAnyH_ready (rs := [7]) (by kernel_rfl) (by simp) ?_
              refine AllReadyH.cons rfl (fun K hK => ?_) AllReadyH.nil
              have hq := HS5.out
              simp only [goInt] at hq
              go_simp
              clear hq
              refine hK.out _ _ (fun i v hv => (HKB5.out (0 + i)).trans (hHeld i v hv)) (fun hHeld => ?_)
              clear hK K
              try simp only [Act.put, List.setIfInBounds_toArray, List.set_cons_zero, List.set_cons_succ]
              refine wpAnyH_done (by kernel_rfl) ?_ _
              go_wp2_with fail
              go_roundw
              case rel => exact ⟨j + 1, D.put (ptLit px) (.lit (.int .i64 (IntKind.i64.wrap (cc + 1)))), by omega, by go_num, HO5, Lib.hid (HSU.out _), HK5⟩
              case measure => simp [intOf]; omega
          · obtain rfl : j = n := by omega
            have hse := hsn.out
            rw [HN.out, List.take_of_length_le (Nat.le_refl _), ] at hse
            have HBE := Lib.hid (HBM.out.trans ((show Below w.heap.size wm wr from kp_below7 hkp.out (by omega) (fun i hi => by omega))))
            have e1 : wr.cell? ⟨w.heap.size, 1, none⟩ = some (.slice A j c) := (hkp.out.cell (p := ⟨w.heap.size, 1, none⟩) HKM.out.lt (by show ¬ w.heap.size = b; omega)).trans d1
            have HLE := Lib.hid hse.le
            have HIF := Lib.hid hse.iff
            rw [← HN.out] at HLE HIF
            obtain ⟨z, hz⟩ : ∃ z, z = Maps.size D := ⟨_, rfl⟩
            have HZ' := Lib.hid hz
            rw [← hz] at HLE HIF
            have hzl := HLE.out
            clear d1 HBM hsn hse hz
            by_cases hzn : z < j
            · have HC := Lib.hid (show Txs.check t = 12 by rw [HCK2.out, HIF.out, if_neg (by simp; omega)])
              have hzn' : (z : Int) < (j : Int) := by omega
              clear hzn
              go_wp2_with (refine wpList_len_own _ rfl (.tmp 60) 103 rfl 78 3 Tryd.underlying103 _ b j D rfl hom.out ?_; rw [← HZ'.out])
              go_ret
              exact ⟨congrArg (fun z => Ending.returned (.int .i64 z)) HC.out.symm, HBE.out⟩
            · have HC := Lib.hid (show Txs.check t = 0 by rw [HCK2.out, HIF.out, if_pos (by simp; omega)])
              have hzn' : ¬ (z : Int) < (j : Int) := by omega
              clear hzn
              go_wp2_with (refine wpList_len_own _ rfl (.tmp 60) 103 rfl 78 3 Tryd.underlying103 _ b j D rfl hom.out ?_; rw [← HZ'.out])
              go_ret
              exact ⟨congrArg (fun z => Ending.returned (.int .i64 z)) HC.out.symm, HBE.out⟩
/-- what may not be of it -/
theorem check7_any (t : Txs.Tx) (A A' : Option Addr) (c c' B : Nat) (w : World) (h : TxAt w B t A c A' c') (hB : B ≤ w.heap.size) :
    Calls Tryd.prog 27 #[txV t A c A' c'] w fun e w' => e = .returned (.int .i64 (Txs.check t)) ∧ Below w.heap.size w w' := by
  cases hf : Txs.form t with
  | false =>
    have := check_long t A A' c c' B w h hB hf
    rwa [show Txs.check t = 5 by unfold Txs.check; rw [if_neg (by simp [hf])]]
  | true =>
    by_cases h0 : t.ins.length = 0 ∨ t.outs.length = 0
    · have := check_none t A A' c c' B w h hB hf h0
      rwa [show Txs.check t = 9 by unfold Txs.check; rw [if_pos hf, if_pos h0]]
    · exact check_full t A A' c c' B w h hB hf (by omega) (by omega)
end Go.Proofs.YtacbibflhdmcoaaDoor.T7
