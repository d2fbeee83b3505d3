/- The document's form and Check. -/
import Derived.Test.YtacbibflhdmcoaaDoorTxCheck
import Derived.Test.YtacbibflhdmcoaaDoorTxRForm
namespace Go.Proofs.YtacbibflhdmcoaaDoor.T7
open Go.RowKit Go.Deep
set_option linter.unusedVariables false
set_option linter.unusedSimpArgs false
set_option maxRecDepth 100000
attribute [local go_sem ↓] Go.wp_at_zero Go.wp_at_succ

theorem run_eq_pt7 (w : World) (p q : Pt) : (binOp .eql 78 (.agg p.arr) (.agg q.arr)).run Tryd.prog w = .ok (.bool (!p.ne q)) w := by
  rw [run_eql_struct, ten, eq_pt]
  simp
theorem run_eq_pt' (w : World) (p q : Pt) : (binOp .eql 78 (.agg p.cells.toArray) (.agg q.cells.toArray)).run Tryd.prog w = .ok (.bool (!p.ne q)) w := run_eq_pt7 w p q
theorem wpList_eq_pt {ops : Array Oper} {Q : Exit → Act → World → Prop} {a : Act} {w : World} {o : Oper} {rest : List Oper} (hgd : o.guard = none) (x y : Operand) (b : TypeId) (ho : o.op = .binOp .eql 78 x y b)
    (p q : Pt) (hx : a.eval x = .agg p.cells.toArray) (hy : a.eval y = .agg q.cells.toArray) (r : Bool) (hr : p.ne q = r)
    (h : wpList Tryd.prog ops Q rest (a.put o.dst (.bool !r)) w) : wpList Tryd.prog ops Q (o :: rest) a w :=
  wpList_plain hgd fun _ hK => by
    subst hr
    unfold Oper.wp execOp
    simp only [ho, hx, hy, Sem.run_bind, run_eqGuard_agg w .eql 78 x y _ _ guard_pt, Result.andThen_ok, run_eq_pt', Sem.run_pure]
    exact hK _ _ h
theorem ne_symm7 (p q : Pt) : p.ne q = q.ne p := by
  unfold Pt.ne
  rw [decide_eq_decide.2 (⟨Eq.symm, Eq.symm⟩ : p.h = q.h ↔ q.h = p.h), decide_eq_decide.2 (⟨Eq.symm, Eq.symm⟩ : p.n = q.n ↔ q.n = p.n)]
set_option maxHeartbeats 4000000 in
theorem rcheck_full (t : Txs.Tx) (A A' : Option Addr) (c c' B : Nat) (w : World) (h : TxAt w B t A c A' c') (hB : B ≤ w.heap.size) (hf : Txs.form t = true) (hi0 : t.ins.length ≠ 0) (ho0 : t.outs.length ≠ 0) :
    Calls Tryd.prog 34 #[txV t A c A' c'] w fun e w' => e = .returned (.int .i64 (Txs.check t)) ∧ Below w.heap.size w w' := by
  obtain ⟨f1, f2, f3⟩ := Txs.form_iff.1 hf
  have HF := fun W hb1 hb2 => rform_any t A A' c c' B W (h.below hb1) hb2
  rw [hf] at HF
  have HCK := Lib.hid (show Txs.check t = if Txs.money t.outs = true then (if Txs.apart t.ins = true then 0 else 12) else 11 by unfold Txs.check; rw [if_pos hf, if_neg (by omega)])
  have HIA := Lib.hid h.ins
  have HOA := Lib.hid h.outs
  have hmi := Nat.le_trans h.ic h.im
  have hic := h.ic
  have him := h.im
  unfold maxLen at hmi him
  unfold txV at HF ⊢
  have HFF := Lib.hid HF
  obtain ⟨n, hn⟩ : ∃ n, n = t.ins.length := ⟨_, rfl⟩
  obtain ⟨m, hm⟩ : ∃ m, m = t.outs.length := ⟨_, rfl⟩
  rw [← hn, ← hm] at HFF ⊢
  rw [← hn] at f2 hi0 hic hmi
  rw [← hm] at f3 ho0
  generalize t.version = ver at *
  have HN := Lib.hid hn
  have HM := Lib.hid hm
  obtain ⟨w1, hw1⟩ : ∃ w1, w1 = w.alloc (.cells #[.int .u32 (ver : Int), .slice A n c, .slice A' m c'] 35) := ⟨_, rfl⟩
  have HK := Lib.hid (show Bk w1 w.heap.size 35 #[.int .u32 (ver : Int), .slice A n c, .slice A' m c'] by rw [hw1]; exact Bk.new _ _ _)
  have HZ := Lib.hid (show w1.heap.size = w.heap.size + 1 by rw [hw1]; simp)
  have HW := Lib.hid (show Below w.heap.size w w1 by rw [hw1]; exact Joins.below_alloc1 _ _)
  have hne1 : ((n : Int) == 0) = false := by rw [beq_eq_false_iff_ne]; omega
  have hne2 : ((m : Int) == 0) = false := by rw [beq_eq_false_iff_ne]; omega
  clear h hf HF hn hm f1 hi0 ho0
  go_enter Tryd.func34, Tryd.ntmps34
  go_wp2_with fail
  rw [← hw1]
  clear hw1
  refine (HFF.out w1 (HW.out.mono hB) (by rw [HZ.out]; omega)).mono ?_
  rintro e w2 ⟨rfl, hb2⟩
  have HK2 := Lib.hid (HK.out.below hb2 HK.out.lt)
  have HB2 := Lib.hid (HW.out.trans (hb2.mono HW.out.size))
  have c1 : w2.cell? ⟨w.heap.size, 1, none⟩ = some (.slice A n c) := (HK2.out.cell 1).trans rfl
  have c2 : w2.cell? ⟨w.heap.size, 2, none⟩ = some (.slice A' m c') := (HK2.out.cell 2).trans rfl
  have hz2 := hb2.size
  rw [HZ.out] at hz2
  clear hb2 HFF
  go_wp2_with fail
  go_loopw [3, 26] (fun sv iv wr => ∃ (k S L : Nat), k ≤ m ∧ iv = .int .i64 (k : Int) ∧ sv = .int .u64 (L : Int) ∧ S + L = 1125899906842624 ∧ Hid (S = Txs.total (t.outs.take k)) ∧ Hid (∀ j (hj : j < t.outs.length), j < k → 0 < t.outs[j].value) ∧ Hid (Below w2.heap.size w2 wr)) (fun _ iv _ => m - (intOf iv).toNat)
  case atStart => exact ⟨0, 0, 1125899906842624, Nat.zero_le _, rfl, rfl, by omega, Lib.hid rfl, Lib.hid (fun j hj h => by omega), Lib.hid (Below.refl _ _)⟩
  case round =>
    obtain ⟨k, S, L, hk, rfl, rfl, hS, hST, hpos, hb⟩ := hrel
    have hws := hb.out.size
    by_cases hlt : k < m
    · have hlt1 : k < t.outs.length := by rw [← HM.out]; exact hlt
      obtain ⟨b, off, rfl, hbB, hr, hok⟩ := OutsAt.range (At.below HOA.out ((HB2.out.trans (hb.out.mono HB2.out.size)).mono hB)) hlt1
      have HSN := Lib.hid (Txs.total_snoc hlt1)
      have HMZ := Lib.hid (fun hz => Txs.money_zero hlt1 hz)
      have HMB := Lib.hid (fun hz => Txs.money_over (l := t.outs) (k := k + 1) hz)
      have HPOS : Hid (0 < t.outs[k].value → ∀ j (hj : j < t.outs.length), j < k + 1 → 0 < t.outs[j].value) := Lib.hid (fun hp j hj hjk => by
        rcases Nat.lt_or_ge j k with h | h
        · exact hpos.out j hj h
        · obtain rfl : j = k := by omega
          exact hp)
      have i1 : (0 : Int) ≤ (k : Int) := by omega
      have i2 : (k : Int) < (m : Int) := by omega
      generalize t.outs[k] = x at *
      have hxv := hok.1
      have HOK := Lib.hid hok
      obtain ⟨v, hv⟩ : ∃ v, v = x.value := ⟨_, rfl⟩
      rw [← hv] at HSN HMZ HPOS hxv
      have HR := Lib.hid hr
      have HLN := Lib.hid (outCells_len hok)
      have HONE := Lib.hid (outCells_one x)
      have HCV := Lib.hid (fun W => out_value (Bk.new W 94 (outCells x).toArray))
      rw [← hv] at HCV
      generalize hcs : outCells x = cs at *
      have HZI := zero_out
      have HZL := Lib.hid zeroOut_len
      generalize (outCells ⟨0, List.replicate 32 0⟩).toArray = zs at *
      have HZI := Lib.hid HZI
      have hbig : (v : Int) ≤ 18446744073709551615 := by omega
      have hL : (L : Int) ≤ 1125899906842624 := by omega
      clear hcs hr hok hv
      rcases Nat.eq_zero_or_pos v with hv0 | hvp
      · have HF := Lib.hid (HMZ.out hv0)
        have hvb : ((v : Int) == 0) = true := by rw [beq_iff_eq]; omega
        clear hv0 hS
        go_wp2_with (refine wpList_elem rfl rfl rfl 94 (.tmp 28) (.tmp 5) (.tmp 29) rfl rfl rfl b (off + k * 33) (by rfl) cs _ HR.out Tryd.underlying94 rfl (by rw [HLN.out]; exact size_out) zs HZI.out (by rw [HZL.out, HLN.out]) HONE.out (by rfl) (by rfl) ?_; have hcell := HCV.out wr)
        go_ret
        exact ⟨congrArg (fun z => Ending.returned (.int .i64 z)) (by rw [HCK.out, HF.out]; rfl), (HB2.out.trans (hb.out.mono HB2.out.size)).alloc (by omega) _⟩
      · by_cases hvm : L < v
        · have HF := Lib.hid (HMB.out (by rw [HSN.out, ← hST.out]; show 1125899906842624 < S + v; omega))
          have hvb : ((v : Int) == 0) = false := by rw [beq_eq_false_iff_ne]; omega
          have hvm' : (L : Int) < (v : Int) := by omega
          clear hvm hvp hS
          go_wp2_with (refine wpList_elem rfl rfl rfl 94 (.tmp 28) (.tmp 5) (.tmp 29) rfl rfl rfl b (off + k * 33) (by rfl) cs _ HR.out Tryd.underlying94 rfl (by rw [HLN.out]; exact size_out) zs HZI.out (by rw [HZL.out, HLN.out]) HONE.out (by rfl) (by rfl) ?_; have hcell := HCV.out wr)
          go_ret
          exact ⟨congrArg (fun z => Ending.returned (.int .i64 z)) (by rw [HCK.out, HF.out]; rfl), (HB2.out.trans (hb.out.mono HB2.out.size)).alloc (by omega) _⟩
        · have hvb : ((v : Int) == 0) = false := by rw [beq_eq_false_iff_ne]; omega
          have hvm' : ¬ (L : Int) < (v : Int) := by omega
          have hvm2 : (v : Int) ≤ (L : Int) := by omega
          have HSS := Lib.hid (show S + v + (L - v) = 1125899906842624 by omega)
          have HPN := Lib.hid (HPOS.out hvp)
          have HST := Lib.hid (show S + v = Txs.total (t.outs.take (k + 1)) by rw [HSN.out, hST.out])
          have HVL := Lib.hid (show (L : Int) - (v : Int) = ((L - v : Nat) : Int) by omega)
          clear hvm hvp hS
          go_wp2_with (refine wpList_elem rfl rfl rfl 94 (.tmp 28) (.tmp 5) (.tmp 29) rfl rfl rfl b (off + k * 33) (by rfl) cs _ HR.out Tryd.underlying94 rfl (by rw [HLN.out]; exact size_out) zs HZI.out (by rw [HZL.out, HLN.out]) HONE.out (by rfl) (by rfl) ?_; have hcell := HCV.out wr)
          go_roundw
          case rel => exact ⟨k + 1, S + v, L - v, by omega, by go_num, congrArg (Value.int .u64) HVL.out, HSS.out, HST, HPN, Lib.hid (hb.out.alloc hb.out.size _)⟩
          case measure => simp [intOf]; omega
    · obtain rfl : k = m := by omega
      have hSt := hST.out
      rw [HM.out, List.take_of_length_le (Nat.le_refl _)] at hSt
      have HF := Lib.hid (show Txs.money t.outs = true from Txs.money_yes (fun i hi => hpos.out i hi (by rw [HM.out]; exact hi)) (by rw [← hSt]; show S ≤ 1125899906842624; omega))
      have HB := Lib.hid (HB2.out.trans (hb.out.mono HB2.out.size))
      have HKr := Lib.hid (HK2.out.below hb.out HK2.out.lt)
      have HCK2 := Lib.hid (show Txs.check t = if Txs.apart t.ins = true then 0 else 12 by rw [HCK.out, if_pos HF.out])
      have d1 : wr.cell? ⟨w.heap.size, 1, none⟩ = some (.slice A n c) := (HKr.out.cell 1).trans rfl
      clear hSt hST hpos hb c1 c2 HK2
      go_wp2_with fail
      obtain ⟨wo, rfl⟩ : ∃ wo : World, wo = wr := ⟨_, rfl⟩
      go_loopw [47] (fun iv wz => ∃ k : Nat, k ≤ n ∧ iv = .int .i64 (k : Int) ∧ Hid (Txs.apart (t.ins.take k) = true) ∧ Hid (Below wo.heap.size wo wz)) (fun iv _ => n - (intOf iv).toNat)
      case atStart => exact ⟨0, Nat.zero_le _, rfl, Lib.hid Txs.apart_nil, Lib.hid (Below.refl _ _)⟩
      case round =>
        obtain ⟨j, hj, rfl, hap, hb⟩ := hrel
        have HBW := Lib.hid (HB.out.trans (hb.out.mono HB.out.size))
        have hws2 := HBW.out.size
        have d2 : wr.cell? ⟨w.heap.size, 1, none⟩ = some (.slice A n c) := (hb.out.cell (p := ⟨w.heap.size, 1, none⟩) HKr.out.lt).trans d1
        by_cases hlt : j < n
        · have hlt1 : j < t.ins.length := by rw [← HN.out]; exact hlt
          obtain ⟨q, off, Ak, ck, rfl, hqB, hr, hok, hkc, hkm, _⟩ := (HIA.out.below (HBW.out.mono hB)).range hlt1
          have i1 : (0 : Int) ≤ (j : Int) := by omega
          have i2 : (j : Int) < (n : Int) := by omega
          have i3 : (j : Int) ≤ (c : Int) := by omega
          obtain ⟨wx, hwx⟩ : ∃ wx, wx = wr.alloc (.cells (inCells t.ins[j] (.slice Ak t.ins[j].key.length ck)).toArray 91) := ⟨_, rfl⟩
          have HBX := Lib.hid (show Below wr.heap.size wr wx by rw [hwx]; exact Joins.below_alloc1 _ _)
          have HZX := Lib.hid (show wx.heap.size = wr.heap.size + 1 by rw [hwx]; simp)
          have HB3 := Lib.hid (show Bk wx wr.heap.size 91 (inCells t.ins[j] (.slice Ak t.ins[j].key.length ck)).toArray by rw [hwx]; exact Bk.new _ _ _)
          have HRP := Lib.hid (by have := bk_range HB3.out; rw [in_pt t.ins[j] hok] at this; exact range_head this : wx.rangeAt wr.heap.size 0 (ptOf t.ins[j] hok).cells)
          have HEQ : Hid (∀ i (hi : i < t.ins.length) (hoi : t.ins[i].Ok), i < j → (ptOf t.ins[i] hoi).ne (ptOf t.ins[j] hok) = false → Txs.apart t.ins = false) := Lib.hid (fun i hi hoi hij he => by
            unfold Pt.ne ptOf at he
            simp at he
            exact Txs.apart_no hij hlt1 he.1 he.2)
          have HAP : Hid ((∀ i (hi : i < t.ins.length) (hoi : t.ins[i].Ok), i < j → (ptOf t.ins[i] hoi).ne (ptOf t.ins[j] hok) = true) → Txs.apart (t.ins.take (j + 1)) = true) := Lib.hid (fun hall => Txs.apart_snoc hlt1 hap.out (fun i hi he => by
            have hil : i < t.ins.length := by omega
            obtain ⟨_, _, _, _, _, _, _, hoi, _⟩ := (HIA.out.below (HBW.out.mono hB)).range hil
            have := hall i hil hoi hi
            unfold Pt.ne ptOf at this
            simp at this
            rcases this with h | h
            · exact h he.1
            · exact h he.2))
          have L1 := Lib.hid (Pt.cells_len (ptOf t.ins[j] hok))
          have HR := Lib.hid hr
          have HL := Lib.hid (inCells_len hok (.slice Ak t.ins[j].key.length ck))
          have HONE := Lib.hid (inCells_one t.ins[j] Ak t.ins[j].key.length ck)
          generalize ptOf t.ins[j] hok = px at *
          generalize hcs : inCells t.ins[j] (.slice Ak t.ins[j].key.length ck) = cs at *
          have HZI := zero_in
          have HZL := Lib.hid zeroIn_len
          have HZI := Lib.hid HZI
          have d3 : wx.cell? ⟨w.heap.size, 1, none⟩ = some (.slice (some ⟨q, off, none⟩) n c) := (HBX.out.cell (p := ⟨w.heap.size, 1, none⟩) (by show w.heap.size < _; have := HKr.out.lt; have := hb.out.size; omega)).trans d2
          have HIX := Lib.hid (HIA.out.below ((HBW.out.trans (HBX.out.mono HBW.out.size)).mono hB))
          generalize hzs : (inCells ⟨List.replicate 32 0, 0, []⟩ (.slice none 0 0)).toArray = zs at *
          clear hcs hr hok hkc hkm d1 d2
          go_upto_region 16 with (refine wpList_elem2 rfl rfl rfl rfl 91 (.tmp 50) (.tmp 7) (.tmp 51) (.tmp 49) rfl rfl rfl rfl q (off + j * 34) (by rfl) cs _ HR.out Tryd.underlying91 rfl (by rw [HL.out]; exact size_in) zs HZI.out (by rw [HZL.out, HL.out]) HONE.out (.int .i64 (j : Int)) (by rfl) (by rfl) (by rfl) ?_)
          rw [← hwx]
          clear hwx
          go_wp2_with fail
          obtain ⟨wp, rfl⟩ : ∃ wp : World, wp = wr := ⟨_, rfl⟩
          go_loopw [57] (fun iv wz => ∃ k : Nat, k ≤ j ∧ iv = .int .i64 (k : Int) ∧ Hid (∀ i (hi : i < t.ins.length) (hoi : t.ins[i].Ok), i < k → (ptOf t.ins[i] hoi).ne px = true) ∧ Hid (Below wx.heap.size wx wz)) (fun iv _ => j - (intOf iv).toNat)
          case atStart => exact ⟨0, Nat.zero_le _, rfl, Lib.hid (fun i _ _ h => by omega), Lib.hid (Below.refl _ _)⟩
          case round =>
            obtain ⟨l, hl, rfl, hall, hbl⟩ := hrel
            by_cases hlj : l < j
            · have hln : l < n := by omega
              have hl1 : l < t.ins.length := by rw [← HN.out]; exact hln
              have HBV := Lib.hid (HBW.out.trans ((HBX.out.mono (Nat.le_refl _) |>.mono HBW.out.size)) |>.trans (hbl.out.mono (by have := HBX.out.size; omega)))
              obtain ⟨q', off', Ak', ck', hq', hqB', hr', hok', hkc', hkm', _⟩ := (HIA.out.below (HBV.out.mono hB)).range hl1
              obtain ⟨rfl, rfl⟩ : q = q' ∧ off = off' := by
                injection hq' with hq'
                injection hq' with h1 h2
                exact ⟨h1, h2⟩
              have j1 : (0 : Int) ≤ (l : Int) := by omega
              have j2 : (l : Int) < (j : Int) := by omega
              have HRX := Lib.hid (rangeAt_below (HRP.out) (hbl.out) (by rw [HZX.out]; omega))
              have HRY := Lib.hid (fun (W : World) (h : Bk W wr.heap.size 91 (inCells t.ins[l] (.slice Ak' t.ins[l].key.length ck')).toArray) => (by have := bk_range h; rw [in_pt t.ins[l] hok'] at this; exact range_head this : W.rangeAt wr.heap.size 0 (ptOf t.ins[l] hok').cells))
              have HEL := Lib.hid (HEQ.out l hl1 hok' hlj)
              have HNX : Hid ((ptOf t.ins[l] hok').ne px = true → ∀ i (hi : i < t.ins.length) (hoi : t.ins[i].Ok), i < l + 1 → (ptOf t.ins[i] hoi).ne px = true) := Lib.hid (fun hp i hi hoi hil => by
                rcases Nat.lt_or_ge i l with h | h
                · exact hall.out i hi hoi h
                · obtain rfl : i = l := by omega
                  exact hp)
              have L2 := Lib.hid (Pt.cells_len (ptOf t.ins[l] hok'))
              have HR2 := Lib.hid hr'
              have HL2 := Lib.hid (inCells_len hok' (.slice Ak' t.ins[l].key.length ck'))
              have HONE2 := Lib.hid (inCells_one t.ins[l] Ak' t.ins[l].key.length ck')
              generalize ptOf t.ins[l] hok' = py at *
              generalize hcs2 : inCells t.ins[l] (.slice Ak' t.ins[l].key.length ck') = cs2 at *
              have HBN := Lib.hid (show Below wx.heap.size wx (wr.alloc (.cells cs2.toArray 91)) from hbl.out.alloc hbl.out.size _)
              have HEND := Lib.hid (show Below w.heap.size w (wr.alloc (.cells cs2.toArray 91)) from HBV.out.alloc HBV.out.size _)
              have HRX2 := Lib.hid (show (wr.alloc (.cells cs2.toArray 91)).rangeAt wp.heap.size 0 px.cells from rangeAt_below HRP.out HBN.out (by rw [HZX.out]; omega))
              have HRY2 := Lib.hid (HRY.out _ (Bk.new wr 91 cs2.toArray))
              clear hcs2 hr' hok' hkc' hkm' hq'
              cases hpn : px.ne py with
              | true =>
                have HNN := Lib.hid (HNX.out (by rw [ne_symm7]; exact hpn))
                go_upto_region 19 with (refine wpList_elem rfl rfl rfl 91 (.tmp 59) (.tmp 9) (.tmp 60) rfl rfl rfl q (off + l * 34) (by rfl) cs2 _ HR2.out Tryd.underlying91 rfl (by rw [HL2.out]; exact size_in) zs HZI.out (by rw [HZL.out, HL2.out]) HONE2.out (by rfl) (by rfl) ?_)
                go_wp2_with (first
                  | (refine wpList_load_mid rfl 78 (.tmp 61) rfl wp.heap.size 0 (by rfl) px.cells _ HRX2.out Tryd.underlying78 rfl (by rw [L1.out]; exact size_pt) ?_)
                  | (refine wpList_load_mid rfl 78 (.tmp 63) rfl wr.heap.size 0 (by rfl) py.cells _ HRY2.out Tryd.underlying78 rfl (by rw [L2.out]; exact size_pt) ?_)
                  | (refine wpList_eq_pt rfl (.tmp 62) (.tmp 64) _ rfl px py (by rfl) (by rfl) true hpn ?_))
                go_roundw
                case rel => exact ⟨l + 1, by omega, by go_num, HNN, HBN⟩
                case measure => simp [intOf]; omega
              | false =>
                have HF := Lib.hid (HEL.out (by rw [ne_symm7]; exact hpn))
                go_upto_region 19 with (refine wpList_elem rfl rfl rfl 91 (.tmp 59) (.tmp 9) (.tmp 60) rfl rfl rfl q (off + l * 34) (by rfl) cs2 _ HR2.out Tryd.underlying91 rfl (by rw [HL2.out]; exact size_in) zs HZI.out (by rw [HZL.out, HL2.out]) HONE2.out (by rfl) (by rfl) ?_)
                go_wp2_with (first
                  | (refine wpList_load_mid rfl 78 (.tmp 61) rfl wp.heap.size 0 (by rfl) px.cells _ HRX2.out Tryd.underlying78 rfl (by rw [L1.out]; exact size_pt) ?_)
                  | (refine wpList_load_mid rfl 78 (.tmp 63) rfl wr.heap.size 0 (by rfl) py.cells _ HRY2.out Tryd.underlying78 rfl (by rw [L2.out]; exact size_pt) ?_)
                  | (refine wpList_eq_pt rfl (.tmp 62) (.tmp 64) _ rfl px py (by rfl) (by rfl) false hpn ?_))
                go_ret
                exact ⟨congrArg (fun z => Ending.returned (.int .i64 z)) (by rw [HCK2.out, HF.out]; rfl), HEND.out⟩
            · obtain rfl : l = j := by omega
              have HAN := Lib.hid (HAP.out (fun i hi hoi hij => hall.out i hi hoi hij))
              have HBN := Lib.hid (hb.out.trans ((HBX.out.trans (hbl.out.mono HBX.out.size)).mono hb.out.size))
              go_wp2_with fail
              go_roundw
              case rel => exact ⟨l + 1, by omega, by go_num, HAN, HBN⟩
              case measure => simp [intOf]; omega
        · obtain rfl : j = n := by omega
          have hap' := hap.out
          rw [HN.out, List.take_of_length_le (Nat.le_refl _)] at hap'
          have HF := Lib.hid hap'
          clear hap'
          go_wp2_with fail
          go_ret
          exact ⟨congrArg (fun z => Ending.returned (.int .i64 z)) (by rw [HCK2.out, HF.out]; rfl), HBW.out⟩
/-- what may not be of it -/
theorem rcheck_any (t : Txs.Tx) (A A' : Option Addr) (c c' B : Nat) (w : World) (h : TxAt w B t A c A' c') (hB : B ≤ w.heap.size) :
    Calls Tryd.prog 34 #[txV t A c A' c'] w fun e w' => e = .returned (.int .i64 (Txs.check t)) ∧ Below w.heap.size w w' := by
  cases hf : Txs.form t with
  | false =>
    have HF := fun W hb1 hb2 => rform_any t A A' c c' B W (h.below hb1) hb2
    rw [hf] at HF
    have HC := Lib.hid (show Txs.check t = 5 by unfold Txs.check; rw [if_neg (by simp [hf])])
    unfold txV at HF ⊢
    have HFF := Lib.hid HF
    clear h hf HF
    go_enter Tryd.func34, Tryd.ntmps34
    go_wp2_with fail
    refine (HFF.out _ (Below.mono (Joins.below_alloc1 _ _) hB) (by simp; omega)).mono ?_
    rintro e w1 ⟨rfl, hb⟩
    have HB := Lib.hid hb
    clear hb
    go_wp2_with fail
    go_ret
    exact ⟨congrArg (fun z => Ending.returned (.int .i64 z)) HC.out.symm, (Joins.below_alloc1 _ _).trans (HB.out.mono (by simp))⟩
  | true =>
    by_cases h0 : t.ins.length = 0 ∨ t.outs.length = 0
    · have HC := Lib.hid (show Txs.check t = 9 by unfold Txs.check; rw [if_pos hf, if_pos h0])
      have HF := fun W hb1 hb2 => rform_any t A A' c c' B W (h.below hb1) hb2
      rw [hf] at HF
      unfold txV at HF ⊢
      have HFF := Lib.hid HF
      have HK := Lib.hid (Bk.new w 35 #[.int .u32 (t.version : Int), .slice A t.ins.length c, .slice A' t.outs.length c'])
      have hmi := Nat.le_trans h.ic h.im
      have hmo := Nat.le_trans h.oc h.om
      unfold maxLen at hmi hmo
      clear h hf HF
      generalize t.ins.length = n at *
      generalize t.outs.length = m at *
      generalize t.version = ver at *
      by_cases hn : n = 0
      · subst hn
        clear h0
        go_enter Tryd.func34, Tryd.ntmps34
        go_wp2_with fail
        refine (HFF.out _ (Below.mono (Joins.below_alloc1 _ _) hB) (by simp; omega)).mono ?_
        rintro e w1 ⟨rfl, hb⟩
        have c1 : w1.cell? ⟨w.heap.size, 1, none⟩ = some (.slice A 0 c) := ((HK.out.below hb (by simp)).cell 1).trans rfl
        have HB := Lib.hid hb
        clear hb
        go_wp2_with fail
        go_ret
        exact ⟨congrArg (fun z => Ending.returned (.int .i64 z)) HC.out.symm, (Joins.below_alloc1 _ _).trans (HB.out.mono (by simp))⟩
      · obtain rfl : m = 0 := by omega
        have hne : ((n : Int) == 0) = false := by rw [beq_eq_false_iff_ne]; omega
        clear h0
        go_enter Tryd.func34, Tryd.ntmps34
        go_wp2_with fail
        refine (HFF.out _ (Below.mono (Joins.below_alloc1 _ _) hB) (by simp; omega)).mono ?_
        rintro e w1 ⟨rfl, hb⟩
        have c1 : w1.cell? ⟨w.heap.size, 1, none⟩ = some (.slice A n c) := ((HK.out.below hb (by simp)).cell 1).trans rfl
        have c2 : w1.cell? ⟨w.heap.size, 2, none⟩ = some (.slice A' 0 c') := ((HK.out.below hb (by simp)).cell 2).trans rfl
        have HB := Lib.hid hb
        clear hb
        go_wp2_with fail
        go_ret
        exact ⟨congrArg (fun z => Ending.returned (.int .i64 z)) HC.out.symm, (Joins.below_alloc1 _ _).trans (HB.out.mono (by simp))⟩
    · exact rcheck_full t A A' c c' B w h hB hf (by omega) (by omega)
end Go.Proofs.YtacbibflhdmcoaaDoor.T7
