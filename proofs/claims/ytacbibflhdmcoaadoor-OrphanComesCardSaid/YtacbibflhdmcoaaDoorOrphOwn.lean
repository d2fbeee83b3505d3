/- Package orphan: a copy of a transaction of the pool's own. -/
import Derived.Test.YtacbibflhdmcoaaDoorTxBuilt
namespace Go.Proofs.YtacbibflhdmcoaaDoor.T7
open Go.RowKit Go.Deep
set_option linter.unusedVariables false
set_option linter.unusedSimpArgs false
set_option maxRecDepth 100000
attribute [local go_sem ↓] Go.wp_at_zero Go.wp_at_succ

theorem flatMap_len {α β : Type} {f : α → List β} {k : Nat} : ∀ (l : List α), (∀ x ∈ l, (f x).length = k) → (l.flatMap f).length = l.length * k
  | [], _ => by simp
  | x :: l, h => by
    rw [List.flatMap_cons, List.length_append, h x (by simp), flatMap_len l (fun y hy => h y (by simp [hy])), List.length_cons, Nat.add_mul, Nat.one_mul, Nat.add_comm]
theorem own_kp7 {w w' : World} {base : Nat} {e : TypeId} {size : Nat} {v : Value} {n : Nat} {xs : List Value} {S : Nat → Prop} (h : w.ownsRow base e size v n xs) (hk : Kp S w w') (hS : ∀ i, v.ownBlock = some i → ¬ S i) : w'.ownsRow base e size v n xs := by
  refine ⟨h.1, ?_⟩
  rcases h.2 with h | ⟨g, cap, cur, hv, hb, hg, r⟩
  · exact .inl h
  · have hlt : g < w.heap.size := (Array.getElem?_eq_some_iff.1 hg).1
    exact .inr ⟨g, cap, cur, hv, hb, (hk.block g hlt (hS g (by rw [hv]; rfl))).trans hg, r⟩
theorem Kp.low_from7o {S : Nat → Prop} {B : Nat} {w w' : World} (h : Kp S w w') (hS : ∀ i, i < B → ¬ S i) (hs : B ≤ w.heap.size) : Below B w w' := ⟨h.os, h.tape, h.output, h.size, fun i hi => h.block i (by omega) (hS i hi)⟩
theorem OutsAt.src {w : World} {B : Nat} {A : Option Addr} {l : List Txs.Out} (h : OutsAt w B A l) : Src w A (l.flatMap outCells) := by
  intro j u hu
  have hk : ∀ x ∈ l, (outCells x).length = 33 := all_of_at h fun _ x hx => outCells_len hx.1
  have hj : j < (l.flatMap outCells).length := (List.getElem?_eq_some_iff.1 hu).1
  have hlen : (l.flatMap outCells).length = l.length * 33 := flatMap_len l hk
  have hd : j / 33 < l.length := by omega
  obtain ⟨b, off, hA, hb, hr, hok⟩ := OutsAt.range h hd
  have e := flatMap_index l hk (j / 33) hd (j % 33) (by omega)
  rw [show j / 33 * 33 + j % 33 = j by omega, hu] at e
  refine ⟨_, hA, ?_⟩
  have := hr (j % 33) u e.symm
  rw [show off + j / 33 * 33 + j % 33 = off + j by omega] at this
  have e : (⟨b, off, none⟩ : Addr).add j = ⟨b, off + j, none⟩ := by unfold Addr.add; split <;> simp_all
  rw [e]
  exact this
set_option maxHeartbeats 4000000 in
theorem own_any (t : Txs.Tx) (A A' : Option Addr) (c c' B : Nat) (w : World) (h : TxAt w B t A c A' c') (hB : B ≤ w.heap.size) (hf : Txs.form t = true) :
    Calls Tryd.prog 43 #[txV t A c A' c'] w fun e w' => ∃ A1 c1 A2 c2, e = .returned (txV t A1 c1 A2 c2) ∧ TxNew w.heap.size w' t A1 c1 A2 c2 ∧ Below w.heap.size w w' := by
  obtain ⟨ii, hi, hz0, hz1, hz2⟩ := info_parts in_info
  have Ii := Lib.hid hi
  have Iz := Lib.hid hz0
  have Iz1 := Lib.hid hz1
  have Iz2 := Lib.hid hz2
  clear hi hz0 hz1 hz2
  obtain ⟨io, hi, hz0, hz1, hz2⟩ := info_parts out_info
  have Oi := Lib.hid hi
  have Oz := Lib.hid hz0
  have Oz1 := Lib.hid hz1
  have Oz2 := Lib.hid hz2
  clear hi hz0 hz1 hz2
  obtain ⟨ib, hi, hz0, hz1, hz2⟩ := info_parts byte_info
  have Bi := Lib.hid hi
  have Bz := Lib.hid hz0
  have Bz1 := Lib.hid hz1
  have Bz2 := Lib.hid hz2
  clear hi hz0 hz1 hz2
  obtain ⟨w2, hw2⟩ : ∃ w2, w2 = (w.alloc (.cells (txCells t.version (.slice A t.ins.length c) (.slice A' t.outs.length c')) 35)).alloc (.cells (txCells 0 (.slice none 0 0) (.slice none 0 0)) 35) := ⟨_, rfl⟩
  have hw2' : w2 = (w.alloc (.cells #[.int .u32 (t.version : Int), .slice A t.ins.length c, .slice A' t.outs.length c'] 35)).alloc (.cells #[.int .u32 0, .slice none 0 0, .slice none 0 0] 35) := hw2
  have HW := Lib.hid (show Below w.heap.size w w2 by rw [hw2]; exact Joins.below_alloc2 _ _ _)
  have HZ := Lib.hid (show w2.heap.size = w.heap.size + 2 by rw [hw2]; simp)
  have HR := Lib.hid (show Bk w2 w.heap.size 35 (txCells t.version (.slice A t.ins.length c) (.slice A' t.outs.length c')) by rw [hw2]; exact (Bk.new _ _ _).alloc _)
  have HRES := Lib.hid (show Bk w2 (w.heap.size + 1) 35 (txCells 0 (.slice none 0 0) (.slice none 0 0)) by
    rw [hw2]
    have := Bk.new (w.alloc (.cells (txCells t.version (.slice A t.ins.length c) (.slice A' t.outs.length c')) 35)) 35 (txCells 0 (.slice none 0 0) (.slice none 0 0))
    simpa using this)
  have HT := Lib.hid h
  obtain ⟨hf1, hf2, hf3⟩ := Txs.form_iff.1 hf
  have HF1 := Lib.hid hf1
  have hv := h.v
  have hic := h.ic
  have him := h.im
  have hoc := h.oc
  have hom := h.om
  have HO2 := Lib.hid (show ∀ W, Below w2.heap.size w2 W → Src W A' (t.outs.flatMap outCells) from fun W hW => OutsAt.src (At.below h.outs ((HW.out.trans (hW.mono (by rw [HZ.out]; omega))).mono hB)))
  have c0 : w2.cell? ⟨w.heap.size, 0, none⟩ = some (.int .u32 (t.version : Int)) := (HR.out.cell 0).trans rfl
  have c2 : w2.cell? ⟨w.heap.size, 2, none⟩ = some (.slice A' t.outs.length c') := (HR.out.cell 2).trans rfl
  have HOK := Lib.hid (show ∀ x ∈ t.outs, x.Ok from all_of_at h.outs fun _ x hx => hx.1)
  have HOO := Lib.hid (show (t.outs.flatMap outCells).length = t.outs.length * 33 from flatMap_len _ (all_of_at h.outs fun _ x hx => outCells_len hx.1))
  have HO1 := Lib.hid (show ∀ u ∈ t.outs.flatMap outCells, u.oneCell' = true by
    intro u hu
    obtain ⟨x, _, hx⟩ := List.mem_flatMap.1 hu
    exact outCells_one x u hx)
  clear hw2 h hf hf1
  have hZO := zero_out
  have hOz := Oz.out
  have hZL := zeroOut_len
  generalize (outCells ⟨0, List.replicate 32 0⟩).toArray = zo at hOz hZO hZL
  have HOz := Lib.hid hOz
  have HZL := Lib.hid hZL
  clear hOz hZO hZL Oz
  unfold txV
  go_enter Tryd.func43, Tryd.ntmps43
  go_wp2_with fail
  rw [← hw2']
  clear hw2'
  go_upto_region 1 with (fail)
  go_cut [3] (fun u3 wx => ∃ (T : Nat) (vo : Value), u3 = .pointer (some ⟨T, 0, none⟩) ∧ w.heap.size + 2 ≤ T ∧ Hid (Bk wx T 35 (txCells t.version (.slice none 0 0) vo)) ∧ Hid (RowO wx (w.heap.size + 2) vo t.outs) ∧ vo.ownBlock ≠ some T ∧ Hid (Below w2.heap.size w2 wx))
  case first =>
    have hl0 : w.heap.size < w2.heap.size := by have := HZ.out; omega
    go_region_held3 (fun w' => w'.cell? ⟨w.heap.size, 0, none⟩ = some (.int .u32 (t.version : Int)) ∧ w'.cell? ⟨w.heap.size, 2, none⟩ = some (.slice A' t.outs.length c'))
      (first | go_keep | exact ⟨(hbb.cell (p := ⟨w.heap.size, 0, none⟩) hl0).trans c0, (hbb.cell (p := ⟨w.heap.size, 2, none⟩) hl0).trans c2⟩ | exact ⟨((hbb.alloc hbb.size _).cell (p := ⟨w.heap.size, 0, none⟩) hl0).trans c0, ((hbb.alloc hbb.size _).cell (p := ⟨w.heap.size, 2, none⟩) hl0).trans c2⟩ | exact (fun hs => ⟨(hs.cell (p := ⟨w.heap.size, 0, none⟩) hl0).trans c0, (hs.cell (p := ⟨w.heap.size, 2, none⟩) hl0).trans c2⟩) (((hbb.setCell (p := ⟨w2.heap.size, 0, none⟩) (Nat.le_refl _) _).setCell (p := ⟨w2.heap.size, 1, none⟩) (Nat.le_refl _) _).setCell (p := ⟨w2.heap.size, 2, none⟩) (Nat.le_refl _) _))
      ((refine step_app _ (by rfl) (.const (.slice none 0 0)) (.tmp 9) 33 (by rfl) (w.heap.size + 2) 94 io _ 33 40 Tryd.underlying33 Oi.out HOz.out Oz1.out Oz2.out HZL.out (by decide) (.slice none 0 0) 0 [] (by rfl) (World.ownsRow_nil _ _ _ _) A' t.outs.length c' (t.outs.flatMap outCells) (by rfl) HOO.out (HO2.out _ (by first | exact (Below.refl _ _).drew | exact ((Below.refl _ _).drew).alloc (by simp) _ | exact (Below.refl _ _).alloc (by simp) _ | exact (Below.refl _ _))) HO1.out (by unfold maxLen; omega) (by omega) (by have := HZ.out; simp; omega) ?_; intro v5 w5 hrow5 hg5 hat5; obtain ⟨A5, c5, rfl, _⟩ := own_form hrow5; have hbb : Below w2.heap.size w2 w5 := ((by first | exact (Below.refl _ _).drew | exact ((Below.refl _ _).drew).alloc (by simp) _ | exact (Below.refl _ _).alloc (by simp) _ | exact (Below.refl _ _)) : Below w2.heap.size w2 _).trans (((Grw.of_app hg5 hat5).kp.below_of (by intro i hi e; simp [Value.ownBlock] at e)).mono (by simp)); try (have hT : Bk w5 w2.heap.size 35 (txCells 0 (.slice none 0 0) (.slice none 0 0)) := ((Grw.of_app hg5 hat5).bk (Bk.new _ _ _) (by simp [Value.ownBlock])).1; have t0 : w5.cell? ⟨w2.heap.size, 0, none⟩ = some (.int .u32 0) := (hT.cell 0).trans rfl; have t1 : w5.cell? ⟨w2.heap.size, 1, none⟩ = some (.slice none 0 0) := (hT.cell 1).trans rfl; have t2 : w5.cell? ⟨w2.heap.size, 2, none⟩ = some (.slice none 0 0) := (hT.cell 2).trans rfl; have f0 := hT.frozen 0; have f1 := hT.frozen 1; have f2 := hT.frozen 2)))
    all_goals
      have hrow6 : w5.ownsRow (w.heap.size + 2) 94 33 (.slice A5 t.outs.length c5) t.outs.length (t.outs.flatMap outCells) := by simpa using hrow5
      have hz := HZ.out
      go_wp2_with fail
      first
      | (go_meet
         exact ⟨_, _, rfl, by have := hbb.size; omega, Lib.hid (Bk.new _ _ _), Lib.hid ⟨own_below hrow6 (Joins.below_alloc1 _ _), HOK.out⟩, (fun e => by have := (own_lt hrow6 _ e).2; omega), Lib.hid (hbb.alloc hbb.size _)⟩)
      | (go_meet
         have hkp : Kp (fun i => i = w2.heap.size) w5 (((w5.setCell ⟨w2.heap.size, 0, none⟩ (.int .u32 (t.version : Int))).setCell ⟨w2.heap.size, 1, none⟩ (.slice none 0 0)).setCell ⟨w2.heap.size, 2, none⟩ (.slice A5 t.outs.length c5)) := ((kp_cell1 _ _ _ _).trans (kp_cell1 _ _ _ _)).trans (kp_cell1 _ _ _ _)
         have hne : (Value.slice A5 t.outs.length c5).ownBlock ≠ some w2.heap.size := fun e => by
           rcases hat5 with h | h
           · have q : (Value.slice A5 (0 + t.outs.length) c5).ownBlock = some w2.heap.size := by rw [Nat.zero_add]; exact e
             have e' := h.symm.trans q
             simp [Value.ownBlock] at e'
           · have q : (Value.slice A5 (0 + t.outs.length) c5).ownBlock = some w2.heap.size := by rw [Nat.zero_add]; exact e
             have e' := h.symm.trans q
             simp at e'
         exact ⟨_, _, rfl, by omega, Lib.hid (((hT.set 0 _).set 1 _).set 2 _), Lib.hid ⟨own_kp7 hrow6 hkp (fun i hi e => hne (e ▸ hi)), HOK.out⟩, hne, Lib.hid (((hbb.setCell (p := ⟨w2.heap.size, 0, none⟩) (Nat.le_refl _) _).setCell (p := ⟨w2.heap.size, 1, none⟩) (Nat.le_refl _) _).setCell (p := ⟨w2.heap.size, 2, none⟩) (Nat.le_refl _) _)⟩)
  case rest =>
    obtain ⟨T, vo, rfl, hT2, hT, hRO, hne, hbel⟩ := hcut
    have hz := HZ.out
    have hzc := hbel.out.size
    have hl0 : w.heap.size < w2.heap.size := by omega
    have b1 : wc.cell? ⟨w.heap.size, 1, none⟩ = some (.slice A t.ins.length c) := (hbel.out.cell (p := ⟨w.heap.size, 1, none⟩) hl0).trans ((HR.out.cell 1).trans rfl)
    have HBC := Lib.hid (HW.out.trans (hbel.out.mono (by omega)))
    have hTl := hT.out.lt
    obtain ⟨base, hbase⟩ : ∃ base, base = wc.heap.size := ⟨_, rfl⟩
    have h0 : Hid (Bk wc T 35 (txCells t.version (.slice none 0 0) vo)) := hT
    rw [← hbase] at hTl hzc
    have hzb : Hid (base = wc.heap.size) := Lib.hid hbase
    clear hbase c0 c2
    go_wp2_with fail
    go_loopw [15] (fun kv wr => ∃ (k : Nat) (vi : Value), kv = .int .i64 (k : Int) ∧ k ≤ t.ins.length ∧ Hid (Bk wr T 35 (txCells t.version vi vo)) ∧ Hid (RowI wr base vi (t.ins.take k)) ∧ Hid (Kp (fun i => i = T) wc wr)) (fun kv _ => t.ins.length - (intOf kv).toNat)
    case atStart => exact ⟨0, _, rfl, Nat.zero_le _, h0, Lib.hid (by rw [List.take_zero]; exact RowI.nil _ _), Lib.hid (Kp.refl _ _)⟩
    case round =>
      obtain ⟨k, vi, rfl, hk, hT, hRI, hkp⟩ := hrel
      have hws : base ≤ wr.heap.size := by rw [hzb.out]; exact hkp.out.size
      by_cases hlt : k < t.ins.length
      · have hbw : Hid (Below w.heap.size w wr) := Lib.hid (HBC.out.trans (Kp.low_from7o hkp.out (B := w.heap.size) (fun i hi e => by omega) HBC.out.size))
        obtain ⟨b, off, Ak, ck, rfl, hbB, hr, hxo, hkc, hkm, hkat⟩ := InsAt.range (InsAt.below HT.out.ins (hbw.out.mono hB)) hlt
        have hk64 := HF1.out _ (List.getElem_mem hlt)
        have HTK := Lib.hid (show t.ins.take (k + 1) = t.ins.take k ++ [t.ins[k]] from List.take_succ_eq_append_getElem hlt)
        have htl : (t.ins.take k).length = k := by rw [List.length_take]; omega
        have HL1 := Lib.hid htl
        generalize t.ins[k] = x at *
        obtain ⟨cs, hcs⟩ : ∃ cs, cs = inCells x (.slice Ak x.key.length ck) := ⟨_, rfl⟩
        have HCS := Lib.hid hcs
        have HL := Lib.hid (show cs.length = 34 by rw [hcs]; exact inCells_len hxo _)
        have HONE := Lib.hid (show ∀ u ∈ cs, u.oneCell' = true by rw [hcs]; exact inCells_one _ _ _ _)
        rw [← hcs] at hr
        have HR5 := Lib.hid hr
        obtain ⟨wx, hwx⟩ : ∃ wx, wx = wr.alloc (.cells cs.toArray 91) := ⟨_, rfl⟩
        have HX := Lib.hid (show Bk wx wr.heap.size 91 cs.toArray by rw [hwx]; exact Bk.new _ _ _)
        have HTX := Lib.hid (show Bk wx T 35 (txCells t.version vi vo) by rw [hwx]; exact hT.out.alloc _)
        have HKX := Lib.hid (show Kp (fun i => i = T) wc wx by rw [hwx]; exact hkp.out.alloc _)
        have HRX := Lib.hid (show RowI wx base vi (t.ins.take k) by rw [hwx]; exact hRI.out.kp (S := fun _ => False) ((Kp.refl _ _).alloc _) (fun _ _ _ h => h))
        have HKEY := Lib.hid (show BytesAt wx wx.heap.size Ak x.key by rw [hwx]; exact (At.mono (At.below hkat ((Joins.below_alloc1 wr _).mono (by have := hbw.out.size; omega))) (by have := hbw.out.size; simp; omega)))
        have HZX := Lib.hid (show wx.heap.size = wr.heap.size + 1 by rw [hwx]; simp)
        have HXO := Lib.hid hxo
        have hZI := zero_in
        have hIz := Iz.out
        have hZL := zeroIn_len
        generalize (inCells ⟨List.replicate 32 0, 0, []⟩ (.slice none 0 0)).toArray = zs at hZI hIz hZL
        have HZI := Lib.hid hZI
        have HIZ := Lib.hid hIz
        have HZL2 := Lib.hid hZL
        have i1 : (0 : Int) ≤ (k : Int) := by omega
        have i2 : (k : Int) < (t.ins.length : Int) := by omega
        have hrlw := hRI.out.lt
        clear hcs hr hkat hZI hIz hZL hxo hT hRI hkp b1
        go_upto_region 5 with (refine wpList_elem rfl rfl rfl 91 (.tmp 17) (.tmp 5) (.tmp 18) rfl rfl rfl b (off + k * 34) (by rfl) cs _ HR5.out Tryd.underlying91 rfl (by rw [HL.out]; exact size_in) zs HZI.out (by rw [HZL2.out, HL.out]) HONE.out (by rfl) (by rfl) ?_)
        rw [← hwx]
        clear hwx
        have HSK := Lib.hid (BytesAt.src HKEY.out)
        have tc1 : wx.cell? ⟨T, 1, none⟩ = some vi := (HTX.out.cell 1).trans rfl
        have tk : wx.cell? ⟨wr.heap.size, 33, none⟩ = some (.slice Ak x.key.length ck) := in_key (x := x) (by rw [← HCS.out]; exact HX.out) HXO.out
        have HPL := Lib.hid (show (ptCells x).length = 33 by unfold ptCells; rw [List.length_append, List.length_map, HXO.out.1]; rfl)
        have HXR := Lib.hid (show wx.rangeAt wr.heap.size 0 (ptCells x) from range_head (ds := [.slice Ak x.key.length ck]) (by have := bk_range HX.out; rwa [HCS.out, show inCells x (.slice Ak x.key.length ck) = ptCells x ++ [.slice Ak x.key.length ck] by simp [inCells, ptCells]] at this))
        go_wp2_with fail
        refine wp_region_L ([(1, T, 1, [vi]), (3, wr.heap.size, 0, ptCells x), (5, wr.heap.size, 33, [.slice Ak x.key.length ck])]) (by kernel_rfl) ?_
        refine wpAnyL_pure (i := 0) (v := ?_) rfl (by kernel_rfl) (by kernel_rfl) (by kernel_rfl) (fun _ _ _ h => h) (Or.inl ⟨by rfl, ?_⟩) ?_
        rotate_left
        · (intro w' _; go_simp <;> with_reducible rfl)
        simp only [Act.put, List.setIfInBounds_toArray, List.set_cons_zero, List.set_cons_succ, List.getElem_toArray, List.getElem_cons_zero, List.getElem_cons_succ]
        refine wpAnyL_read (i := 1) (v := vi) (T) (1) [vi] (.head _) (range_one (tc1)) rfl (by kernel_rfl) (by kernel_rfl) (by kernel_rfl) (fun _ _ _ h => h) (Or.inl ⟨by rfl, fun w' hSw => ?_⟩) ?_
        · (have hq := cell_one hSw; go_simp)
        simp only [Act.put, List.setIfInBounds_toArray, List.set_cons_zero, List.set_cons_succ, List.getElem_toArray, List.getElem_cons_zero, List.getElem_cons_succ]
        refine wpAnyL_pure (i := 2) (v := ?_) rfl (by kernel_rfl) (by kernel_rfl) (by kernel_rfl) (fun _ _ _ h => h) (Or.inl ⟨by rfl, ?_⟩) ?_
        rotate_left
        · (intro w' _; go_simp <;> with_reducible rfl)
        simp only [Act.put, List.setIfInBounds_toArray, List.set_cons_zero, List.set_cons_succ, List.getElem_toArray, List.getElem_cons_zero, List.getElem_cons_succ]
        refine wpAnyL_load (i := 3) (wr.heap.size) (0) (ptCells x) (.tail _ (.head _)) (HXR.out) rfl (by kernel_rfl) (by kernel_rfl) (by kernel_rfl) (fun _ _ _ h => h) (by rfl) 78 (.tmp 21) rfl (by rfl) _ Tryd.underlying78 rfl (by rw [HPL.out]; exact size_pt) ?_
        simp only [Act.put, List.setIfInBounds_toArray, List.set_cons_zero, List.set_cons_succ, List.getElem_toArray, List.getElem_cons_zero, List.getElem_cons_succ]
        refine wpAnyL_pure (i := 4) (v := ?_) rfl (by kernel_rfl) (by kernel_rfl) (by kernel_rfl) (fun _ _ _ h => h) (Or.inl ⟨by rfl, ?_⟩) ?_
        rotate_left
        · (intro w' _; go_simp <;> with_reducible rfl)
        simp only [Act.put, List.setIfInBounds_toArray, List.set_cons_zero, List.set_cons_succ, List.getElem_toArray, List.getElem_cons_zero, List.getElem_cons_succ]
        refine wpAnyL_read (i := 5) (v := (.slice Ak x.key.length ck)) (wr.heap.size) (33) [(.slice Ak x.key.length ck)] (.tail _ (.tail _ (.head _))) (range_one (tk)) rfl (by kernel_rfl) (by kernel_rfl) (by kernel_rfl) (fun _ _ _ h => h) (Or.inl ⟨by rfl, fun w' hSw => ?_⟩) ?_
        · (have hq := cell_one hSw; go_simp)
        simp only [Act.put, List.setIfInBounds_toArray, List.set_cons_zero, List.set_cons_succ, List.getElem_toArray, List.getElem_cons_zero, List.getElem_cons_succ]
        refine wpAnyL_ready (rs := [6]) (by kernel_rfl) (by simp) ?_
        refine (AllReadyL.cons rfl (fun K hK => ?_) AllReadyL.nil)
        refine step_app _ rfl (.const (.slice none 0 0)) (.tmp 24) _ rfl wx.heap.size 5 ib _ 1 1 Tryd.underlying89 Bi.out Bz.out Bz1.out Bz2.out rfl (by decide) (.slice none 0 0) 0 [] rfl (own_nil _ _) Ak x.key.length ck (x.key.map byteV) (by rfl) (by rw [List.length_map, Nat.mul_one]) HSK.out (oneCell_bytes _) (by unfold maxLen; omega) (by omega) (Nat.le_refl _) ?_
        intro v5 w5 hrow5 hg5 hat5
        have hn5 : OwnB w5 wx.heap.size v5 x.key := by
          have := own_app (bs := []) hrow5 rfl rfl
          simpa using this
        have hb50 : Below wx.drew.heap.size wx.drew w5 := (Grw.of_app hg5 hat5).kp.below_of (by intro i hi e; simp [Value.ownBlock] at e)
        refine hK.out _ _ (Keeps.below hb50) ?_
        clear hK K
        try simp only [Act.put, List.setIfInBounds_toArray, List.set_cons_zero, List.set_cons_succ, List.getElem_toArray, List.getElem_cons_zero, List.getElem_cons_succ]
        have hb5 : Below wx.heap.size wx w5 := ((Below.refl _ wx).drew).trans hb50
        obtain ⟨A5, c5, rfl, h51, h52, _⟩ := own_form hn5
        have HN5 := Lib.hid hn5
        have HB5 := Lib.hid hb5
        have hz5 := hb5.size
        have hrl := HRX.out.lt
        have HKN := Lib.hid (KeyN.of_own (v := none) (vi := vi) HN5.out (fun i hi => (hrl i hi).2))
        clear hrow5 hg5 hat5 hn5 hb5 hb50
        refine wpAnyL_pure (i := 7) (v := .agg (inCells x (.slice A5 x.key.length c5)).toArray) rfl (by kernel_rfl) (by kernel_rfl) (by kernel_rfl) (fun _ _ _ h => h) (yieldsIf_build (by rfl) 91 _ rfl _ (by simpa [Act.eval] using built_in7 x A5 x.key.length c5 HXO.out.1)) ?_
        simp only [Act.put, List.setIfInBounds_toArray, List.set_cons_zero, List.set_cons_succ, List.getElem_toArray, List.getElem_cons_zero, List.getElem_cons_succ]
        obtain ⟨cx, hcx⟩ : ∃ cx, cx = inCells x (.slice A5 x.key.length c5) := ⟨_, rfl⟩
        rw [← hcx]
        have HCX := Lib.hid hcx
        have HCL := Lib.hid (show cx.length = 34 by rw [hcx]; exact inCells_len HXO.out _)
        have HC1 := Lib.hid (show ∀ u ∈ cx, u.oneCell' = true by rw [hcx]; exact inCells_one _ _ _ _)
        clear hcx
        refine wpAnyL_ready (rs := [8]) (by kernel_rfl) (by simp) ?_
        refine (AllReadyL.cons rfl (fun K hK => ?_) AllReadyL.nil)
        refine step_buildOne (by rfl) 32 91 (.tmp 26) rfl cx.toArray (by rfl) Tryd.underlying32 (by simp only [List.size_toArray, HCL.out]; exact size_in) zs HZI.out (by simp only [List.size_toArray, HCL.out]; omega) (by simp only [List.size_toArray, HCL.out]; omega) ?_
        refine hK.out _ _ (Keeps.below (Joins.below_alloc1 _ _)) ?_
        clear hK K
        try simp only [Act.put, List.setIfInBounds_toArray, List.set_cons_zero, List.set_cons_succ, List.getElem_toArray, List.getElem_cons_zero, List.getElem_cons_succ]
        obtain ⟨us, hus1, hus2, hus3⟩ := HRX.out.kp (Kp.of_below (S := fun _ => False) HB5.out) (fun _ _ _ h => h)
        obtain ⟨Ai, ci, hvi, _⟩ := own_form hus2
        have hvi2 : vi = .slice Ai k ci := by rw [hvi, HL1.out]
        rw [HL1.out] at hus2
        subst hvi2
        have HU1 := Lib.hid hus1
        have HU2 := Lib.hid hus2
        have HU3 := Lib.hid hus3
        clear hus1 hus2 hus3 hvi
        refine wpAnyL_ready (rs := [9]) (by kernel_rfl) (by simp) ?_
        refine (AllReadyL.cons rfl (fun K hK => ?_) AllReadyL.nil)
        refine step_app _ rfl (.tmp 20) (.tmp 27) _ rfl base 91 ii _ 34 64 Tryd.underlying32 Ii.out HIZ.out Iz1.out Iz2.out HZL2.out (by decide) (.slice Ai k ci) k _ rfl (own_below HU2.out (Joins.below_alloc1 _ _)) (some ⟨w5.heap.size, 0, none⟩) 1 1 cx rfl (by rw [HCL.out]) (Src.new _ _ _) HC1.out (by unfold maxLen; omega) (by omega) (by have := HZX.out; simp; omega) ?_
        intro v7 w7 hrow7 hg7 hat7
        have HG7 := Lib.hid ((Grw.of_below (Joins.below_alloc1 _ _) _).trans (Grw.of_app hg7 hat7))
        have HNT := Lib.hid (show (Value.slice Ai k ci).ownBlock ≠ some T from fun e => by have := (own_lt HU2.out _ e).1; omega)
        have HNX := Lib.hid (show (Value.slice Ai k ci).ownBlock ≠ some wr.heap.size from fun e => by have := (hrlw _ e).2; omega)
        refine hK.out _ _ (Keeps.kp (Kp.mono (T := fun i => (Value.slice Ai k ci).ownBlock = some i) (Kp.refl _ _ |>.grown hg7 (fun k hk _ => hk)) (fun _ _ h => h)) (by
          intro p hp _
          simp only [List.mem_cons, List.not_mem_nil, or_false] at hp
          rcases hp with rfl | rfl | rfl
          · exact HNT.out
          · exact HNX.out
          · exact HNX.out)) ?_
        clear hK K
        try simp only [Act.put, List.setIfInBounds_toArray, List.set_cons_zero, List.set_cons_succ, List.getElem_toArray, List.getElem_cons_zero, List.getElem_cons_succ]
        have HTX5 : Bk w5 T 35 (txCells t.version (.slice Ai k ci) vo) := HTX.out.below (w := wx) (w' := w5) HB5.out (HTX.out.lt)
        have HT7 := Lib.hid ((HG7.out.bk HTX5 HNT.out).1)
        have t7 : w7.cell? ⟨T, 1, none⟩ = some (.slice Ai k ci) := (HT7.out.cell 1).trans rfl
        have f7 := HT7.out.frozen 1
        have hrow7' := hrow7
        obtain ⟨A7, c7, rfl, _⟩ := own_form hrow7'
        refine wpAnyL_pure (i := 10) (v := ?_) rfl (by kernel_rfl) (by kernel_rfl) (by kernel_rfl) (fun _ _ _ h => h) (Or.inl ⟨by rfl, ?_⟩) ?_
        rotate_left
        · (intro w' _; go_simp <;> with_reducible rfl)
        simp only [Act.put, List.setIfInBounds_toArray, List.set_cons_zero, List.set_cons_succ, List.getElem_toArray, List.getElem_cons_zero, List.getElem_cons_succ]
        refine wpAnyL_ready (rs := [11]) (by kernel_rfl) (by simp) ?_
        refine (AllReadyL.cons rfl (fun K hK => ?_) AllReadyL.nil)
        go_simp
        refine hK.out _ _ (Keeps.last (by kernel_rfl) _ _) ?_
        clear hK K
        try simp only [Act.put, List.setIfInBounds_toArray, List.set_cons_zero, List.set_cons_succ, List.getElem_toArray, List.getElem_cons_zero, List.getElem_cons_succ]
        refine wpAnyL_done (by kernel_rfl) ?_ _
        go_wp2_with fail
        go_roundw
        case rel =>
          have hkp7 : Kp (fun i => i = T) w7 (w7.setCell ⟨T, 1, none⟩ (.slice A7 (k + 1) c7)) := kp_cell1 _ _ _ _
          have hrow := RowI.push HU1.out (fun i hi => ⟨(HU3.out i hi).1, by obtain ⟨u, hu, hp⟩ := (HU3.out i hi).2; exact ⟨u, hu, hp.kp ((Kp.refl (fun _ => False) w5).alloc (.cells cx.toArray 91)) (fun _ _ _ h => h)⟩⟩)
            HXO.out ((HKN.out.mono (show base ≤ wx.heap.size by have := HZX.out; omega)).kp ((Kp.refl (fun _ => False) w5).alloc (.cells cx.toArray 91)) (fun _ _ _ h => h)) (by rw [← HCX.out, HL1.out]; exact hrow7) hg7 hat7
          refine ⟨k + 1, .slice A7 (k + 1) c7, by go_num, by omega, Lib.hid (HT7.out.set 1 _), Lib.hid ?_, Lib.hid ?_⟩
          · rw [HTK.out]
            exact hrow.kp hkp7 (by intro i hi; omega)
          · exact ((HKX.out.trans (Kp.of_below (S := fun i => i = T) HB5.out)).trans_of HG7.out.kp (fun i hi e => by have := (own_lt HU2.out _ e).1; have := hzb.out; omega)).trans hkp7
        case measure => simp [intOf]; omega
      · obtain rfl : k = t.ins.length := by omega
        obtain ⟨Ai, ci, rfl, hi1, hi2, _⟩ := hRI.out.at_
        have hek : (t.ins.take t.ins.length) = t.ins := List.take_of_length_le (Nat.le_refl _)
        rw [hek] at hRI hi1
        rw [hek] at hT
        have hRO2 := hRO.out.1
        obtain ⟨Ao, co, rfl, ho1, ho2, _⟩ := own_form hRO2
        have t0 : wr.cell? ⟨T, 0, none⟩ = some (.int .u32 (t.version : Int)) := (hT.out.cell 0).trans rfl
        have t1 : wr.cell? ⟨T, 1, none⟩ = some (.slice Ai t.ins.length ci) := (hT.out.cell 1).trans rfl
        have t2 : wr.cell? ⟨T, 2, none⟩ = some (.slice Ao t.outs.length co) := (hT.out.cell 2).trans rfl
        have HRR := Lib.hid ((HRES.out.below hbel.out (by have := HZ.out; omega)).kp hkp.out (by omega))
        have r0 : wr.cell? ⟨w.heap.size + 1, 0, none⟩ = some (.int .u32 0) := (HRR.out.cell 0).trans rfl
        have r1 : wr.cell? ⟨w.heap.size + 1, 1, none⟩ = some (.slice none 0 0) := (HRR.out.cell 1).trans rfl
        have r2 : wr.cell? ⟨w.heap.size + 1, 2, none⟩ = some (.slice none 0 0) := (HRR.out.cell 2).trans rfl
        have f0 := HRR.out.frozen 0
        have f1 := HRR.out.frozen 1
        have f2 := HRR.out.frozen 2
        have HRO2 := Lib.hid hRO.out
        have HRI := Lib.hid hRI.out
        have HBE := Lib.hid (HBC.out.trans (Kp.low_from7o hkp.out (B := w.heap.size) (fun i hi e => by omega) HBC.out.size))
        clear b1 hRO2
        go_wp2_with fail
        obtain ⟨wz, hwz⟩ : ∃ wz, wz = (((wr.setCell ⟨w.heap.size + 1, 0, none⟩ (.int .u32 (t.version : Int))).setCell ⟨w.heap.size + 1, 1, none⟩ (.slice Ai t.ins.length ci)).setCell ⟨w.heap.size + 1, 2, none⟩ (.slice Ao t.outs.length co)) := ⟨_, rfl⟩
        have hz : Bk wz (w.heap.size + 1) 35 (txCells t.version (.slice Ai t.ins.length ci) (.slice Ao t.outs.length co)) := by rw [hwz]; exact ((HRR.out.set 0 _).set 1 _).set 2 _
        have hkz : Kp (fun i => i = w.heap.size + 1) wr wz := by rw [hwz]; exact ((kp_cell1 _ _ _ _).trans (kp_cell1 _ _ _ _)).trans (kp_cell1 _ _ _ _)
        rw [← hwz]
        refine bodyPost_ret (results_cell_row rfl _ _ (w.heap.size + 1) 35 (txCells t.version (.slice Ai t.ins.length ci) (.slice Ao t.outs.length co)) (0, 0) _ rfl hz Tryd.underlying35 rfl size_tx) rfl ?_
        have hkT : ∀ i, (Value.slice Ao t.outs.length co).ownBlock = some i → ¬ (i = T) := fun i hi e => hne (by rw [hi, e])
        have hRI2 := HRI.out
        have hROr := own_kp7 HRO2.out.1 hkp.out hkT
        refine ⟨Ai, ci, Ao, co, rfl, ?_, Kp.from_elder HBE.out hkz (fun i hi => by omega)⟩
        intro wy hy
        have hI := ((HRI.out.kp hkz (by intro i hi; omega)).kp hy (by intro i hi; omega)).at_
        have hO := (RowO.at_ (⟨own_kp (own_kp hROr hkz (by intro i hi; omega)) hy (by intro i hi; omega), HRO2.out.2⟩ : RowO wy (w.heap.size + 2) _ t.outs))
        obtain ⟨A1, c1', e1, i1, i2, i3⟩ := hI
        obtain ⟨A2, c2', e2, o1, o2, o3⟩ := hO
        injection e1 with e1 _ e1'
        injection e2 with e2 _ e2'
        subst e1 e1' e2 e2'
        exact ⟨hv, i1, i2, o1, o2, i3, o3⟩
end Go.Proofs.YtacbibflhdmcoaaDoor.T7
