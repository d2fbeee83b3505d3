/- OrphB, merged: OrphOwn, OrphB. -/
import Derived.Test.YtacbibflhdmcoaaDoorTxBuilt
import Derived.Test.YtacbibflhdmcoaaDoorOrphA
import Derived.Lib.SliceRun
import Derived.Test.YtacbibflhdmcoaaDoorTxCheck
import Derived.Test.YtacbibflhdmcoaaDoorTxId
import Derived.Shelf.Abstract
/- Package orphan: a copy of a transaction of the pool's own. -/
namespace Go.Proofs.YtacbibflhdmcoaaDoor.T7
open Go.RowKit Go.Deep
set_option linter.unusedVariables false
set_option linter.unusedSimpArgs false
set_option maxRecDepth 100000
attribute [local go_sem ↓] Go.wp_at_zero Go.wp_at_succ

theorem flatMap_len {α β : Type} {f : α → List β} {k : Nat} : ∀ (l : List α), (∀ x ∈ l, (f x).length = k) → (l.flatMap f).length = l.length * k
  | [], _ => by simp
  | x :: l, h => by
    rw [List.flatMap_cons, List.length_append, h x (by simp), flatMap_len l (fun y hy => h y (by simp [hy])), List.length_cons, Nat.add_mul, Nat.one_mul, Nat.add_comm]
theorem own_kp7 {w w' : World} {base : Nat} {e : TypeId} {size : Nat} {v : Value} {n : Nat} {xs : List Value} {S : Nat → Prop} (h : w.ownsRow base e size v n xs) (hk : Kp S w w') (hS : ∀ i, v.ownBlock = some i → ¬ S i) : w'.ownsRow base e size v n xs := by
  refine ⟨h.1, ?_⟩
  rcases h.2 with h | ⟨g, cap, cur, hv, hb, hg, r⟩
  · exact .inl h
  · have hlt : g < w.heap.size := (Array.getElem?_eq_some_iff.1 hg).1
    exact .inr ⟨g, cap, cur, hv, hb, (hk.block g hlt (hS g (by rw [hv]; rfl))).trans hg, r⟩
theorem Kp.low_from7o {S : Nat → Prop} {B : Nat} {w w' : World} (h : Kp S w w') (hS : ∀ i, i < B → ¬ S i) (hs : B ≤ w.heap.size) : Below B w w' := ⟨h.os, h.tape, h.output, h.size, fun i hi => h.block i (by omega) (hS i hi)⟩
theorem OutsAt.src {w : World} {B : Nat} {A : Option Addr} {l : List Txs.Out} (h : OutsAt w B A l) : Src w A (l.flatMap outCells) := by
  intro j u hu
  have hk : ∀ x ∈ l, (outCells x).length = 33 := all_of_at h fun _ x hx => outCells_len hx.1
  have hj : j < (l.flatMap outCells).length := (List.getElem?_eq_some_iff.1 hu).1
  have hlen : (l.flatMap outCells).length = l.length * 33 := flatMap_len l hk
  have hd : j / 33 < l.length := by omega
  obtain ⟨b, off, hA, hb, hr, hok⟩ := OutsAt.range h hd
  have e := flatMap_index l hk (j / 33) hd (j % 33) (by omega)
  rw [show j / 33 * 33 + j % 33 = j by omega, hu] at e
  refine ⟨_, hA, ?_⟩
  have := hr (j % 33) u e.symm
  rw [show off + j / 33 * 33 + j % 33 = off + j by omega] at this
  have e : (⟨b, off, none⟩ : Addr).add j = ⟨b, off + j, none⟩ := by unfold Addr.add; split <;> simp_all
  rw [e]
  exact this
set_option maxHeartbeats 4000000 in
theorem own_any (t : Txs.Tx) (A A' : Option Addr) (c c' B : Nat) (w : World) (h : TxAt w B t A c A' c') (hB : B ≤ w.heap.size) (hf : Txs.form t = true) :
    Calls Tryd.prog 43 #[txV t A c A' c'] w fun e w' => ∃ A1 c1 A2 c2, e = .returned (txV t A1 c1 A2 c2) ∧ TxNew w.heap.size w' t A1 c1 A2 c2 ∧ Below w.heap.size w w' := by
  obtain ⟨ii, hi, hz0, hz1, hz2⟩ := info_parts in_info
  have Ii := Lib.hid hi
  have Iz := Lib.hid hz0
  have Iz1 := Lib.hid hz1
  have Iz2 := Lib.hid hz2
  clear hi hz0 hz1 hz2
  obtain ⟨io, hi, hz0, hz1, hz2⟩ := info_parts out_info
  have Oi := Lib.hid hi
  have Oz := Lib.hid hz0
  have Oz1 := Lib.hid hz1
  have Oz2 := Lib.hid hz2
  clear hi hz0 hz1 hz2
  obtain ⟨ib, hi, hz0, hz1, hz2⟩ := info_parts byte_info
  have Bi := Lib.hid hi
  have Bz := Lib.hid hz0
  have Bz1 := Lib.hid hz1
  have Bz2 := Lib.hid hz2
  clear hi hz0 hz1 hz2
  obtain ⟨w2, hw2⟩ : ∃ w2, w2 = (w.alloc (.cells (txCells t.version (.slice A t.ins.length c) (.slice A' t.outs.length c')) 35)).alloc (.cells (txCells 0 (.slice none 0 0) (.slice none 0 0)) 35) := ⟨_, rfl⟩
  have hw2' : w2 = (w.alloc (.cells #[.int .u32 (t.version : Int), .slice A t.ins.length c, .slice A' t.outs.length c'] 35)).alloc (.cells #[.int .u32 0, .slice none 0 0, .slice none 0 0] 35) := hw2
  have HW := Lib.hid (show Below w.heap.size w w2 by rw [hw2]; exact Joins.below_alloc2 _ _ _)
  have HZ := Lib.hid (show w2.heap.size = w.heap.size + 2 by rw [hw2]; simp)
  have HR := Lib.hid (show Bk w2 w.heap.size 35 (txCells t.version (.slice A t.ins.length c) (.slice A' t.outs.length c')) by rw [hw2]; exact (Bk.new _ _ _).alloc _)
  have HRES := Lib.hid (show Bk w2 (w.heap.size + 1) 35 (txCells 0 (.slice none 0 0) (.slice none 0 0)) by
    rw [hw2]
    have := Bk.new (w.alloc (.cells (txCells t.version (.slice A t.ins.length c) (.slice A' t.outs.length c')) 35)) 35 (txCells 0 (.slice none 0 0) (.slice none 0 0))
    simpa using this)
  have HT := Lib.hid h
  obtain ⟨hf1, hf2, hf3⟩ := Txs.form_iff.1 hf
  have HF1 := Lib.hid hf1
  have hv := h.v
  have hic := h.ic
  have him := h.im
  have hoc := h.oc
  have hom := h.om
  have HO2 := Lib.hid (show ∀ W, Below w2.heap.size w2 W → Src W A' (t.outs.flatMap outCells) from fun W hW => OutsAt.src (At.below h.outs ((HW.out.trans (hW.mono (by rw [HZ.out]; omega))).mono hB)))
  have c0 : w2.cell? ⟨w.heap.size, 0, none⟩ = some (.int .u32 (t.version : Int)) := (HR.out.cell 0).trans rfl
  have c2 : w2.cell? ⟨w.heap.size, 2, none⟩ = some (.slice A' t.outs.length c') := (HR.out.cell 2).trans rfl
  have HOK := Lib.hid (show ∀ x ∈ t.outs, x.Ok from all_of_at h.outs fun _ x hx => hx.1)
  have HOO := Lib.hid (show (t.outs.flatMap outCells).length = t.outs.length * 33 from flatMap_len _ (all_of_at h.outs fun _ x hx => outCells_len hx.1))
  have HO1 := Lib.hid (show ∀ u ∈ t.outs.flatMap outCells, u.oneCell' = true by
    intro u hu
    obtain ⟨x, _, hx⟩ := List.mem_flatMap.1 hu
    exact outCells_one x u hx)
  clear hw2 h hf hf1
  have hZO := zero_out
  have hOz := Oz.out
  have hZL := zeroOut_len
  generalize (outCells ⟨0, List.replicate 32 0⟩).toArray = zo at hOz hZO hZL
  have HOz := Lib.hid hOz
  have HZL := Lib.hid hZL
  clear hOz hZO hZL Oz
  unfold txV
  go_enter Tryd.func43, Tryd.ntmps43
  go_wp2_with fail
  rw [← hw2']
  clear hw2'
  go_upto_region 1 with (fail)
  go_cut [3] (fun u3 wx => ∃ (T : Nat) (vo : Value), u3 = .pointer (some ⟨T, 0, none⟩) ∧ w.heap.size + 2 ≤ T ∧ Hid (Bk wx T 35 (txCells t.version (.slice none 0 0) vo)) ∧ Hid (RowO wx (w.heap.size + 2) vo t.outs) ∧ vo.ownBlock ≠ some T ∧ Hid (Below w2.heap.size w2 wx))
  case first =>
    have hl0 : w.heap.size < w2.heap.size := by have := HZ.out; omega
    go_region_held3 (fun w' => w'.cell? ⟨w.heap.size, 0, none⟩ = some (.int .u32 (t.version : Int)) ∧ w'.cell? ⟨w.heap.size, 2, none⟩ = some (.slice A' t.outs.length c'))
      (first | go_keep | exact ⟨(hbb.cell (p := ⟨w.heap.size, 0, none⟩) hl0).trans c0, (hbb.cell (p := ⟨w.heap.size, 2, none⟩) hl0).trans c2⟩ | exact ⟨((hbb.alloc hbb.size _).cell (p := ⟨w.heap.size, 0, none⟩) hl0).trans c0, ((hbb.alloc hbb.size _).cell (p := ⟨w.heap.size, 2, none⟩) hl0).trans c2⟩ | exact (fun hs => ⟨(hs.cell (p := ⟨w.heap.size, 0, none⟩) hl0).trans c0, (hs.cell (p := ⟨w.heap.size, 2, none⟩) hl0).trans c2⟩) (((hbb.setCell (p := ⟨w2.heap.size, 0, none⟩) (Nat.le_refl _) _).setCell (p := ⟨w2.heap.size, 1, none⟩) (Nat.le_refl _) _).setCell (p := ⟨w2.heap.size, 2, none⟩) (Nat.le_refl _) _))
      ((refine step_app _ (by rfl) (.const (.slice none 0 0)) (.tmp 9) 33 (by rfl) (w.heap.size + 2) 94 io _ 33 40 Tryd.underlying33 Oi.out HOz.out Oz1.out Oz2.out HZL.out (by decide) (.slice none 0 0) 0 [] (by rfl) (World.ownsRow_nil _ _ _ _) A' t.outs.length c' (t.outs.flatMap outCells) (by rfl) HOO.out (HO2.out _ (by first | exact (Below.refl _ _).drew | exact ((Below.refl _ _).drew).alloc (by simp) _ | exact (Below.refl _ _).alloc (by simp) _ | exact (Below.refl _ _))) HO1.out (by unfold maxLen; omega) (by omega) (by have := HZ.out; simp; omega) ?_; intro v5 w5 hrow5 hg5 hat5; obtain ⟨A5, c5, rfl, _⟩ := own_form hrow5; have hbb : Below w2.heap.size w2 w5 := ((by first | exact (Below.refl _ _).drew | exact ((Below.refl _ _).drew).alloc (by simp) _ | exact (Below.refl _ _).alloc (by simp) _ | exact (Below.refl _ _)) : Below w2.heap.size w2 _).trans (((Grw.of_app hg5 hat5).kp.below_of (by intro i hi e; simp [Value.ownBlock] at e)).mono (by simp)); try (have hT : Bk w5 w2.heap.size 35 (txCells 0 (.slice none 0 0) (.slice none 0 0)) := ((Grw.of_app hg5 hat5).bk (Bk.new _ _ _) (by simp [Value.ownBlock])).1; have t0 : w5.cell? ⟨w2.heap.size, 0, none⟩ = some (.int .u32 0) := (hT.cell 0).trans rfl; have t1 : w5.cell? ⟨w2.heap.size, 1, none⟩ = some (.slice none 0 0) := (hT.cell 1).trans rfl; have t2 : w5.cell? ⟨w2.heap.size, 2, none⟩ = some (.slice none 0 0) := (hT.cell 2).trans rfl; have f0 := hT.frozen 0; have f1 := hT.frozen 1; have f2 := hT.frozen 2)))
    all_goals
      have hrow6 : w5.ownsRow (w.heap.size + 2) 94 33 (.slice A5 t.outs.length c5) t.outs.length (t.outs.flatMap outCells) := by simpa using hrow5
      have hz := HZ.out
      go_wp2_with fail
      first
      | (go_meet
         exact ⟨_, _, rfl, by have := hbb.size; omega, Lib.hid (Bk.new _ _ _), Lib.hid ⟨own_below hrow6 (Joins.below_alloc1 _ _), HOK.out⟩, (fun e => by have := (own_lt hrow6 _ e).2; omega), Lib.hid (hbb.alloc hbb.size _)⟩)
      | (go_meet
         have hkp : Kp (fun i => i = w2.heap.size) w5 (((w5.setCell ⟨w2.heap.size, 0, none⟩ (.int .u32 (t.version : Int))).setCell ⟨w2.heap.size, 1, none⟩ (.slice none 0 0)).setCell ⟨w2.heap.size, 2, none⟩ (.slice A5 t.outs.length c5)) := ((kp_cell1 _ _ _ _).trans (kp_cell1 _ _ _ _)).trans (kp_cell1 _ _ _ _)
         have hne : (Value.slice A5 t.outs.length c5).ownBlock ≠ some w2.heap.size := fun e => by
           rcases hat5 with h | h
           · have q : (Value.slice A5 (0 + t.outs.length) c5).ownBlock = some w2.heap.size := by rw [Nat.zero_add]; exact e
             have e' := h.symm.trans q
             simp [Value.ownBlock] at e'
           · have q : (Value.slice A5 (0 + t.outs.length) c5).ownBlock = some w2.heap.size := by rw [Nat.zero_add]; exact e
             have e' := h.symm.trans q
             simp at e'
         exact ⟨_, _, rfl, by omega, Lib.hid (((hT.set 0 _).set 1 _).set 2 _), Lib.hid ⟨own_kp7 hrow6 hkp (fun i hi e => hne (e ▸ hi)), HOK.out⟩, hne, Lib.hid (((hbb.setCell (p := ⟨w2.heap.size, 0, none⟩) (Nat.le_refl _) _).setCell (p := ⟨w2.heap.size, 1, none⟩) (Nat.le_refl _) _).setCell (p := ⟨w2.heap.size, 2, none⟩) (Nat.le_refl _) _)⟩)
  case rest =>
    obtain ⟨T, vo, rfl, hT2, hT, hRO, hne, hbel⟩ := hcut
    have hz := HZ.out
    have hzc := hbel.out.size
    have hl0 : w.heap.size < w2.heap.size := by omega
    have b1 : wc.cell? ⟨w.heap.size, 1, none⟩ = some (.slice A t.ins.length c) := (hbel.out.cell (p := ⟨w.heap.size, 1, none⟩) hl0).trans ((HR.out.cell 1).trans rfl)
    have HBC := Lib.hid (HW.out.trans (hbel.out.mono (by omega)))
    have hTl := hT.out.lt
    obtain ⟨base, hbase⟩ : ∃ base, base = wc.heap.size := ⟨_, rfl⟩
    have h0 : Hid (Bk wc T 35 (txCells t.version (.slice none 0 0) vo)) := hT
    rw [← hbase] at hTl hzc
    have hzb : Hid (base = wc.heap.size) := Lib.hid hbase
    clear hbase c0 c2
    go_wp2_with fail
    go_loopw [15] (fun kv wr => ∃ (k : Nat) (vi : Value), kv = .int .i64 (k : Int) ∧ k ≤ t.ins.length ∧ Hid (Bk wr T 35 (txCells t.version vi vo)) ∧ Hid (RowI wr base vi (t.ins.take k)) ∧ Hid (Kp (fun i => i = T) wc wr)) (fun kv _ => t.ins.length - (intOf kv).toNat)
    case atStart => exact ⟨0, _, rfl, Nat.zero_le _, h0, Lib.hid (by rw [List.take_zero]; exact RowI.nil _ _), Lib.hid (Kp.refl _ _)⟩
    case round =>
      obtain ⟨k, vi, rfl, hk, hT, hRI, hkp⟩ := hrel
      have hws : base ≤ wr.heap.size := by rw [hzb.out]; exact hkp.out.size
      by_cases hlt : k < t.ins.length
      · have hbw : Hid (Below w.heap.size w wr) := Lib.hid (HBC.out.trans (Kp.low_from7o hkp.out (B := w.heap.size) (fun i hi e => by omega) HBC.out.size))
        obtain ⟨b, off, Ak, ck, rfl, hbB, hr, hxo, hkc, hkm, hkat⟩ := InsAt.range (InsAt.below HT.out.ins (hbw.out.mono hB)) hlt
        have hk64 := HF1.out _ (List.getElem_mem hlt)
        have HTK := Lib.hid (show t.ins.take (k + 1) = t.ins.take k ++ [t.ins[k]] from List.take_succ_eq_append_getElem hlt)
        have htl : (t.ins.take k).length = k := by rw [List.length_take]; omega
        have HL1 := Lib.hid htl
        generalize t.ins[k] = x at *
        obtain ⟨cs, hcs⟩ : ∃ cs, cs = inCells x (.slice Ak x.key.length ck) := ⟨_, rfl⟩
        have HCS := Lib.hid hcs
        have HL := Lib.hid (show cs.length = 34 by rw [hcs]; exact inCells_len hxo _)
        have HONE := Lib.hid (show ∀ u ∈ cs, u.oneCell' = true by rw [hcs]; exact inCells_one _ _ _ _)
        rw [← hcs] at hr
        have HR5 := Lib.hid hr
        obtain ⟨wx, hwx⟩ : ∃ wx, wx = wr.alloc (.cells cs.toArray 91) := ⟨_, rfl⟩
        have HX := Lib.hid (show Bk wx wr.heap.size 91 cs.toArray by rw [hwx]; exact Bk.new _ _ _)
        have HTX := Lib.hid (show Bk wx T 35 (txCells t.version vi vo) by rw [hwx]; exact hT.out.alloc _)
        have HKX := Lib.hid (show Kp (fun i => i = T) wc wx by rw [hwx]; exact hkp.out.alloc _)
        have HRX := Lib.hid (show RowI wx base vi (t.ins.take k) by rw [hwx]; exact hRI.out.kp (S := fun _ => False) ((Kp.refl _ _).alloc _) (fun _ _ _ h => h))
        have HKEY := Lib.hid (show BytesAt wx wx.heap.size Ak x.key by rw [hwx]; exact (At.mono (At.below hkat ((Joins.below_alloc1 wr _).mono (by have := hbw.out.size; omega))) (by have := hbw.out.size; simp; omega)))
        have HZX := Lib.hid (show wx.heap.size = wr.heap.size + 1 by rw [hwx]; simp)
        have HXO := Lib.hid hxo
        have hZI := zero_in
        have hIz := Iz.out
        have hZL := zeroIn_len
        generalize (inCells ⟨List.replicate 32 0, 0, []⟩ (.slice none 0 0)).toArray = zs at hZI hIz hZL
        have HZI := Lib.hid hZI
        have HIZ := Lib.hid hIz
        have HZL2 := Lib.hid hZL
        have i1 : (0 : Int) ≤ (k : Int) := by omega
        have i2 : (k : Int) < (t.ins.length : Int) := by omega
        have hrlw := hRI.out.lt
        clear hcs hr hkat hZI hIz hZL hxo hT hRI hkp b1
        go_upto_region 5 with (refine wpList_elem rfl rfl rfl 91 (.tmp 17) (.tmp 5) (.tmp 18) rfl rfl rfl b (off + k * 34) (by rfl) cs _ HR5.out Tryd.underlying91 rfl (by rw [HL.out]; exact size_in) zs HZI.out (by rw [HZL2.out, HL.out]) HONE.out (by rfl) (by rfl) ?_)
        rw [← hwx]
        clear hwx
        have HSK := Lib.hid (BytesAt.src HKEY.out)
        have tc1 : wx.cell? ⟨T, 1, none⟩ = some vi := (HTX.out.cell 1).trans rfl
        have tk : wx.cell? ⟨wr.heap.size, 33, none⟩ = some (.slice Ak x.key.length ck) := in_key (x := x) (by rw [← HCS.out]; exact HX.out) HXO.out
        have HPL := Lib.hid (show (ptCells x).length = 33 by unfold ptCells; rw [List.length_append, List.length_map, HXO.out.1]; rfl)
        have HXR := Lib.hid (show wx.rangeAt wr.heap.size 0 (ptCells x) from range_head (ds := [.slice Ak x.key.length ck]) (by have := bk_range HX.out; rwa [HCS.out, show inCells x (.slice Ak x.key.length ck) = ptCells x ++ [.slice Ak x.key.length ck] by simp [inCells, ptCells]] at this))
        go_wp2_with fail
        refine wp_region_L ([(1, T, 1, [vi]), (3, wr.heap.size, 0, ptCells x), (5, wr.heap.size, 33, [.slice Ak x.key.length ck])]) (by kernel_rfl) ?_
        refine wpAnyL_pure (i := 0) (v := ?_) rfl (by kernel_rfl) (by kernel_rfl) (by kernel_rfl) (fun _ _ _ h => h) (Or.inl ⟨by rfl, ?_⟩) ?_
        rotate_left
        · (intro w' _; go_simp <;> with_reducible rfl)
        simp only [Act.put, List.setIfInBounds_toArray, List.set_cons_zero, List.set_cons_succ, List.getElem_toArray, List.getElem_cons_zero, List.getElem_cons_succ]
        refine wpAnyL_read (i := 1) (v := vi) (T) (1) [vi] (.head _) (range_one (tc1)) rfl (by kernel_rfl) (by kernel_rfl) (by kernel_rfl) (fun _ _ _ h => h) (Or.inl ⟨by rfl, fun w' hSw => ?_⟩) ?_
        · (have hq := cell_one hSw; go_simp)
        simp only [Act.put, List.setIfInBounds_toArray, List.set_cons_zero, List.set_cons_succ, List.getElem_toArray, List.getElem_cons_zero, List.getElem_cons_succ]
        refine wpAnyL_pure (i := 2) (v := ?_) rfl (by kernel_rfl) (by kernel_rfl) (by kernel_rfl) (fun _ _ _ h => h) (Or.inl ⟨by rfl, ?_⟩) ?_
        rotate_left
        · (intro w' _; go_simp <;> with_reducible rfl)
        simp only [Act.put, List.setIfInBounds_toArray, List.set_cons_zero, List.set_cons_succ, List.getElem_toArray, List.getElem_cons_zero, List.getElem_cons_succ]
        refine wpAnyL_load (i := 3) (wr.heap.size) (0) (ptCells x) (.tail _ (.head _)) (HXR.out) rfl (by kernel_rfl) (by kernel_rfl) (by kernel_rfl) (fun _ _ _ h => h) (by rfl) 78 (.tmp 21) rfl (by rfl) _ Tryd.underlying78 rfl (by rw [HPL.out]; exact size_pt) ?_
        simp only [Act.put, List.setIfInBounds_toArray, List.set_cons_zero, List.set_cons_succ, List.getElem_toArray, List.getElem_cons_zero, List.getElem_cons_succ]
        refine wpAnyL_pure (i := 4) (v := ?_) rfl (by kernel_rfl) (by kernel_rfl) (by kernel_rfl) (fun _ _ _ h => h) (Or.inl ⟨by rfl, ?_⟩) ?_
        rotate_left
        · (intro w' _; go_simp <;> with_reducible rfl)
        simp only [Act.put, List.setIfInBounds_toArray, List.set_cons_zero, List.set_cons_succ, List.getElem_toArray, List.getElem_cons_zero, List.getElem_cons_succ]
        refine wpAnyL_read (i := 5) (v := (.slice Ak x.key.length ck)) (wr.heap.size) (33) [(.slice Ak x.key.length ck)] (.tail _ (.tail _ (.head _))) (range_one (tk)) rfl (by kernel_rfl) (by kernel_rfl) (by kernel_rfl) (fun _ _ _ h => h) (Or.inl ⟨by rfl, fun w' hSw => ?_⟩) ?_
        · (have hq := cell_one hSw; go_simp)
        simp only [Act.put, List.setIfInBounds_toArray, List.set_cons_zero, List.set_cons_succ, List.getElem_toArray, List.getElem_cons_zero, List.getElem_cons_succ]
        refine wpAnyL_ready (rs := [6]) (by kernel_rfl) (by simp) ?_
        refine (AllReadyL.cons rfl (fun K hK => ?_) AllReadyL.nil)
        refine step_app _ rfl (.const (.slice none 0 0)) (.tmp 24) _ rfl wx.heap.size 5 ib _ 1 1 Tryd.underlying89 Bi.out Bz.out Bz1.out Bz2.out rfl (by decide) (.slice none 0 0) 0 [] rfl (own_nil _ _) Ak x.key.length ck (x.key.map byteV) (by rfl) (by rw [List.length_map, Nat.mul_one]) HSK.out (oneCell_bytes _) (by unfold maxLen; omega) (by omega) (Nat.le_refl _) ?_
        intro v5 w5 hrow5 hg5 hat5
        have hn5 : OwnB w5 wx.heap.size v5 x.key := by
          have := own_app (bs := []) hrow5 rfl rfl
          simpa using this
        have hb50 : Below wx.drew.heap.size wx.drew w5 := (Grw.of_app hg5 hat5).kp.below_of (by intro i hi e; simp [Value.ownBlock] at e)
        refine hK.out _ _ (Keeps.below hb50) ?_
        clear hK K
        try simp only [Act.put, List.setIfInBounds_toArray, List.set_cons_zero, List.set_cons_succ, List.getElem_toArray, List.getElem_cons_zero, List.getElem_cons_succ]
        have hb5 : Below wx.heap.size wx w5 := ((Below.refl _ wx).drew).trans hb50
        obtain ⟨A5, c5, rfl, h51, h52, _⟩ := own_form hn5
        have HN5 := Lib.hid hn5
        have HB5 := Lib.hid hb5
        have hz5 := hb5.size
        have hrl := HRX.out.lt
        have HKN := Lib.hid (KeyN.of_own (v := none) (vi := vi) HN5.out (fun i hi => (hrl i hi).2))
        clear hrow5 hg5 hat5 hn5 hb5 hb50
        refine wpAnyL_pure (i := 7) (v := .agg (inCells x (.slice A5 x.key.length c5)).toArray) rfl (by kernel_rfl) (by kernel_rfl) (by kernel_rfl) (fun _ _ _ h => h) (yieldsIf_build (by rfl) 91 _ rfl _ (by simpa [Act.eval] using built_in7 x A5 x.key.length c5 HXO.out.1)) ?_
        simp only [Act.put, List.setIfInBounds_toArray, List.set_cons_zero, List.set_cons_succ, List.getElem_toArray, List.getElem_cons_zero, List.getElem_cons_succ]
        obtain ⟨cx, hcx⟩ : ∃ cx, cx = inCells x (.slice A5 x.key.length c5) := ⟨_, rfl⟩
        rw [← hcx]
        have HCX := Lib.hid hcx
        have HCL := Lib.hid (show cx.length = 34 by rw [hcx]; exact inCells_len HXO.out _)
        have HC1 := Lib.hid (show ∀ u ∈ cx, u.oneCell' = true by rw [hcx]; exact inCells_one _ _ _ _)
        clear hcx
        refine wpAnyL_ready (rs := [8]) (by kernel_rfl) (by simp) ?_
        refine (AllReadyL.cons rfl (fun K hK => ?_) AllReadyL.nil)
        refine step_buildOne (by rfl) 32 91 (.tmp 26) rfl cx.toArray (by rfl) Tryd.underlying32 (by simp only [List.size_toArray, HCL.out]; exact size_in) zs HZI.out (by simp only [List.size_toArray, HCL.out]; omega) (by simp only [List.size_toArray, HCL.out]; omega) ?_
        refine hK.out _ _ (Keeps.below (Joins.below_alloc1 _ _)) ?_
        clear hK K
        try simp only [Act.put, List.setIfInBounds_toArray, List.set_cons_zero, List.set_cons_succ, List.getElem_toArray, List.getElem_cons_zero, List.getElem_cons_succ]
        obtain ⟨us, hus1, hus2, hus3⟩ := HRX.out.kp (Kp.of_below (S := fun _ => False) HB5.out) (fun _ _ _ h => h)
        obtain ⟨Ai, ci, hvi, _⟩ := own_form hus2
        have hvi2 : vi = .slice Ai k ci := by rw [hvi, HL1.out]
        rw [HL1.out] at hus2
        subst hvi2
        have HU1 := Lib.hid hus1
        have HU2 := Lib.hid hus2
        have HU3 := Lib.hid hus3
        clear hus1 hus2 hus3 hvi
        refine wpAnyL_ready (rs := [9]) (by kernel_rfl) (by simp) ?_
        refine (AllReadyL.cons rfl (fun K hK => ?_) AllReadyL.nil)
        refine step_app _ rfl (.tmp 20) (.tmp 27) _ rfl base 91 ii _ 34 64 Tryd.underlying32 Ii.out HIZ.out Iz1.out Iz2.out HZL2.out (by decide) (.slice Ai k ci) k _ rfl (own_below HU2.out (Joins.below_alloc1 _ _)) (some ⟨w5.heap.size, 0, none⟩) 1 1 cx rfl (by rw [HCL.out]) (Src.new _ _ _) HC1.out (by unfold maxLen; omega) (by omega) (by have := HZX.out; simp; omega) ?_
        intro v7 w7 hrow7 hg7 hat7
        have HG7 := Lib.hid ((Grw.of_below (Joins.below_alloc1 _ _) _).trans (Grw.of_app hg7 hat7))
        have HNT := Lib.hid (show (Value.slice Ai k ci).ownBlock ≠ some T from fun e => by have := (own_lt HU2.out _ e).1; omega)
        have HNX := Lib.hid (show (Value.slice Ai k ci).ownBlock ≠ some wr.heap.size from fun e => by have := (hrlw _ e).2; omega)
        refine hK.out _ _ (Keeps.kp (Kp.mono (T := fun i => (Value.slice Ai k ci).ownBlock = some i) (Kp.refl _ _ |>.grown hg7 (fun k hk _ => hk)) (fun _ _ h => h)) (by
          intro p hp _
          simp only [List.mem_cons, List.not_mem_nil, or_false] at hp
          rcases hp with rfl | rfl | rfl
          · exact HNT.out
          · exact HNX.out
          · exact HNX.out)) ?_
        clear hK K
        try simp only [Act.put, List.setIfInBounds_toArray, List.set_cons_zero, List.set_cons_succ, List.getElem_toArray, List.getElem_cons_zero, List.getElem_cons_succ]
        have HTX5 : Bk w5 T 35 (txCells t.version (.slice Ai k ci) vo) := HTX.out.below (w := wx) (w' := w5) HB5.out (HTX.out.lt)
        have HT7 := Lib.hid ((HG7.out.bk HTX5 HNT.out).1)
        have t7 : w7.cell? ⟨T, 1, none⟩ = some (.slice Ai k ci) := (HT7.out.cell 1).trans rfl
        have f7 := HT7.out.frozen 1
        have hrow7' := hrow7
        obtain ⟨A7, c7, rfl, _⟩ := own_form hrow7'
        refine wpAnyL_pure (i := 10) (v := ?_) rfl (by kernel_rfl) (by kernel_rfl) (by kernel_rfl) (fun _ _ _ h => h) (Or.inl ⟨by rfl, ?_⟩) ?_
        rotate_left
        · (intro w' _; go_simp <;> with_reducible rfl)
        simp only [Act.put, List.setIfInBounds_toArray, List.set_cons_zero, List.set_cons_succ, List.getElem_toArray, List.getElem_cons_zero, List.getElem_cons_succ]
        refine wpAnyL_ready (rs := [11]) (by kernel_rfl) (by simp) ?_
        refine (AllReadyL.cons rfl (fun K hK => ?_) AllReadyL.nil)
        go_simp
        refine hK.out _ _ (Keeps.last (by kernel_rfl) _ _) ?_
        clear hK K
        try simp only [Act.put, List.setIfInBounds_toArray, List.set_cons_zero, List.set_cons_succ, List.getElem_toArray, List.getElem_cons_zero, List.getElem_cons_succ]
        refine wpAnyL_done (by kernel_rfl) ?_ _
        go_wp2_with fail
        go_roundw
        case rel =>
          have hkp7 : Kp (fun i => i = T) w7 (w7.setCell ⟨T, 1, none⟩ (.slice A7 (k + 1) c7)) := kp_cell1 _ _ _ _
          have hrow := RowI.push HU1.out (fun i hi => ⟨(HU3.out i hi).1, by obtain ⟨u, hu, hp⟩ := (HU3.out i hi).2; exact ⟨u, hu, hp.kp ((Kp.refl (fun _ => False) w5).alloc (.cells cx.toArray 91)) (fun _ _ _ h => h)⟩⟩)
            HXO.out ((HKN.out.mono (show base ≤ wx.heap.size by have := HZX.out; omega)).kp ((Kp.refl (fun _ => False) w5).alloc (.cells cx.toArray 91)) (fun _ _ _ h => h)) (by rw [← HCX.out, HL1.out]; exact hrow7) hg7 hat7
          refine ⟨k + 1, .slice A7 (k + 1) c7, by go_num, by omega, Lib.hid (HT7.out.set 1 _), Lib.hid ?_, Lib.hid ?_⟩
          · rw [HTK.out]
            exact hrow.kp hkp7 (by intro i hi; omega)
          · exact ((HKX.out.trans (Kp.of_below (S := fun i => i = T) HB5.out)).trans_of HG7.out.kp (fun i hi e => by have := (own_lt HU2.out _ e).1; have := hzb.out; omega)).trans hkp7
        case measure => simp [intOf]; omega
      · obtain rfl : k = t.ins.length := by omega
        obtain ⟨Ai, ci, rfl, hi1, hi2, _⟩ := hRI.out.at_
        have hek : (t.ins.take t.ins.length) = t.ins := List.take_of_length_le (Nat.le_refl _)
        rw [hek] at hRI hi1
        rw [hek] at hT
        have hRO2 := hRO.out.1
        obtain ⟨Ao, co, rfl, ho1, ho2, _⟩ := own_form hRO2
        have t0 : wr.cell? ⟨T, 0, none⟩ = some (.int .u32 (t.version : Int)) := (hT.out.cell 0).trans rfl
        have t1 : wr.cell? ⟨T, 1, none⟩ = some (.slice Ai t.ins.length ci) := (hT.out.cell 1).trans rfl
        have t2 : wr.cell? ⟨T, 2, none⟩ = some (.slice Ao t.outs.length co) := (hT.out.cell 2).trans rfl
        have HRR := Lib.hid ((HRES.out.below hbel.out (by have := HZ.out; omega)).kp hkp.out (by omega))
        have r0 : wr.cell? ⟨w.heap.size + 1, 0, none⟩ = some (.int .u32 0) := (HRR.out.cell 0).trans rfl
        have r1 : wr.cell? ⟨w.heap.size + 1, 1, none⟩ = some (.slice none 0 0) := (HRR.out.cell 1).trans rfl
        have r2 : wr.cell? ⟨w.heap.size + 1, 2, none⟩ = some (.slice none 0 0) := (HRR.out.cell 2).trans rfl
        have f0 := HRR.out.frozen 0
        have f1 := HRR.out.frozen 1
        have f2 := HRR.out.frozen 2
        have HRO2 := Lib.hid hRO.out
        have HRI := Lib.hid hRI.out
        have HBE := Lib.hid (HBC.out.trans (Kp.low_from7o hkp.out (B := w.heap.size) (fun i hi e => by omega) HBC.out.size))
        clear b1 hRO2
        go_wp2_with fail
        obtain ⟨wz, hwz⟩ : ∃ wz, wz = (((wr.setCell ⟨w.heap.size + 1, 0, none⟩ (.int .u32 (t.version : Int))).setCell ⟨w.heap.size + 1, 1, none⟩ (.slice Ai t.ins.length ci)).setCell ⟨w.heap.size + 1, 2, none⟩ (.slice Ao t.outs.length co)) := ⟨_, rfl⟩
        have hz : Bk wz (w.heap.size + 1) 35 (txCells t.version (.slice Ai t.ins.length ci) (.slice Ao t.outs.length co)) := by rw [hwz]; exact ((HRR.out.set 0 _).set 1 _).set 2 _
        have hkz : Kp (fun i => i = w.heap.size + 1) wr wz := by rw [hwz]; exact ((kp_cell1 _ _ _ _).trans (kp_cell1 _ _ _ _)).trans (kp_cell1 _ _ _ _)
        rw [← hwz]
        refine bodyPost_ret (results_cell_row rfl _ _ (w.heap.size + 1) 35 (txCells t.version (.slice Ai t.ins.length ci) (.slice Ao t.outs.length co)) (0, 0) _ rfl hz Tryd.underlying35 rfl size_tx) rfl ?_
        have hkT : ∀ i, (Value.slice Ao t.outs.length co).ownBlock = some i → ¬ (i = T) := fun i hi e => hne (by rw [hi, e])
        have hRI2 := HRI.out
        have hROr := own_kp7 HRO2.out.1 hkp.out hkT
        refine ⟨Ai, ci, Ao, co, rfl, ?_, Kp.from_elder HBE.out hkz (fun i hi => by omega)⟩
        intro wy hy
        have hI := ((HRI.out.kp hkz (by intro i hi; omega)).kp hy (by intro i hi; omega)).at_
        have hO := (RowO.at_ (⟨own_kp (own_kp hROr hkz (by intro i hi; omega)) hy (by intro i hi; omega), HRO2.out.2⟩ : RowO wy (w.heap.size + 2) _ t.outs))
        obtain ⟨A1, c1', e1, i1, i2, i3⟩ := hI
        obtain ⟨A2, c2', e2, o1, o2, o3⟩ := hO
        injection e1 with e1 _ e1'
        injection e2 with e2 _ e2'
        subst e1 e1' e2 e2'
        exact ⟨hv, i1, i2, o1, o2, i3, o3⟩
end Go.Proofs.YtacbibflhdmcoaaDoor.T7
/- OrphB, merged: OrphRow, OrphDel, OrphCon, OrphClo, OrphAddP, OrphOut, OrphActs, OrphTake. -/
/- Rows of entries with the values of their transactions' rows beside them. -/
namespace Go.Proofs.YtacbibflhdmcoaaDoor.O14
open Go.RowKit Go.Deep T7
set_option linter.unusedVariables false
set_option linter.unusedSimpArgs false
set_option maxRecDepth 100000

abbrev EP := Ent × Value × Value
def PairOk (T : Nat → Prop) (w : World) (p : EP) : Prop := p.1.Ok ∧ TxPers T w p.1.tx p.2.1 p.2.2
def RowP (w : World) (base : Nat) (v : Value) (ps : List EP) : Prop := w.ownsRow base 96 37 v ps.length (ps.flatMap entPair)
theorem RowE.pairs {T : Nat → Prop} {w : World} {base : Nat} {v : Value} {es : List Ent} (h : RowE T w base v es) : ∃ ps : List EP, ps.map (·.1) = es ∧ RowP w base v ps ∧ ∀ p ∈ ps, PairOk T w p := by
  obtain ⟨us, h1, h2, h3⟩ := h
  have hl : (es.zip us).length = es.length := by rw [List.length_zip, h1, Nat.min_self]
  refine ⟨es.zip us, List.map_fst_zip (by omega), by unfold RowP; rw [hl]; exact h2, fun p hp => ?_⟩
  obtain ⟨i, hi, rfl⟩ := List.mem_iff_getElem.1 hp
  rw [List.getElem_zip]
  obtain ⟨hok, u, hu, hp⟩ := h3 i (by omega)
  rw [List.getElem?_eq_some_iff] at hu
  obtain ⟨_, hu⟩ := hu
  refine ⟨hok, ?_⟩
  show TxPers T w es[i].tx us[i].1 us[i].2
  rw [hu]; exact hp
theorem zip_fs {α β : Type} : ∀ l : List (α × β), (l.map (·.1)).zip (l.map (·.2)) = l
  | [] => rfl
  | p :: l => by
    show (p.1, p.2) :: (l.map (·.1)).zip (l.map (·.2)) = _
    rw [zip_fs l]
theorem RowE.of_pairs {T : Nat → Prop} {w : World} {base : Nat} {v : Value} {ps : List EP} (h : RowP w base v ps) (hp : ∀ p ∈ ps, PairOk T w p) : RowE T w base v (ps.map (·.1)) := by
  have hz := zip_fs ps
  refine ⟨ps.map (·.2), by simp, by rw [hz, List.length_map]; exact h, fun i hi => ?_⟩
  rw [List.length_map] at hi
  have := hp ps[i] (List.getElem_mem hi)
  rw [List.getElem_map]
  exact ⟨this.1, ps[i].2, by simp [hi], this.2⟩
theorem PairOk.step {T T' S : Nat → Prop} {w w' : World} {p : EP} (h : PairOk T w p) (k : Kp S w w') (hs : ∀ i, i < w.heap.size → S i → T i) (ht : ∀ i, i < w.heap.size → T' i → T i) : PairOk T' w' p := ⟨h.1, h.2.step k hs ht⟩
theorem PairOk.form {T : Nat → Prop} {w : World} {p : EP} (h : PairOk T w p) : ∃ A1 n1 c1 A2 n2 c2, p.2.1 = .slice A1 n1 c1 ∧ p.2.2 = .slice A2 n2 c2 := by
  obtain ⟨_, A, c, A', c', h1, h2, _⟩ := h
  exact ⟨_, _, _, _, _, _, h1, h2⟩
theorem PairOk.len {T : Nat → Prop} {w : World} {p : EP} (h : PairOk T w p) : (entPair p).length = 37 := entCells_len h.1.1 _ _
theorem PairOk.one {T : Nat → Prop} {w : World} {p : EP} (h : PairOk T w p) : ∀ u ∈ entPair p, u.oneCell' = true := by
  obtain ⟨A1, n1, c1, A2, n2, c2, h1, h2⟩ := h.form
  unfold entPair
  rw [h1, h2]
  exact entCells_one _ _ _ _ _ _ _
theorem PairOk.isEnt {T : Nat → Prop} {w : World} {p : EP} (h : PairOk T w p) : IsEnt T w (entPair p) p.1 := ⟨h.1, _, _, rfl, h.2⟩
theorem pairs_len {T : Nat → Prop} {w : World} {ps : List EP} (h : ∀ p ∈ ps, PairOk T w p) : (ps.flatMap entPair).length = ps.length * 37 := flatMap_len _ fun p hp => (h p hp).len
/-- where the i-th lies -/
theorem RowP.range {T : Nat → Prop} {w W : World} {base : Nat} {v : Value} {ps : List EP} (h : RowP W base v ps) (hp : ∀ p ∈ ps, PairOk T w p) :
    ∃ A cap, v = .slice A ps.length cap ∧ ps.length ≤ cap ∧ cap ≤ maxLen ∧ ∀ i (hi : i < ps.length), ∃ b, A = some ⟨b, 0, none⟩ ∧ base ≤ b ∧ b < W.heap.size ∧ W.rangeAt b (i * 37) (entPair ps[i]) := by
  obtain ⟨A, cap, hv, hn, hm, hA, hc⟩ := own_form h
  refine ⟨A, cap, hv, hn, hm, fun i hi => ?_⟩
  have hl : ∀ p ∈ ps, (entPair p).length = 37 := fun p hq => (hp p hq).len
  have hcell : ∀ j (hj : j < (entPair ps[i]).length), ∃ b, A = some ⟨b, 0, none⟩ ∧ base ≤ b ∧ b < W.heap.size ∧ W.cell? ⟨b, i * 37 + j, none⟩ = some (entPair ps[i])[j] := fun j hj =>
    hc (i * 37 + j) _ (by
      rw [flatMap_index ps hl i hi j (by rw [hl _ (List.getElem_mem hi)] at hj; exact hj), List.getElem?_eq_getElem hj])
  obtain ⟨b, hA, hb, hlt, _⟩ := hcell 0 (by rw [hl _ (List.getElem_mem hi)]; omega)
  refine ⟨b, hA, hb, hlt, fun j u hu => ?_⟩
  obtain ⟨hj, rfl⟩ := List.getElem?_eq_some_iff.1 hu
  obtain ⟨b', hA', _, _, hcj⟩ := hcell j hj
  rw [hA] at hA'
  injection hA' with hA'
  injection hA' with hA' _
  subst hA'
  exact hcj
theorem RowP.push {w' : World} {base : Nat} {v' : Value} {ps : List EP} {p : EP} (h : w'.ownsRow base 96 37 v' (ps.length + 1) (ps.flatMap entPair ++ entPair p)) : RowP w' base v' (ps ++ [p]) := by
  unfold RowP
  rw [List.length_append, List.flatMap_append]
  simpa using h
theorem RowP.kp {w w' : World} {base : Nat} {v : Value} {ps : List EP} {S : Nat → Prop} (h : RowP w base v ps) (hk : Kp S w w') (hS : ∀ i, v.ownBlock = some i → ¬ S i) : RowP w' base v ps := own_kpo h hk hS
/-- the pool with its pairs -/
structure PoolP (T : Nat → Prop) (w : World) (O base : Nat) (v : Value) (ps : List EP) : Prop where
  bk : Bk w O 82 #[v]
  row : RowP w base v ps
  all : ∀ p ∈ ps, PairOk T w p
  ne : v.ownBlock ≠ some O
  tO : T O
  tv : ∀ i, v.ownBlock = some i → T i
theorem PoolAt.pairs {T : Nat → Prop} {w : World} {O base : Nat} {v : Value} {es : List Ent} (h : PoolAt T w O base v es) : ∃ ps : List EP, ps.map (·.1) = es ∧ PoolP T w O base v ps := by
  obtain ⟨ps, h1, h2, h3⟩ := h.row.pairs
  exact ⟨ps, h1, h.bk, h2, h3, h.ne, h.tO, h.tv⟩
theorem PoolP.at_ {T : Nat → Prop} {w : World} {O base : Nat} {v : Value} {ps : List EP} (h : PoolP T w O base v ps) : PoolAt T w O base v (ps.map (·.1)) := ⟨h.bk, .of_pairs h.row h.all, h.ne, h.tO, h.tv⟩
end Go.Proofs.YtacbibflhdmcoaaDoor.O14
/- slices.Delete of the first entry of a row. -/
namespace Go.Proofs.YtacbibflhdmcoaaDoor.O14
open Go.RowKit Go.Deep T7
set_option linter.unusedVariables false
set_option linter.unusedSimpArgs false
set_option maxRecDepth 100000
attribute [local go_sem ↓] Go.wp_at_zero Go.wp_at_succ

/-- clear of one element -/
theorem run_clear_one {P : Program} (w : World) (t e ty : TypeId) (zs : Array Value) (ht : P.underlying t = some (.slice e)) (hv : (zeroValue e).run P w = .ok (.agg zs) w) (h1 : ∀ u ∈ zs, u.oneCell' = true) (b o c : Nat) 
    (hc : ∀ j, j < zs.size → (w.cell? ⟨b, o + j, none⟩).isSome = true) (hf : ∀ j, j < zs.size → w.frozen? ⟨b, o + j, none⟩ = false) :
    (Builtin.clear_ #[t] ty #[.slice (some ⟨b, o, none⟩) 1 c]).run P w = .ok (.tuple #[]) (w.setCells b o zs.toList) := by
  have hzc : (Builtin.zeroCells (Value.agg zs).cells 1).toList = zs.toList := by
    simp only [Builtin.zeroCells, Value.cells, Nat.one_mul]
    apply List.ext_getElem
    · simp
    · intro i h1 h2
      simp only [Array.toList_map, Array.toList_range, List.getElem_map, List.getElem_range, Array.getElem_toList]
      have : i < zs.size := by simpa using h2
      rw [Nat.mod_eq_of_lt this, getElem!_pos zs i this]
  have hst := run_storeCells_cells (P := P) b o zs.toList 0 w (by simpa using hc) (by simpa using hf) (by intro v hv'; exact h1 v (by simpa using hv'))
  simp only [Nat.add_zero] at hst
  simp [Builtin.clear_, run_underlying ht, hv, hzc, hst]
theorem run_zero_of {P : Program} {e : TypeId} {i : TypeInfo} {z : Value} (w : World) (h : P.info? e = some i) (hz : i.zero = some z) : (zeroValue e).run P w = .ok z w := by
  simp [zeroValue, typeInfo, h, hz, go_sem]
theorem ent_info : (Tryd.prog.info? 96).map (fun i => (i.zero, i.size, i.bytes)) = some (some (.agg (entCells ⟨0, Txs.none, List.replicate 32 0, 0⟩ (.slice none 0 0) (.slice none 0 0)).toArray), 37, 104) := by kernel_rfl
set_option maxHeartbeats 1000000 in
theorem del_any (T : Nat → Prop) (ps : List EP) (g cap base : Nat) (w : World) (h : RowP w base (.slice (some ⟨g, 0, none⟩) ps.length cap) ps) (hp : ∀ p ∈ ps, PairOk T w p) (h2 : 2 ≤ ps.length) (hn : ps.length ≤ 1000) :
    Calls Tryd.prog 45 #[.slice (some ⟨g, 0, none⟩) ps.length cap, .int .i64 0, .int .i64 1] w fun e w' => e = .returned (.slice (some ⟨g, 0, none⟩) (ps.length - 1) cap) ∧ RowP w' base (.slice (some ⟨g, 0, none⟩) (ps.length - 1) cap) (ps.drop 1) ∧ Kp (fun i => i = g) w w' := by
  obtain ⟨ie, hi, hz0, hz1, hz2⟩ := info_parts ent_info
  have Ii := Lib.hid hi
  have Iz1 := Lib.hid hz1
  have Iz := Lib.hid hz0
  clear hi hz0 hz1 hz2
  have hZL := zeroEnt_len
  have hZO : ∀ u ∈ (entCells ⟨0, Txs.none, List.replicate 32 0, 0⟩ (.slice none 0 0) (.slice none 0 0)).toArray, u.oneCell' = true := fun u hu => entCells_one ⟨0, Txs.none, List.replicate 32 0, 0⟩ none none 0 0 0 0 u (List.mem_toArray.1 hu)
  have HZE := zero_ent
  generalize (entCells ⟨0, Txs.none, List.replicate 32 0, 0⟩ (.slice none 0 0) (.slice none 0 0)).toArray = zs at hZL hZO Iz HZE
  have HZL := Lib.hid hZL
  have HZO := Lib.hid hZO
  clear hZL hZO HZE
  obtain ⟨n, hn'⟩ : ∃ n, n = ps.length := ⟨_, rfl⟩
  have HN := Lib.hid hn'
  have hfl : (ps.flatMap entPair).length = ps.length * 37 := pairs_len hp
  obtain ⟨hxl, h0 | ⟨g', cap', cur, hv, hbg, hbk, hnc, hcm, hcs, htk⟩⟩ := h
  · exact absurd h0.2 (by omega)
  injection hv with hv1 _ hv2
  injection hv1 with hv1
  injection hv1 with hv1 _
  subst hv1 hv2
  obtain ⟨news, hnews⟩ : ∃ news, news = (ps.drop 1).flatMap entPair := ⟨_, rfl⟩
  have hnl : news.length = (n - 1) * 37 := by rw [hnews, pairs_len (fun p hq => hp p (List.mem_of_mem_drop hq)), List.length_drop, hn']
  have hno : ∀ u ∈ news, u.oneCell' = true := by
    intro u hu
    rw [hnews] at hu
    obtain ⟨p, hq, hu⟩ := List.mem_flatMap.1 hu
    exact (hp p (List.mem_of_mem_drop hq)).one u hu
  have hdrop : (ps.flatMap entPair).drop 37 = news := by
    rw [hnews]
    cases ps with
    | nil => simp at h2
    | cons p ps =>
      rw [List.flatMap_cons, List.drop_one, List.tail_cons, List.drop_left' (hp p (by simp)).len]
  rw [← hn'] at htk hnc h2 hn ⊢
  have hget : ∀ t, t < news.length → cur[37 + t]? = news[t]? := by
    intro t ht
    rw [← hdrop, List.getElem?_drop, ← htk, List.getElem?_take, if_pos (by rw [hnl] at ht; omega), Array.getElem?_toList]
  have hbk0 : Bk w.drew g 96 cur := hbk
  have hcell : ∀ W : World, Bk W g 96 cur → ∀ t u, news[t]? = some u → W.cell? ((⟨g, 37, none⟩ : Addr).add t) = some u := by
    intro W hW t u hu
    have ht := (List.getElem?_eq_some_iff.1 hu).1
    have e : (⟨g, 37, none⟩ : Addr).add t = ⟨g, 37 + t, none⟩ := by unfold Addr.add; split <;> simp_all
    rw [e, hW.cell, hget t ht]
    exact hu
  have s1 := Lib.hid hnl
  have s2 := Lib.hid hno
  have s3 := Lib.hid (hcell w.drew hbk0)
  have hcur : cur.toList.toArray = cur := by simp
  have hbkl : Bk w.drew g 96 cur.toList.toArray := by rw [hcur]; exact hbk0
  have hcl : cur.toList.length = cap * 37 := by rw [Array.length_toList]; exact hcs
  have s4 : Hid (∀ t, t < news.length → (w.drew.cell? ⟨g, 0 + 0 * 37 + t, none⟩).isSome = true ∧ w.drew.frozen? ⟨g, 0 + 0 * 37 + t, none⟩ = false) := Lib.hid (by
    intro t ht
    have hh : n * 37 ≤ cap * 37 := Nat.mul_le_mul_right 37 hnc
    have := there_of_bk hbkl (0 + 0 * 37) news.length (by rw [hcl, hnl]; omega) t ht
    exact this)
  obtain ⟨W1, hW1⟩ : ∃ W1, W1 = w.drew.setCells g (0 + 0 * 37) news := ⟨_, rfl⟩
  have hh : n * 37 ≤ cap * 37 := Nat.mul_le_mul_right 37 hnc
  have hB1 : Bk W1 g 96 (cur.toList.take 0 ++ news ++ cur.toList.drop (0 + news.length)).toArray := by rw [hW1]; exact Bk.setCells7 news (0 + 0 * 37) _ _ hbkl (by rw [hcl, hnl]; omega)
  have hK1 : Kp (fun i => i = g) w W1 := by rw [hW1]; exact ((Kp.refl _ w).drew).trans (kp_cells1 _ _ _ _)
  obtain ⟨c1, hc1⟩ : ∃ c1, c1 = cur.toList.take 0 ++ news ++ cur.toList.drop (0 + news.length) := ⟨_, rfl⟩
  rw [← hc1] at hB1
  have hc1l : c1.length = cap * 37 := by rw [hc1]; simp only [List.length_append, List.length_take, List.length_drop, hcl, hnl]; omega
  have hc1t : c1.take ((n - 1) * 37) = news := by rw [hc1, List.take_zero, List.nil_append, List.take_left' hnl]
  have hclr : ∀ ty, (Builtin.clear_ #[80] ty #[.slice (some ⟨g, (n - 1) * 37, none⟩) 1 (cap - (n - 1))]).run Tryd.prog W1 = .ok (.tuple #[]) (W1.setCells g ((n - 1) * 37) zs.toList) := fun ty =>
    run_clear_one W1 _ 96 ty zs Tryd.underlying80 (run_zero_of W1 Ii.out Iz.out) HZO.out g _ _ (fun j hj => by
      rw [hB1.cell]
      rw [HZL.out] at hj
      simp only [List.getElem?_toArray]
      rw [List.getElem?_eq_getElem (by rw [hc1l]; omega)]; rfl) (fun j hj => hB1.frozen _)
  have hW := Lib.hid hW1
  have X1 := Lib.hid hB1
  have X2 := Lib.hid hK1
  have X3 := Lib.hid hc1l
  have X4 := Lib.hid hc1t
  have X5 := Lib.hid hbg
  have X6 := Lib.hid hnews
  have X7 := Lib.hid hcm
  have hcap1 : ¬ cap = 1 := by omega
  have hcapn : n ≤ cap := hnc
  have h1n : (1 : Int) ≤ (n : Int) := by omega
  have hcap63 : (cap : Int) ≤ 9223372036854775807 := by unfold maxLen at hcm; omega
  clear hp hxl hbk htk hcs hfl hW1 hB1 hK1 hc1 hc1l hc1t hnl hno hdrop hget hbk0 hcell hcur hbkl hcl hnews hn'
  go_enter Tryd.func45, Tryd.ntmps45
  go_wp2_with fail
  go_region_law (refine step_append_room rfl (.tmp 22) (.tmp 25) 80 rfl 96 ie 37 Tryd.underlying80 Ii.out Iz1.out g 0 0 cap (by simp [Act.eval, Act.put]) ⟨g, 37, none⟩ (n - 1) (cap - 1) news (by simp [Act.eval, Act.put]) s1.out s3.out s2.out (by omega) s4.out ?_; rw [← hW.out])
  have e0 : n - (n - 1) = 1 := by omega
  go_wp2_with fail
  go_ret
  refine ⟨rfl, ?_, X2.out.trans (kp_cells1 _ _ _ _)⟩
  have hZL : zs.toList.length = 37 := by rw [Array.length_toList]; exact HZL.out
  have hfit : (n - 1) * 37 + zs.toList.length ≤ c1.length := by rw [X3.out, hZL]; have := Nat.mul_le_mul_right 37 hcapn; omega
  have hbk2 := Bk.setCells7 zs.toList ((n - 1) * 37) W1 c1 X1.out hfit
  have hdl : (ps.drop 1).length = n - 1 := by rw [List.length_drop, HN.out]
  refine ⟨by rw [hdl, ← X6.out]; exact s1.out, .inr ⟨g, cap, _, by rw [hdl], X5.out, hbk2, by rw [hdl]; omega, X7.out, ?_, ?_⟩⟩
  · simp only [List.size_toArray, List.length_append, List.length_take, List.length_drop, hZL, X3.out]
    have := Nat.mul_le_mul_right 37 hcapn
    omega
  · rw [hdl, ← X6.out, ← X4.out, List.append_assoc]
    simp only [List.toList_toArray]
    rw [List.take_left' (by rw [List.length_take, X3.out]; have := Nat.mul_le_mul_right 37 hcapn; omega)]
end Go.Proofs.YtacbibflhdmcoaaDoor.O14
/- slices.Contains over hashes; the closures of the pool. -/
namespace Go.Proofs.YtacbibflhdmcoaaDoor.O14
open Go.RowKit Go.Deep T7
set_option linter.unusedVariables false
set_option linter.unusedSimpArgs false
set_option maxRecDepth 100000
set_option maxHeartbeats 2000000
attribute [local go_sem ↓] Go.wp_at_zero Go.wp_at_succ

theorem index_any (l : List (List UInt8)) (A : Option Addr) (c B : Nat) (id : List UInt8) (hid : id.length = 32) (w : World) (h : HashesAt w B A l) (hB : B ≤ w.heap.size) (hl : l.length ≤ 1000000) :
    Calls Tryd.prog 65 #[.slice A l.length c, .agg (id.map byteV).toArray] w fun e w' => ∃ r : Int, e = .returned (.int .i64 r) ∧ (decide (0 ≤ r) = l.any fun x => decide (x = id)) ∧ Below w.heap.size w w' := by
  have HI := Lib.hid h
  have HL := Lib.hid hid
  clear h hid
  obtain ⟨ia, hia⟩ : ∃ ia, ia = (id.map byteV).toArray := ⟨_, rfl⟩
  have HIA := Lib.hid hia
  rw [← hia]
  obtain ⟨w1, hw1⟩ : ∃ w1, w1 = w.alloc (.cells ia 54) := ⟨_, rfl⟩
  have HB1 := Lib.hid (show Below w.heap.size w w1 by rw [hw1]; exact Joins.below_alloc1 _ _)
  have HX1 := Lib.hid (show Bk w1 w.heap.size 54 ia by rw [hw1]; exact Bk.new _ _ _)
  have HZ1 := Lib.hid (show w1.heap.size = w.heap.size + 1 by rw [hw1]; simp)
  clear hia
  go_enter Tryd.func65, Tryd.ntmps65
  go_upto_region 1 with (fail)
  rw [← hw1]
  clear hw1
  go_wp2_with fail
  go_loopw [5, 8] (fun _ iv wr => ∃ k : Nat, iv = .int .i64 (k : Int) ∧ k ≤ l.length ∧ Hid ((l.take k).any (fun x => decide (x = id)) = false) ∧ Hid (Below w1.heap.size w1 wr)) (fun _ iv _ => l.length - (intOf iv).toNat)
  case atStart => exact ⟨0, rfl, Nat.zero_le _, Lib.hid (by simp), Lib.hid (Below.refl _ _)⟩
  case round =>
    obtain ⟨k, rfl, hk, hno, hb⟩ := hrel
    have HBR := Lib.hid (HB1.out.trans (hb.out.mono HB1.out.size))
    by_cases hlt : k < l.length
    · obtain ⟨b, off, rfl, hbB, hr, hok⟩ := HashesAt.range (At.below HI.out (HBR.out.mono hB)) hlt
      have i1 : (0 : Int) ≤ (k : Int) := by omega
      have i2 : (k : Int) < (l.length : Int) := by omega
      have HR := Lib.hid hr
      have HXR := Lib.hid (show wr.rangeAt w.heap.size 0 (id.map byteV) from bk_range (by rw [← HIA.out]; exact HX1.out.below hb.out (by rw [HZ1.out]; omega)))
      have L1 := Lib.hid (show (l[k].map byteV).length = 32 by rw [List.length_map]; exact hok)
      have L2 := Lib.hid (show (id.map byteV).length = 32 by rw [List.length_map]; exact HL.out)
      have HOK := Lib.hid hok
      have HNX := Lib.hid (fun h => any_snoc hlt (fun x : List UInt8 => decide (x = id)) hno.out h)
      have HYE := Lib.hid (fun (h : decide (l[k] = id) = true) => (List.any_eq_true.2 ⟨l[k], List.getElem_mem hlt, h⟩ : l.any (fun x => decide (x = id)) = true))
      generalize l[k] = x at *
      clear hr hok
      go_upto_region 4 with (fail)
      cases hpn : decide (x = id) with
      | true =>
        refine wp_region_quiet_lit (by kernel_rfl) (by kernel_rfl) ?_
        (refine wpQuiet_load_mid rfl 54 (.tmp 3) rfl w.heap.size 0 (by rfl) (id.map byteV) _ (fun w' ⟨n, e⟩ => by subst e; exact HXR.out) Tryd.underlying54 rfl (by rw [L2.out]; exact size_hash0) ?_; go_frame)
        iterate 3 (go_big_quiet_step (fail))
        (refine wpQuiet_load_mid rfl 54 (.tmp 14) rfl b (off + k * 32) (by rfl) (x.map byteV) _ (fun w' ⟨n, e⟩ => by subst e; exact HR.out) Tryd.underlying54 rfl (by rw [L1.out]; exact size_hash0) ?_; go_frame)
        (refine wpQuiet_eq_hash rfl (.tmp 11) (.tmp 15) _ rfl id x HL.out HOK.out (by rfl) (by rfl) true (by rw [← hpn]; exact decide_eq_decide.2 eq_comm) ?_; go_frame)
        refine wpQuiet_nil ?_
        intro _ hw'
        obtain ⟨nq, hw''⟩ := hw'
        subst hw''
        have HEND := Lib.hid (below_drewN HBR.out nq)
        have HY := Lib.hid (HYE.out hpn)
        go_wp2_with fail
        go_ret
        exact ⟨_, rfl, by rw [HY.out, decide_eq_true_iff]; exact i1, HEND.out⟩
      | false =>
        refine wp_region_quiet_lit (by kernel_rfl) (by kernel_rfl) ?_
        (refine wpQuiet_load_mid rfl 54 (.tmp 3) rfl w.heap.size 0 (by rfl) (id.map byteV) _ (fun w' ⟨n, e⟩ => by subst e; exact HXR.out) Tryd.underlying54 rfl (by rw [L2.out]; exact size_hash0) ?_; go_frame)
        iterate 3 (go_big_quiet_step (fail))
        (refine wpQuiet_load_mid rfl 54 (.tmp 14) rfl b (off + k * 32) (by rfl) (x.map byteV) _ (fun w' ⟨n, e⟩ => by subst e; exact HR.out) Tryd.underlying54 rfl (by rw [L1.out]; exact size_hash0) ?_; go_frame)
        (refine wpQuiet_eq_hash rfl (.tmp 11) (.tmp 15) _ rfl id x HL.out HOK.out (by rfl) (by rfl) false (by rw [← hpn]; exact decide_eq_decide.2 eq_comm) ?_; go_frame)
        refine wpQuiet_nil ?_
        intro _ hw'
        obtain ⟨nq, hw''⟩ := hw'
        subst hw''
        have HEND := Lib.hid (below_drewN hb.out nq)
        have HN := Lib.hid (HNX.out hpn)
        go_wp2_with fail
        go_roundw
        case rel => exact ⟨k + 1, by go_num, by omega, HN, HEND⟩
        case measure => simp [intOf]; omega
    · have hkl : k = l.length := by omega
      have HF := Lib.hid (show l.any (fun x => decide (x = id)) = false by have := hno.out; rwa [hkl, List.take_of_length_le (Nat.le_refl _)] at this)
      go_wp2_with fail
      go_ret
      exact ⟨_, rfl, by rw [HF.out]; rfl, HBR.out⟩
theorem contains_any (l : List (List UInt8)) (A : Option Addr) (c B : Nat) (id : List UInt8) (hid : id.length = 32) (w : World) (h : HashesAt w B A l) (hB : B ≤ w.heap.size) (hl : l.length ≤ 1000000) :
    Calls Tryd.prog 55 #[.slice A l.length c, .agg (id.map byteV).toArray] w fun e w' => e = .returned (.bool (l.any fun x => decide (x = id))) ∧ Below w.heap.size w w' := by
  have HI := Lib.hid h
  have HC := Lib.hid (index_any l A c B id hid)
  have HIS := Lib.hid (show (id.map byteV).toArray.size = 32 by simp [hid])
  clear h
  obtain ⟨ia, hia⟩ : ∃ ia, ia = (id.map byteV).toArray := ⟨_, rfl⟩
  rw [← hia] at HC HIS ⊢
  obtain ⟨w1, hw1⟩ : ∃ w1, w1 = w.alloc (.cells ia 54) := ⟨_, rfl⟩
  have HB1 := Lib.hid (show Below w.heap.size w w1 by rw [hw1]; exact Joins.below_alloc1 _ _)
  have HX1 := Lib.hid (show Bk w1 w.heap.size 54 ia by rw [hw1]; exact Bk.new _ _ _)
  clear hia hid
  go_enter Tryd.func55, Tryd.ntmps55
  go_upto_region 1 with (fail)
  rw [← hw1]
  clear hw1
  go_wp2_with (refine wpList_load_row rfl 54 (.tmp 3) rfl w.heap.size (by rfl) 54 ia (0, 0) _ HX1.out Tryd.underlying54 rfl (by rw [HIS.out]; exact size_hash0) ?_)
  refine (HC.out w1 (At.below HI.out (HB1.out.mono hB)) (Nat.le_trans hB HB1.out.size) hl).mono ?_
  rintro e w2 ⟨r, rfl, hr, hb2⟩
  have HR := Lib.hid hr
  have HB2 := Lib.hid (HB1.out.trans (hb2.mono HB1.out.size))
  clear hr hb2
  go_wp2_with fail
  go_ret
  exact ⟨ret_bool HR.out, HB2.out⟩
end Go.Proofs.YtacbibflhdmcoaaDoor.O14
/- The pool's closures. -/
namespace Go.Proofs.YtacbibflhdmcoaaDoor.O14
open Go.RowKit Go.Deep T7
set_option linter.unusedVariables false
set_option linter.unusedSimpArgs false
set_option maxRecDepth 100000
set_option maxHeartbeats 2000000
attribute [local go_sem ↓] Go.wp_at_zero Go.wp_at_succ

/-- does an input spend something of these? -/
theorem clo_in (l : List (List UInt8)) (A : Option Addr) (c B q : Nat) (x : Txs.In) (hx : x.Ok) (u : Value) (w : World) (h : HashesAt w B A l) (hB : B ≤ w.heap.size) (hl : l.length ≤ 1000000) (hq : w.cell? ⟨q, 0, none⟩ = some (.slice A l.length c)) :
    Calls Tryd.prog 54 #[.agg (inCells x u).toArray, .pointer (some ⟨q, 0, none⟩)] w fun e w' => e = .returned (.bool (l.any fun y => decide (y = x.hash))) ∧ Below w.heap.size w w' := by
  have HI := Lib.hid h
  have HC := Lib.hid (contains_any l A c B x.hash hx.1)
  have HHL := Lib.hid (show (x.hash.map byteV).length = 32 by rw [List.length_map]; exact hx.1)
  have HR := Lib.hid (show (inCells x u) = x.hash.map byteV ++ [.int .u32 (x.n : Int), u] by unfold inCells; simp)
  have hql : q < w.heap.size := World.block_lt_of_cell? w ⟨q, 0, none⟩ hq
  obtain ⟨hs, hhs⟩ : ∃ hs, hs = x.hash.map byteV := ⟨_, rfl⟩
  rw [← hhs] at HC HR HHL
  obtain ⟨cs, hcs⟩ : ∃ cs, cs = (inCells x u).toArray := ⟨_, rfl⟩
  rw [← hcs]
  obtain ⟨w1, hw1⟩ : ∃ w1, w1 = w.alloc (.cells cs 91) := ⟨_, rfl⟩
  have HB1 := Lib.hid (show Below w.heap.size w w1 by rw [hw1]; exact Joins.below_alloc1 _ _)
  have HXR := Lib.hid (show w1.rangeAt w.heap.size 0 hs from range_head (ds := [.int .u32 (x.n : Int), u]) (by have := bk_range (Bk.new w 91 (inCells x u).toArray); rw [← hcs, ← hw1, HR.out] at this; exact this))
  have q1 : w1.cell? ⟨q, 0, none⟩ = some (.slice A l.length c) := (HB1.out.cell (p := ⟨q, 0, none⟩) hql).trans hq
  clear h hx hcs hhs hq
  go_enter Tryd.func54, Tryd.ntmps54
  go_upto_region 1 with (fail)
  rw [← hw1]
  clear hw1
  go_wp2_with (refine wpList_load_mid rfl 54 (.tmp 6) rfl w.heap.size 0 (by rfl) hs _ HXR.out Tryd.underlying54 rfl (by rw [HHL.out]; exact size_hash0) ?_)
  refine (HC.out w1 (At.below HI.out (HB1.out.mono hB)) (Nat.le_trans hB HB1.out.size) hl).mono ?_
  rintro e w2 ⟨rfl, hb2⟩
  have HB2 := Lib.hid (HB1.out.trans (hb2.mono HB1.out.size))
  clear hb2
  go_wp2_with fail
  go_ret
  exact ⟨rfl, HB2.out⟩
/-- does a transaction spend something of these? -/
def spends (l : List (List UInt8)) (t : Txs.Tx) : Bool := t.ins.any fun x => l.any fun y => decide (y = x.hash)
theorem indexf_any (l : List (List UInt8)) (A : Option Addr) (c B q : Nat) (ins : List Txs.In) (AI : Option Addr) (cI BI : Nat) (w : World) (h : HashesAt w B A l) (hB : B ≤ w.heap.size) (hl : l.length ≤ 1000000) (hq : w.cell? ⟨q, 0, none⟩ = some (.slice A l.length c))
    (hi : InsAt w BI AI ins) (hBI : BI ≤ w.heap.size) (hni : ins.length ≤ 9223372036854775807) :
    Calls Tryd.prog 64 #[.slice AI ins.length cI, .func (.func 54) #[] #[.pointer (some ⟨q, 0, none⟩)]] w fun e w' =>
      ∃ r : Int, e = .returned (.int .i64 r) ∧ (decide (0 ≤ r) = ins.any fun x => l.any fun y => decide (y = x.hash)) ∧ Below w.heap.size w w' := by
  have HI := Lib.hid h
  have HII := Lib.hid hi
  have hql : q < w.heap.size := World.block_lt_of_cell? w ⟨q, 0, none⟩ hq
  have HQ := Lib.hid hq
  clear h hi hq
  go_enter Tryd.func64, Tryd.ntmps64
  go_wp2_with fail
  go_loopw [5, 8] (fun _ iv wr => ∃ k : Nat, iv = .int .i64 (k : Int) ∧ k ≤ ins.length ∧ Hid ((ins.take k).any (fun x => l.any fun y => decide (y = x.hash)) = false) ∧ Hid (Below w.heap.size w wr)) (fun _ iv _ => ins.length - (intOf iv).toNat)
  case atStart => exact ⟨0, rfl, Nat.zero_le _, Lib.hid (by simp), Lib.hid (Below.refl _ _)⟩
  case round =>
    obtain ⟨k, rfl, hk, hno, hb⟩ := hrel
    by_cases hlt : k < ins.length
    · obtain ⟨b, off, Ak, ck, rfl, hbB, hr, hxo, _, _, _⟩ := InsAt.range (InsAt.below HII.out (hb.out.mono hBI)) hlt
      have i1 : (0 : Int) ≤ (k : Int) := by omega
      have i2 : (k : Int) < (ins.length : Int) := by omega
      have HNX := Lib.hid (fun h => any_snoc hlt (fun x : Txs.In => l.any fun y => decide (y = x.hash)) hno.out h)
      have HYE := Lib.hid (fun (h : (l.any fun y => decide (y = ins[k].hash)) = true) => (List.any_eq_true.2 ⟨ins[k], List.getElem_mem hlt, h⟩ : ins.any (fun x => l.any fun y => decide (y = x.hash)) = true))
      have HCL := Lib.hid (clo_in l A c B q ins[k] hxo (.slice Ak ins[k].key.length ck) wr (At.below HI.out (hb.out.mono hB)) (Nat.le_trans hB hb.out.size) hl ((hb.out.cell (p := ⟨q, 0, none⟩) hql).trans HQ.out))
      have HL := Lib.hid (inCells_len hxo (.slice Ak ins[k].key.length ck))
      have HR := Lib.hid hr
      have HK1 := Lib.hid (show k + 1 ≤ ins.length from hlt)
      generalize inCells ins[k] (.slice Ak ins[k].key.length ck) = cs at *
      generalize (l.any fun y => decide (y = ins[k].hash)) = d at *
      clear hr hxo
      cases d with
      | true =>
        have HY := Lib.hid (HYE.out rfl)
        go_wp2_with (refine wpList_load_mid rfl 91 (.tmp 14) rfl b (off + k * 34) (by rfl) cs _ HR.out Tryd.underlying91 rfl (by rw [HL.out]; exact size_in) ?_)
        refine HCL.out.mono ?_
        rintro e w2 ⟨rfl, hb2⟩
        have HB2 := Lib.hid (hb.out.trans (hb2.mono hb.out.size))
        clear hb2
        go_wp2_with fail
        go_ret
        exact ⟨_, rfl, by rw [HY.out, decide_eq_true_iff]; exact i1, HB2.out⟩
      | false =>
        have HN := Lib.hid (HNX.out rfl)
        go_wp2_with (refine wpList_load_mid rfl 91 (.tmp 14) rfl b (off + k * 34) (by rfl) cs _ HR.out Tryd.underlying91 rfl (by rw [HL.out]; exact size_in) ?_)
        refine HCL.out.mono ?_
        rintro e w2 ⟨rfl, hb2⟩
        have HB2 := Lib.hid (hb.out.trans (hb2.mono hb.out.size))
        clear hb2
        go_wp2_with fail
        go_roundw
        case rel => exact ⟨k + 1, by go_num, HK1.out, HN, HB2⟩
        case measure => have := HK1.out; simp [intOf]; omega
    · have hkl : k = ins.length := by omega
      have HF := Lib.hid (show ins.any (fun x => l.any fun y => decide (y = x.hash)) = false by have := hno.out; rwa [hkl, List.take_of_length_le (Nat.le_refl _)] at this)
      go_wp2_with fail
      go_ret
      exact ⟨_, rfl, by rw [HF.out]; rfl, hb.out⟩
theorem containsf_any (l : List (List UInt8)) (A : Option Addr) (c B q : Nat) (ins : List Txs.In) (AI : Option Addr) (cI BI : Nat) (w : World) (h : HashesAt w B A l) (hB : B ≤ w.heap.size) (hl : l.length ≤ 1000000) (hq : w.cell? ⟨q, 0, none⟩ = some (.slice A l.length c))
    (hi : InsAt w BI AI ins) (hBI : BI ≤ w.heap.size) (hni : ins.length ≤ 9223372036854775807) :
    Calls Tryd.prog 53 #[.slice AI ins.length cI, .func (.func 54) #[] #[.pointer (some ⟨q, 0, none⟩)]] w fun e w' =>
      e = .returned (.bool (ins.any fun x => l.any fun y => decide (y = x.hash))) ∧ Below w.heap.size w w' := by
  have HC := Lib.hid (indexf_any l A c B q ins AI cI BI w h hB hl hq hi hBI hni)
  clear h hi hq
  go_enter Tryd.func53, Tryd.ntmps53
  go_wp2_with fail
  refine HC.out.mono ?_
  rintro e w2 ⟨r, rfl, hr, hb2⟩
  have HR := Lib.hid hr
  have HB2 := Lib.hid hb2
  clear hr hb2
  go_wp2_with fail
  go_ret
  exact ⟨ret_bool HR.out, HB2.out⟩
theorem ent_cell {w : World} {e : Ent} {i o : Value} {t : Nat} {g : Nat} (h : Bk w g t (entCells e i o).toArray) (hl : e.id.length = 32) : w.cell? ⟨g, 0, none⟩ = some (.int .i64 e.src) ∧ w.cell? ⟨g, 2, none⟩ = some i ∧ w.cell? ⟨g, 36, none⟩ = some (.int .u64 (e.fin : Int)) := by
  refine ⟨(h.cell 0).trans rfl, (h.cell 2).trans rfl, ?_⟩
  rw [h.cell 36]
  simp only [List.getElem?_toArray, entCells]
  rw [show 36 = 32 + 1 + 1 + 1 + 1 by omega]
  simp only [List.getElem?_cons_succ]
  rw [List.getElem?_append_right (by rw [List.length_map, hl]; omega), List.length_map, hl]
  rfl
/-- what a question asks of one that waits -/
def Asks (T : Nat → Prop) (w : World) (g : Nat) (lb : Array Value) (p : Ent → Bool) : Prop :=
  ∀ W, Below w.heap.size w W → ∀ x : EP, PairOk T W x → Calls Tryd.prog g (#[.agg (entPair x).toArray] ++ lb) W fun e w' => e = .returned (.bool (p x.1)) ∧ Below W.heap.size W w'
theorem asks_take (T : Nat → Prop) (l : List (List UInt8)) (A : Option Addr) (c B q : Nat) (w : World) (h : HashesAt w B A l) (hB : B ≤ w.heap.size) (hl : l.length ≤ 1000000) (hq : w.cell? ⟨q, 0, none⟩ = some (.slice A l.length c)) :
    Asks T w 52 #[.pointer (some ⟨q, 0, none⟩)] fun x => spends l x.tx := by
  intro W hW x hx
  have hql : q < w.heap.size := World.block_lt_of_cell? w ⟨q, 0, none⟩ hq
  obtain ⟨w1, hw1⟩ : ∃ w1, w1 = W.alloc (.cells (entPair x).toArray 96) := ⟨_, rfl⟩
  have hb1 : Below W.heap.size W w1 := by rw [hw1]; exact Joins.below_alloc1 _ _
  have HB1 := Lib.hid hb1
  have hbw : Below w.heap.size w w1 := hW.trans (hb1.mono hW.size)
  have q1 : w1.cell? ⟨q, 0, none⟩ = some (.slice A l.length c) := (hbw.cell (p := ⟨q, 0, none⟩) hql).trans hq
  obtain ⟨_, c2, _⟩ := ent_cell (by rw [hw1]; exact Bk.new _ _ _ : Bk w1 W.heap.size 96 (entPair x).toArray) hx.1.1
  obtain ⟨AI, cI, A', c', h1, h2, h3⟩ := hx.2
  have hT := h3 w1 (Kp.of_below hb1)
  have HC := Lib.hid (containsf_any l A c B q x.1.tx.ins AI cI w1.heap.size w1 (At.below h (hbw.mono hB)) (Nat.le_trans hB hbw.size) hl q1 hT.ins (Nat.le_refl _) (by have h1 := hT.ic; have h2 := hT.im; unfold maxLen at h2; omega))
  rw [h1] at c2
  show Calls _ _ _ _ fun e w' => e = .returned (.bool (x.1.tx.ins.any fun y => l.any fun z => decide (z = y.hash))) ∧ _
  generalize x.1.tx.ins.any (fun y => l.any fun z => decide (z = y.hash)) = d at *
  generalize (entPair x).toArray = cs at *
  clear hx hW hb1 hbw q1 h1 h2 h3 hT h
  go_enter Tryd.func52, Tryd.ntmps52
  go_upto_region 1 with (fail)
  rw [← hw1]
  clear hw1
  go_wp2_with fail
  refine HC.out.mono ?_
  rintro e w2 ⟨rfl, hb2⟩
  have HB2 := Lib.hid (HB1.out.trans (hb2.mono HB1.out.size))
  clear hb2
  go_wp2_with fail
  go_ret
  exact ⟨rfl, HB2.out⟩
theorem asks_leave (T : Nat → Prop) (src : Int) (q : Nat) (w : World) (hq : w.cell? ⟨q, 0, none⟩ = some (.int .i64 src)) :
    Asks T w 50 #[.pointer (some ⟨q, 0, none⟩)] fun x => decide (x.src = src) := by
  intro W hW x hx
  have hql : q < w.heap.size := World.block_lt_of_cell? w ⟨q, 0, none⟩ hq
  obtain ⟨w1, hw1⟩ : ∃ w1, w1 = W.alloc (.cells (entPair x).toArray 96) := ⟨_, rfl⟩
  have HB1 := Lib.hid (show Below W.heap.size W w1 by rw [hw1]; exact Joins.below_alloc1 _ _)
  have q1 : w1.cell? ⟨q, 0, none⟩ = some (.int .i64 src) := (HB1.out.cell (p := ⟨q, 0, none⟩) (Nat.lt_of_lt_of_le hql hW.size)).trans ((hW.cell (p := ⟨q, 0, none⟩) hql).trans hq)
  obtain ⟨c0, _, _⟩ := ent_cell (by rw [hw1]; exact Bk.new _ _ _ : Bk w1 W.heap.size 96 (entPair x).toArray) hx.1.1
  show Calls _ _ _ _ fun e w' => e = .returned (.bool (decide (x.1.src = src))) ∧ _
  generalize x.1.src = s at *
  generalize (entPair x).toArray = cs at *
  clear hx hq hW
  go_enter Tryd.func50, Tryd.ntmps50
  go_upto_region 1 with (fail)
  rw [← hw1]
  clear hw1
  go_wp2_with fail
  go_ret
  exact ⟨ret_bool (by rw [Bool.eq_iff_iff, beq_iff_eq, decide_eq_true_iff]), HB1.out⟩
theorem asks_expire (T : Nat → Prop) (now : Nat) (q : Nat) (w : World) (hq : w.cell? ⟨q, 0, none⟩ = some (.int .u64 (now : Int))) :
    Asks T w 51 #[.pointer (some ⟨q, 0, none⟩)] fun x => decide (x.fin ≤ now) := by
  intro W hW x hx
  have hql : q < w.heap.size := World.block_lt_of_cell? w ⟨q, 0, none⟩ hq
  obtain ⟨w1, hw1⟩ : ∃ w1, w1 = W.alloc (.cells (entPair x).toArray 96) := ⟨_, rfl⟩
  have HB1 := Lib.hid (show Below W.heap.size W w1 by rw [hw1]; exact Joins.below_alloc1 _ _)
  have q1 : w1.cell? ⟨q, 0, none⟩ = some (.int .u64 (now : Int)) := (HB1.out.cell (p := ⟨q, 0, none⟩) (Nat.lt_of_lt_of_le hql hW.size)).trans ((hW.cell (p := ⟨q, 0, none⟩) hql).trans hq)
  obtain ⟨_, _, c36⟩ := ent_cell (by rw [hw1]; exact Bk.new _ _ _ : Bk w1 W.heap.size 96 (entPair x).toArray) hx.1.1
  show Calls _ _ _ _ fun e w' => e = .returned (.bool (decide (x.1.fin ≤ now))) ∧ _
  generalize x.1.fin = s at *
  generalize (entPair x).toArray = cs at *
  clear hx hq hW
  go_enter Tryd.func51, Tryd.ntmps51
  go_upto_region 1 with (fail)
  rw [← hw1]
  clear hw1
  go_wp2_with fail
  go_ret
  exact ⟨ret_bool (by rw [decide_eq_decide]), HB1.out⟩
end Go.Proofs.YtacbibflhdmcoaaDoor.O14
/- Add in plain Lean, and where it refuses. -/
namespace Go.Proofs.YtacbibflhdmcoaaDoor.O14
open Go.RowKit Go.Deep T7
set_option linter.unusedVariables false
set_option linter.unusedSimpArgs false
set_option maxRecDepth 100000
set_option maxHeartbeats 1000000
attribute [local go_sem ↓] Go.wp_at_zero Go.wp_at_succ

/-- one that comes now -/
def entOf (src : Int) (t : Txs.Tx) (now : Nat) : Ent := ⟨src, t, Txs.id t, min (now + 300) 18446744073709551615⟩
def hasId (es : List Ent) (id : List UInt8) : Bool := es.any fun x => decide (x.id = id)
/-- Add's error -/
def addErr (es : List Ent) (t : Txs.Tx) : Int := if Txs.check t = 0 then (if hasId es (Txs.id t) then 10 else 0) else Txs.check t
/-- who waits behind Add, who went for it -/
def addEs (es : List Ent) (src : Int) (t : Txs.Tx) (now : Nat) : List Ent :=
  if addErr es t = 0 then (if es.length < 8 then es ++ [entOf src t now] else (es ++ [entOf src t now]).drop 1) else es
def addGone (es : List Ent) (t : Txs.Tx) : List (List UInt8) := if addErr es t = 0 then (if es.length < 8 then [] else (es.take 1).map Ent.id) else []
theorem entOf_ok {src : Int} {t : Txs.Tx} {now : Nat} (h : t.Ok) : (entOf src t now).Ok := ⟨id_len t, by show min _ _ < _; omega, h⟩
theorem PoolAt.kp' {T T' S : Nat → Prop} {w w' : World} {O base : Nat} {v : Value} {es : List Ent} (h : PoolAt T w O base v es) (hb : Below w.heap.size w w') (ht : ∀ i, i < w.heap.size → T' i → T i) (hT : T' O) (hT2 : ∀ i, v.ownBlock = some i → T' i) : PoolAt T' w' O base v es :=
  h.kp (Kp.of_below (S := fun _ => False) hb) (fun h => h) (fun _ _ h => h) (fun _ _ h => h.elim) ht hT hT2
theorem Txs.idErr_of {t : Txs.Tx} (h : Txs.check t = 0) : Txs.idErr t = 0 := by unfold Txs.idErr; rw [if_pos (Txs.check_ok h).1]
/-- the blocks that change behind an act -/
def Tn (T : Nat → Prop) (w : World) (v : Value) : Nat → Prop := fun i => (T i ∧ i < w.heap.size) ∨ v.ownBlock = some i
/-- what Add leaves -/
def AddTo (T : Nat → Prop) (w : World) (O base : Nat) (v : Value) (es : List Ent) (gone : List (List UInt8)) (err : Int) (e : Ending) (w' : World) : Prop :=
  ∃ A1 c1 v', e = .returned (.tuple #[.slice A1 gone.length c1, .int .i64 err]) ∧ gone.length ≤ c1 ∧ c1 ≤ maxLen ∧ HashesAt w' w'.heap.size A1 gone ∧ PoolAt (Tn T w v') w' O base v' es ∧
    (v'.ownBlock = v.ownBlock ∨ ∃ g, v'.ownBlock = some g ∧ w.heap.size ≤ g) ∧ Kp (fun i => i = O ∨ v.ownBlock = some i) w w'
theorem AddTo.same {T : Nat → Prop} {w : World} {O base : Nat} {v : Value} {es : List Ent} {err : Int} {w' : World} (h : PoolAt T w O base v es) (hb : Below w.heap.size w w') :
    AddTo T w O base v es [] err (.returned (.tuple #[.slice none 0 0, .int .i64 err])) w' :=
  ⟨none, 0, v, rfl, Nat.le_refl _, by unfold maxLen; omega, fun i hi => by simp at hi, h.kp' (S := fun _ => False) hb (fun i _ h' => h'.elim (fun h => h.1) (h.tv i)) (.inl ⟨h.tO, h.bk.lt⟩) (fun i hi => .inr hi), .inl rfl, Kp.of_below hb⟩
theorem add_bad (T : Nat → Prop) (es : List Ent) (O base : Nat) (v : Value) (src : Int) (t : Txs.Tx) (A A' : Option Addr) (c c' B : Nat) (now : Nat) (w : World) (h : PoolAt T w O base v es) (ht : TxAt w B t A c A' c') (hB : B ≤ w.heap.size) (hc : Txs.check t ≠ 0) :
    Calls Tryd.prog 25 #[.pointer (some ⟨O, 0, none⟩), .int .i64 src, txV t A c A' c', .int .u64 (now : Int)] w (AddTo T w O base v es [] (Txs.check t)) := by
  have HP := Lib.hid h
  have HC := Lib.hid (check7_any t A A' c c' B)
  have HT := Lib.hid ht
  clear h ht
  unfold txV at HC ⊢
  obtain ⟨k, hk⟩ : ∃ k, k = Txs.check t := ⟨_, rfl⟩
  rw [← hk] at HC hc ⊢
  clear hk
  go_enter Tryd.func25, Tryd.ntmps25
  go_wp2_with fail
  refine (HC.out _ (HT.out.below ((Joins.below_alloc1 w _).mono hB)) (by simp; omega)).mono ?_
  rintro e w3 ⟨rfl, hb3⟩
  have HB3 := Lib.hid ((Joins.below_alloc1 w (.cells #[.int .u32 (t.version : Int), .slice A t.ins.length c, .slice A' t.outs.length c'] 35)).trans (hb3.mono (by simp)))
  clear hb3
  go_wp2_with fail
  go_ret2
  exact AddTo.same HP.out HB3.out
theorem add_there (T : Nat → Prop) (es : List Ent) (O base : Nat) (v : Value) (src : Int) (t : Txs.Tx) (A A' : Option Addr) (c c' B : Nat) (now : Nat) (w : World) (hlay : Laid w) (h : PoolAt T w O base v es) (ht : TxAt w B t A c A' c') (hB : B ≤ w.heap.size) (hc : Txs.check t = 0)
    (hh : hasId es (Txs.id t) = true) (hn : es.length ≤ 1000) :
    Calls Tryd.prog 25 #[.pointer (some ⟨O, 0, none⟩), .int .i64 src, txV t A c A' c', .int .u64 (now : Int)] w (AddTo T w O base v es [] 10) := by
  have HP := Lib.hid h
  have HC := Lib.hid (fun W h1 h2 => hc ▸ check7_any t A A' c c' B W h1 h2)
  have hic := Txs.idErr_of hc
  have HI := Lib.hid (fun W (hl : Laid W) h1 h2 => hic ▸ id_any t A A' c c' B W hl h1 h2)
  have HT := Lib.hid ht
  have HLY := Lib.hid hlay
  obtain ⟨id, hid'⟩ : ∃ id, id = Txs.id t := ⟨_, rfl⟩
  have HIL := Lib.hid (show id.length = 32 by rw [hid']; exact id_len t)
  have HII := Lib.hid hid'
  rw [← hid'] at HI hh
  obtain ⟨ia, hia⟩ : ∃ ia, ia = bytesArr id := ⟨_, rfl⟩
  have HIA := Lib.hid hia
  have HIS := Lib.hid (show ia.size = 32 by rw [hia]; simp [bytesArr, HIL.out])
  have HI1 := Lib.hid (show ia.all (·.oneCell') = true by rw [hia]; simp [bytesArr, Value.oneCell', byteV])
  rw [← hia] at HI
  have HHAS := Lib.hid (show ∀ W, PoolAt T W O base v es → Calls Tryd.prog 23 #[.pointer (some ⟨O, 0, none⟩), .agg ia] W fun e w' => e = .returned (.bool true) ∧ Below W.heap.size W w' from fun W hp => by
    have := has_any T es O base v id HIL.out W hp hn
    rw [show (es.any fun x => decide (x.id = id)) = true from hh] at this
    rw [hia]
    exact this)
  obtain ⟨zs, hzs⟩ : ∃ zs, zs = bytesArr (List.replicate 32 (0 : UInt8)) := ⟨_, rfl⟩
  have HZ := Lib.hid (show (Tryd.prog.info? 54).map (·.zero) = some (some (.agg zs)) by rw [hzs]; exact zero_hash)
  have HZL := Lib.hid (show zs.size = 32 by rw [hzs]; simp [bytesArr])
  clear h ht hc hic hlay hid' hia hh hzs
  unfold txV at HC HI ⊢
  go_enter Tryd.func25, Tryd.ntmps25
  go_wp2_with fail
  refine (HC.out _ (HT.out.below ((Joins.below_alloc1 w _).mono hB)) (by simp; omega)).mono ?_
  rintro e w3 ⟨rfl, hb3⟩
  have HB3 := Lib.hid ((Joins.below_alloc1 w (.cells #[.int .u32 (t.version : Int), .slice A t.ins.length c, .slice A' t.outs.length c'] 35)).trans (hb3.mono (by simp)))
  have HK3 := Lib.hid (Bk.below (Bk.new w 35 #[.int .u32 (t.version : Int), .slice A t.ins.length c, .slice A' t.outs.length c']) hb3 (by simp))
  have k0 : w3.cell? ⟨w.heap.size, 0, none⟩ = some (.int .u32 (t.version : Int)) := (HK3.out.cell 0).trans rfl
  have k1 : w3.cell? ⟨w.heap.size, 1, none⟩ = some (.slice A t.ins.length c) := (HK3.out.cell 1).trans rfl
  have k2 : w3.cell? ⟨w.heap.size, 2, none⟩ = some (.slice A' t.outs.length c') := (HK3.out.cell 2).trans rfl
  have hz3 : w.heap.size + 1 ≤ w3.heap.size := by have := hb3.size; simpa using this
  clear hb3
  go_wp2_with fail
  refine (HI.out _ (HLY.out.below HB3.out) (HT.out.below (HB3.out.mono hB)) (by omega)).mono ?_
  rintro e w4 ⟨rfl, hb4⟩
  have HB4 := Lib.hid (HB3.out.trans (hb4.mono (by omega)))
  have HK4 := Lib.hid (HK3.out.below hb4 (by omega))
  have hz4 : w.heap.size + 1 ≤ w4.heap.size := by have := hb4.size; omega
  clear hb4 k0 k1 k2 HK3 HC HI
  go_upto_region 7 with (first
    | (refine wpList_allocOf rfl 54 rfl zs HZ.out ?_)
    | (refine wpList_store_row rfl 54 (.tmp 11) (.tmp 24) rfl w4.heap.size ia (by rfl) (by rfl) 54 zs ?hg (by rw [HIS.out]; exact size_hash) (by rw [HIS.out]; exact HZL.out) HI1.out ?_))
  case hg => exact Bk.new _ _ _
  obtain ⟨w5, hw5⟩ : ∃ w5, w5 = (w4.alloc (.cells zs 54)).setRow w4.heap.size ia := ⟨_, rfl⟩
  have HH5 := Lib.hid (show Bk w5 w4.heap.size 54 ia by rw [hw5]; exact setRow_heap _ _ _ _ _ _ (Bk.new w4 _ zs))
  have hb45 : Below w4.heap.size w4 w5 := by rw [hw5]; exact below_setRow ((Below.refl _ _).alloc (Nat.le_refl _) _) (Nat.le_refl _) _
  have hz5 : w5.heap.size = w4.heap.size + 1 := by rw [hw5]; simp [World.setRow]
  have HB5 := Lib.hid (HB4.out.trans (hb45.mono (by omega)))
  have HK5 := Lib.hid (HK4.out.below hb45 (by omega))
  obtain ⟨H, hH⟩ : ∃ H, H = w4.heap.size := ⟨_, rfl⟩
  rw [← hw5]
  rw [← hH] at HH5 hz5 hz4 ⊢
  clear hw5 hb45 HK4 hH
  go_wp2_with (refine wpList_load_row rfl 54 (.tmp 11) rfl H (by rfl) 54 ia (0, 0) _ HH5.out Tryd.underlying54 rfl (by rw [HIS.out]; exact size_hash) ?_)
  have HP5 := Lib.hid (HP.out.kp' (S := fun _ => False) HB5.out (T' := T) (fun _ _ h => h) HP.out.tO HP.out.tv)
  refine (HHAS.out _ HP5.out).mono ?_
  rintro e w6 ⟨rfl, hb6⟩
  have HB6 := Lib.hid (HB5.out.trans (hb6.mono (by omega)))
  clear hb6
  go_wp2_with fail
  go_ret2
  exact AddTo.same HP.out HB6.out
end Go.Proofs.YtacbibflhdmcoaaDoor.O14
/- out: those for which a question is answered yes go. -/
namespace Go.Proofs.YtacbibflhdmcoaaDoor.O14
open Go.RowKit Go.Deep T7
set_option linter.unusedVariables false
set_option linter.unusedSimpArgs false
set_option maxRecDepth 100000
set_option maxHeartbeats 2000000
attribute [local go_sem ↓] Go.wp_at_zero Go.wp_at_succ

def gone (p : Ent → Bool) (ps : List EP) : List EP := ps.filter fun x => p x.1
def left (p : Ent → Bool) (ps : List EP) : List EP := ps.filter fun x => !p x.1
theorem gone_snoc_yes {p : Ent → Bool} {ps : List EP} {k : Nat} (hk : k < ps.length) (h : p ps[k].1 = true) : gone p (ps.take (k + 1)) = gone p (ps.take k) ++ [ps[k]] ∧ left p (ps.take (k + 1)) = left p (ps.take k) := by
  rw [List.take_succ_eq_append_getElem hk]
  unfold gone left
  rw [List.filter_append, List.filter_append]
  simp [h]
theorem gone_snoc_no {p : Ent → Bool} {ps : List EP} {k : Nat} (hk : k < ps.length) (h : p ps[k].1 = false) : gone p (ps.take (k + 1)) = gone p (ps.take k) ∧ left p (ps.take (k + 1)) = left p (ps.take k) ++ [ps[k]] := by
  rw [List.take_succ_eq_append_getElem hk]
  unfold gone left
  rw [List.filter_append, List.filter_append]
  simp [h]
theorem gone_len (p : Ent → Bool) (ps : List EP) (k : Nat) : (gone p (ps.take k)).length ≤ k ∧ (left p (ps.take k)).length ≤ k := by
  have h1 := List.length_filter_le (fun x : EP => p x.1) (ps.take k)
  have h2 := List.length_filter_le (fun x : EP => !p x.1) (ps.take k)
  rw [List.length_take] at h1 h2
  unfold gone left
  omega
theorem own_mono {w : World} {base base' : Nat} {e : TypeId} {size : Nat} {v : Value} {n : Nat} {xs : List Value} (h : w.ownsRow base e size v n xs) (hb : base' ≤ base) : w.ownsRow base' e size v n xs := by
  refine ⟨h.1, ?_⟩
  rcases h.2 with h | ⟨g, cap, cur, hv, hbg, r⟩
  · exact .inl h
  · exact .inr ⟨g, cap, cur, hv, Nat.le_trans hb hbg, r⟩
/-- what out leaves -/
def OutTo (T : Nat → Prop) (w : World) (O base : Nat) (v : Value) (ps : List EP) (p : Ent → Bool) (e : Ending) (w' : World) : Prop :=
  ∃ vg vr, e = .returned vg ∧ RowP w' w.heap.size vg (gone p ps) ∧ (∀ x ∈ gone p ps, PairOk (Tn T w vr) w' x) ∧ PoolP (Tn T w vr) w' O base vr (left p ps) ∧ (∀ i, vg.ownBlock = some i → vr.ownBlock ≠ some i) ∧
    (∀ i, vr.ownBlock = some i → w.heap.size ≤ i) ∧ Kp (fun i => i = O) w w'
theorem out_any (T : Nat → Prop) (ps : List EP) (O base : Nat) (v : Value) (g : Nat) (lb : Array Value) (eg : ∀ args w, (callFunc g args).run Tryd.prog w = .ok (.enter g args) w) (p : Ent → Bool) (w : World) (h : PoolP T w O base v ps) (hbase : base ≤ w.heap.size) (hn : ps.length ≤ 1000)
    (ha : Asks T w g lb p) :
    Calls Tryd.prog 49 #[.pointer (some ⟨O, 0, none⟩), .func (.func g) #[] lb] w (OutTo T w O base v ps p) := by
  obtain ⟨n, hn'⟩ : ∃ n, n = ps.length := ⟨_, rfl⟩
  obtain ⟨AV, cV, hv, hvc, hvm, hrg⟩ := h.row.range h.all
  have HRG := Lib.hid hrg
  rw [← hn'] at hv hn
  subst hv
  have HN := Lib.hid hn'
  have HP := Lib.hid h
  have HA := Lib.hid ha
  have c0 : w.cell? ⟨O, 0, none⟩ = some (.slice AV n cV) := (h.bk.cell 0).trans rfl
  have hOl : O < w.heap.size := h.bk.lt
  obtain ⟨ie, hi, hz0, hz1, hz2⟩ := info_parts ent_info
  have Ii := Lib.hid hi
  have Iz := Lib.hid hz0
  have Iz1 := Lib.hid hz1
  have Iz2 := Lib.hid hz2
  obtain ⟨w1, hmk, hown1, hg1⟩ := run_makeSlice_owned (P := Tryd.prog) w w.heap.size 80 96 ie _ 37 Tryd.underlying80 hi hz0 hz1 .i64 .i64 n (by omega) (by rw [hz2]; omega) (by unfold maxLen; omega) (Nat.le_refl _)
  have hZL := zeroEnt_len
  have hZE := zero_ent
  clear hi hz0 hz1 hz2 hrg h ha hn'
  generalize (entCells ⟨0, Txs.none, List.replicate 32 0, 0⟩ (.slice none 0 0) (.slice none 0 0)).toArray = ze at hZL Iz hZE hmk
  have HZEL := Lib.hid hZL
  have HIZ := Lib.hid hZE
  have hb1 : Below w.heap.size w w1 := ⟨hg1.os, hg1.tape, hg1.output, hg1.size, fun i hi => hg1.block i hi (by simp)⟩
  have HB1 := Lib.hid hb1
  have HOWN1 := Lib.hid hown1
  have HO1 := Lib.hid (HP.out.bk.below hb1 hOl)
  have c1 : w1.cell? ⟨O, 0, none⟩ = some (.slice AV n cV) := (HO1.out.cell 0).trans rfl
  clear hZL hZE hown1 hg1 hb1
  go_enter Tryd.func49, Tryd.ntmps49
  go_wp2_with fail
  have hz0 : w.heap.size ≤ w1.heap.size := HB1.out.size
  clear c0 c1 hmk
  go_loopw [5, 6, 22] (fun vg vr iv wr => ∃ (k ng nr : Nat), iv = .int .i64 (k : Int) ∧ k ≤ n ∧ Hid (ng = (gone p (ps.take k)).length) ∧ Hid (nr = (left p (ps.take k)).length) ∧ Hid (wr.ownsRow w.heap.size 96 37 vg ng ((gone p (ps.take k)).flatMap entPair)) ∧
    Hid (wr.ownsRow w.heap.size 96 37 vr nr ((left p (ps.take k)).flatMap entPair)) ∧ Hid (∀ i, vg.ownBlock = some i → vr.ownBlock ≠ some i) ∧ Hid (Below w.heap.size w wr)) (fun _ _ iv _ => n - (intOf iv).toNat)
  case atStart => exact ⟨0, 0, 0, rfl, Nat.zero_le _, Lib.hid rfl, Lib.hid rfl, Lib.hid (by rw [List.take_zero]; exact World.ownsRow_nil _ _ _ _), Lib.hid (by rw [List.take_zero]; exact HOWN1.out), Lib.hid (fun i h => by simp [Value.ownBlock] at h), HB1⟩
  case round =>
    obtain ⟨k, ng, nr, rfl, hk, hng, hnr, hog, hor, hdis, hb⟩ := hrel
    obtain ⟨hgl, hrl⟩ := gone_len p ps k
    rw [← hng.out] at hgl
    rw [← hnr.out] at hrl
    obtain ⟨Ag, cg, rfl, _⟩ := own_form hog.out
    obtain ⟨Ar, cr, rfl, _⟩ := own_form hor.out
    by_cases hlt : k < n
    · have hlt1 : k < ps.length := by rw [← HN.out]; exact hlt
      obtain ⟨b, rfl, hbb, hbl, hr⟩ := HRG.out k hlt1
      have hpk : PairOk T w ps[k] := HP.out.all _ (List.getElem_mem hlt1)
      have HR := Lib.hid (rangeAt_below hr hb.out hbl)
      have HL := Lib.hid hpk.len
      have HONE := Lib.hid hpk.one
      have HPK := Lib.hid (show ∀ W, Below w.heap.size w W → PairOk T W ps[k] from fun W hW => hpk.step (S := fun _ => False) (Kp.of_below hW) (fun _ _ h => h.elim) (fun _ _ h => h))
      have HYES := Lib.hid (gone_snoc_yes (p := p) hlt1)
      have HNO := Lib.hid (gone_snoc_no (p := p) hlt1)
      have HASK := Lib.hid (fun W hW => HA.out W hW ps[k])
      have i1 : (0 : Int) ≤ (k : Int) := by omega
      have i2 : (k : Int) < (n : Int) := by omega
      generalize ps[k] = x at *
      obtain ⟨q, hq⟩ : ∃ q, q = p x.1 := ⟨_, rfl⟩
      rw [← hq] at HYES HNO HASK
      clear hq
      have HENT := Lib.hid (show entPair x = entPair x from rfl)
      generalize hcs : entPair x = cs at *
      clear hr hpk
      obtain ⟨wx, hwx⟩ : ∃ wx, wx = wr.alloc (.cells cs.toArray 96) := ⟨_, rfl⟩
      have HX := Lib.hid (show Bk wx wr.heap.size 96 cs.toArray by rw [hwx]; exact Bk.new _ _ _)
      have HBX := Lib.hid (show Below w.heap.size w wx by rw [hwx]; exact hb.out.alloc hb.out.size _)
      have hwx' : Below wr.heap.size wr wx := by rw [hwx]; exact Joins.below_alloc1 _ _
      have HBRX := Lib.hid hwx'
      have hzx : wr.heap.size < wx.heap.size := HX.out.lt
      have hzr := hb.out.size
      clear hwx'
      go_upto_region 8 with (refine wpList_elem rfl rfl rfl 96 (.tmp 24) (.tmp 8) (.tmp 25) rfl rfl rfl b (k * 37) (by rfl) cs _ HR.out Tryd.underlying96 rfl (by rw [HL.out]; exact size_ent) ze HIZ.out (by rw [HZEL.out, HL.out]) HONE.out (by rfl) (by rfl) ?_)
      rw [← hwx]
      clear hwx
      cases q with
      | true =>
        go_wp2_with (refine wpList_load_row rfl 96 (.tmp 8) rfl wr.heap.size (by rfl) 96 cs.toArray (0, 0) _ HX.out Tryd.underlying96 rfl (by rw [List.size_toArray, HL.out]; exact size_ent) ?_)
        refine (HASK.out wx HBX.out (HPK.out wx HBX.out)).mono ?_
        rintro e w2 ⟨rfl, hb2⟩
        have HX2 := Lib.hid (HX.out.below hb2 hzx)
        have HBX2 := Lib.hid hb2
        have HB2 := Lib.hid (HBX.out.trans (hb2.mono (by omega)))
        have hz2 := hb2.size
        clear hb2
        go_wp2_with (first
          | (refine wpList_load_row rfl 96 (.tmp 8) rfl wr.heap.size (by rfl) 96 cs.toArray (0, 0) _ HX2.out Tryd.underlying96 rfl (by rw [List.size_toArray, HL.out]; exact size_ent) ?_)
          | (refine wpList_buildOne rfl 80 96 (.tmp 30) rfl cs.toArray (by rfl) Tryd.underlying80 (by simp only [List.size_toArray, HL.out]; exact size_ent) ze HIZ.out (by simp only [List.size_toArray, HL.out]; omega) (by simp only [List.size_toArray, HL.out]; omega) ?_)
          | (at_builtin; refine wpList_app _ rfl (.tmp 29) (.tmp 31) _ rfl w.heap.size 96 ie _ 37 104 Tryd.underlying80 Ii.out Iz.out Iz1.out Iz2.out HZEL.out (by decide) (.slice Ag ng cg) ng _ (by rfl) (own_below (own_below (own_below hog.out HBRX.out) HBX2.out) (Joins.below_alloc1 _ _)) (some ⟨w2.heap.size, 0, none⟩) 1 1 cs (by rfl) (by rw [HL.out]) (Src.new _ _ _) HONE.out (by unfold maxLen; omega) (by omega) (by simp; omega) ?_; intro v' w' hrow' hg' hat'; have HRW := Lib.hid hrow'; have HGR := Lib.hid hg'; have HAT := Lib.hid hat'; clear hrow' hg' hat'))
        have hkg : Kp (fun i => (Value.slice Ag ng cg).ownBlock = some i) (w2.alloc (.cells cs.toArray 96)) w' := (Kp.refl _ _).grown HGR.out (fun i h _ => h)
        have hkr : Kp (fun i => (Value.slice Ag ng cg).ownBlock = some i) wr w' := ((Kp.of_below HBRX.out).trans ((Kp.of_below HBX2.out).trans ((Kp.refl _ _).alloc _))).trans hkg
        have HKR := Lib.hid hkr
        have hown1 := own_lt hog.out
        have hown2 := own_lt hor.out
        have HLT1 := Lib.hid hown1
        have HLT2 := Lib.hid hown2
        have hszw : (w2.alloc (.cells cs.toArray 96)).heap.size = w2.heap.size + 1 := by simp
        have HSZ := Lib.hid hszw
        clear hkg hkr hown1 hown2 hszw
        go_roundw
        case rel =>
          have hs := HSZ.out
          have hat := HAT.out
          have hfresh : ∀ i, v'.ownBlock = some i → (Value.slice Ar nr cr).ownBlock ≠ some i := by
            intro i hi h'
            rcases hat with e | e
            · exact hdis.out i (e.symm.trans hi) h'
            · have := Option.some.inj (e.symm.trans hi)
              have := (HLT2.out i h').2
              omega
          have hbelow : Below w.heap.size w w' := Kp.from_elder hb.out HKR.out (fun i hi h => by have := (HLT1.out i h).1; omega)
          obtain ⟨y1, y2⟩ := HYES.out (by simp)
          refine ⟨k + 1, ng + 1, nr, by go_num, by omega, Lib.hid (by rw [y1, List.length_append, ← hng.out]; rfl), Lib.hid (by rw [y2]; exact hnr.out), Lib.hid (by rw [y1, List.flatMap_append, List.flatMap_singleton, hcs]; exact HRW.out), Lib.hid (by rw [y2]; exact own_kpo hor.out HKR.out (fun i hi h => hdis.out i h hi)), Lib.hid hfresh, Lib.hid hbelow⟩
        case measure => simp [intOf]; omega
      | false =>
        go_wp2_with (refine wpList_load_row rfl 96 (.tmp 8) rfl wr.heap.size (by rfl) 96 cs.toArray (0, 0) _ HX.out Tryd.underlying96 rfl (by rw [List.size_toArray, HL.out]; exact size_ent) ?_)
        refine (HASK.out wx HBX.out (HPK.out wx HBX.out)).mono ?_
        rintro e w2 ⟨rfl, hb2⟩
        have HX2 := Lib.hid (HX.out.below hb2 hzx)
        have HBX2 := Lib.hid hb2
        have HB2 := Lib.hid (HBX.out.trans (hb2.mono (by omega)))
        have hz2 := hb2.size
        clear hb2
        go_wp2_with (first
          | (refine wpList_load_row rfl 96 (.tmp 8) rfl wr.heap.size (by rfl) 96 cs.toArray (0, 0) _ HX2.out Tryd.underlying96 rfl (by rw [List.size_toArray, HL.out]; exact size_ent) ?_)
          | (refine wpList_buildOne rfl 80 96 (.tmp 34) rfl cs.toArray (by rfl) Tryd.underlying80 (by simp only [List.size_toArray, HL.out]; exact size_ent) ze HIZ.out (by simp only [List.size_toArray, HL.out]; omega) (by simp only [List.size_toArray, HL.out]; omega) ?_)
          | (at_builtin; refine wpList_app _ rfl (.tmp 33) (.tmp 35) _ rfl w.heap.size 96 ie _ 37 104 Tryd.underlying80 Ii.out Iz.out Iz1.out Iz2.out HZEL.out (by decide) (.slice Ar nr cr) nr _ (by rfl) (own_below (own_below (own_below hor.out HBRX.out) HBX2.out) (Joins.below_alloc1 _ _)) (some ⟨w2.heap.size, 0, none⟩) 1 1 cs (by rfl) (by rw [HL.out]) (Src.new _ _ _) HONE.out (by unfold maxLen; omega) (by omega) (by simp; omega) ?_; intro v' w' hrow' hg' hat'; have HRW := Lib.hid hrow'; have HGR := Lib.hid hg'; have HAT := Lib.hid hat'; clear hrow' hg' hat'))
        have hkg : Kp (fun i => (Value.slice Ar nr cr).ownBlock = some i) (w2.alloc (.cells cs.toArray 96)) w' := (Kp.refl _ _).grown HGR.out (fun i h _ => h)
        have hkr : Kp (fun i => (Value.slice Ar nr cr).ownBlock = some i) wr w' := ((Kp.of_below HBRX.out).trans ((Kp.of_below HBX2.out).trans ((Kp.refl _ _).alloc _))).trans hkg
        have HKR := Lib.hid hkr
        have hown1 := own_lt hor.out
        have hown2 := own_lt hog.out
        have HLT1 := Lib.hid hown1
        have HLT2 := Lib.hid hown2
        have hszw : (w2.alloc (.cells cs.toArray 96)).heap.size = w2.heap.size + 1 := by simp
        have HSZ := Lib.hid hszw
        clear hkg hkr hown1 hown2 hszw
        go_roundw
        case rel =>
          have hs := HSZ.out
          have hat := HAT.out
          have hfresh : ∀ i, v'.ownBlock = some i → (Value.slice Ag ng cg).ownBlock ≠ some i := by
            intro i hi h'
            rcases hat with e | e
            · exact hdis.out i h' (e.symm.trans hi)
            · have := Option.some.inj (e.symm.trans hi)
              have := (HLT2.out i h').2
              omega
          have hbelow : Below w.heap.size w w' := Kp.from_elder hb.out HKR.out (fun i hi h => by have := (HLT1.out i h).1; omega)
          obtain ⟨y1, y2⟩ := HNO.out (by simp)
          refine ⟨k + 1, ng, nr + 1, by go_num, by omega, Lib.hid (by rw [y1]; exact hng.out), Lib.hid (by rw [y2, List.length_append, ← hnr.out]; rfl), Lib.hid (by rw [y1]; exact own_kpo hog.out HKR.out (fun i hi h => hdis.out i hi h)), Lib.hid (by rw [y2, List.flatMap_append, List.flatMap_singleton, hcs]; exact HRW.out), Lib.hid (fun i hi h' => hfresh i h' hi), Lib.hid hbelow⟩
        case measure => simp [intOf]; omega
    · obtain rfl : k = n := by omega
      have ht : ps.take k = ps := List.take_of_length_le (by rw [← HN.out]; exact Nat.le_refl _)
      rw [ht] at hng hnr hog hor
      have HOr := Lib.hid (HP.out.bk.below hb.out hOl)
      have c2 : wr.cell? ⟨O, 0, none⟩ = some (.slice AV k cV) := (HOr.out.cell 0).trans rfl
      have f2 := HOr.out.frozen 0
      go_wp2_with fail
      obtain ⟨wz, hwz⟩ : ∃ wz, wz = wr.setCell ⟨O, 0, none⟩ (.slice Ar nr cr) := ⟨_, rfl⟩
      have hk : Kp (fun i => i = O) wr wz := by rw [hwz]; exact kp_cell1 _ _ _ _
      have hO : Bk wz O 82 #[.slice Ar nr cr] := by rw [hwz]; exact HOr.out.set 0 _
      rw [← hwz]
      go_ret
      have hkw : Kp (fun i => i = O) w wz := (Kp.of_below hb.out).trans hk
      have hlg := own_lt hog.out
      have hlr := own_lt hor.out
      have hpo : ∀ x ∈ ps, PairOk (Tn T w (.slice Ar nr cr)) wz x := fun x hx => (HP.out.all x hx).step hkw (fun i _ h => h ▸ HP.out.tO) (fun i hi h => h.elim (fun h => h.1) (fun h => by have := (hlr i h).1; omega))
      refine ⟨_, _, rfl, ?_, fun x hx => hpo x ((List.mem_filter.1 hx).1), ⟨hO, ?_, fun x hx => hpo x ((List.mem_filter.1 hx).1), fun e => by have := (hlr _ e).1; omega, .inl ⟨HP.out.tO, hOl⟩, fun i hi => .inr hi⟩, hdis.out, fun i hi => (hlr i hi).1, hkw⟩
      · unfold RowP
        rw [← hng.out]
        exact own_kpo hog.out hk (fun i hi h => by have := (hlg i hi).1; omega)
      · unfold RowP
        rw [← hnr.out]
        exact own_mono (own_kpo hor.out hk (fun i hi h => by have := (hlr i hi).1; omega)) hbase
end Go.Proofs.YtacbibflhdmcoaaDoor.O14
/- Leave and Expire. -/
namespace Go.Proofs.YtacbibflhdmcoaaDoor.O14
open Go.RowKit Go.Deep T7
set_option linter.unusedVariables false
set_option linter.unusedSimpArgs false
set_option maxRecDepth 100000
set_option maxHeartbeats 2000000
attribute [local go_sem ↓] Go.wp_at_zero Go.wp_at_succ

theorem gone_fst (p : Ent → Bool) (ps : List EP) : (gone p ps).map (·.1) = (ps.map (·.1)).filter p := by
  unfold gone; rw [List.filter_map]; rfl
theorem left_fst (p : Ent → Bool) (ps : List EP) : (left p ps).map (·.1) = (ps.map (·.1)).filter fun x => !p x := by
  unfold left; rw [List.filter_map]; rfl
theorem PoolP.kp {T T' S : Nat → Prop} {w w' : World} {O base : Nat} {v : Value} {ps : List EP} (h : PoolP T w O base v ps) (hk : Kp S w w') (hO : ¬ S O) (hv : ∀ i, v.ownBlock = some i → ¬ S i)
    (hs : ∀ i, i < w.heap.size → S i → T i) (ht : ∀ i, i < w.heap.size → T' i → T i) (hT : T' O) (hT2 : ∀ i, v.ownBlock = some i → T' i) : PoolP T' w' O base v ps :=
  ⟨h.bk.kp hk hO, h.row.kp hk hv, fun p hp => (h.all p hp).step hk hs ht, h.ne, hT, hT2⟩
theorem Tn.up {T : Nat → Prop} {w W : World} {v : Value} (h : w.heap.size ≤ W.heap.size) {i : Nat} (hi : Tn T w v i) : Tn T W v i := hi.elim (fun h' => .inl ⟨h'.1, by omega⟩) .inr
/-- ids of those that went; those that stayed -/
def OutIds (T : Nat → Prop) (w : World) (O base : Nat) (es : List Ent) (p : Ent → Bool) (e : Ending) (w' : World) : Prop :=
  ∃ vi v', e = .returned vi ∧ IdsAt w.heap.size w' vi ((es.filter p).map Ent.id) ∧ PoolAt (Tn T w v') w' O base v' (es.filter fun x => !p x) ∧
    (∀ i, v'.ownBlock = some i → w.heap.size ≤ i) ∧ Kp (fun i => i = O) w w'
theorem ids_of_out {T : Nat → Prop} {w W w2 : World} {vg vr : Value} {ps : List EP} {p : Ent → Bool} (hB : Below w.heap.size w W) (hg : RowP w2 W.heap.size vg (gone p ps)) (hga : ∀ x ∈ gone p ps, PairOk (Tn T W vr) w2 x) (hn : ps.length ≤ 1000) :
    ∃ A c, vg = .slice A ((ps.map (·.1)).filter p).length c ∧ Calls Tryd.prog 41 #[.slice A ((ps.map (·.1)).filter p).length c] w2 fun e w' => ∃ A1 c1, e = .returned (.slice A1 ((ps.map (·.1)).filter p).length c1) ∧ IdsAt w2.heap.size w' (.slice A1 ((ps.map (·.1)).filter p).length c1) (((ps.map (·.1)).filter p).map Ent.id) ∧ Below w2.heap.size w2 w' := by
  have h := (RowE.of_pairs hg hga).at_
  rw [gone_fst] at h
  obtain ⟨A, c, hv, _, _, hat⟩ := h
  refine ⟨A, c, hv, ids_any _ A c w2.heap.size w2 (At.imp hat fun _ _ h => h.e0) (Nat.le_refl _) ?_⟩
  have := List.length_filter_le p (ps.map (·.1))
  rw [List.length_map] at this
  omega
theorem out_end {T : Nat → Prop} {w W w2 w3 : World} {O base : Nat} {vr : Value} {ps : List EP} {p : Ent → Bool} (hB : Below w.heap.size w W) (hp : PoolP (Tn T W vr) w2 O base vr (left p ps)) (hr : ∀ i, vr.ownBlock = some i → W.heap.size ≤ i) (hk : Kp (fun i => i = O) W w2) (h3 : Below w2.heap.size w2 w3) (hO : O < w.heap.size) (hTO : T O) :
    PoolAt (Tn T w vr) w3 O base vr ((ps.map (·.1)).filter fun x => !p x) ∧ (∀ i, vr.ownBlock = some i → w.heap.size ≤ i) ∧ Kp (fun i => i = O) w w3 := by
  have hs := hB.size
  refine ⟨?_, fun i hi => Nat.le_trans hs (hr i hi), ((Kp.of_below hB).trans_of hk fun _ _ h => h).trans (Kp.of_below h3)⟩
  rw [← left_fst]
  exact (hp.kp (S := fun _ => False) (Kp.of_below h3) (fun h => h) (fun _ _ h => h) (fun _ _ h => h.elim) (fun i _ h => h.up hs) (.inl ⟨hTO, hO⟩) (fun i hi => .inr hi)).at_
theorem leave_any (T : Nat → Prop) (es : List Ent) (O base : Nat) (v : Value) (src : Int) (w : World) (h : PoolAt T w O base v es) (hbase : base ≤ w.heap.size) (hn : es.length ≤ 1000) :
    Calls Tryd.prog 28 #[.pointer (some ⟨O, 0, none⟩), .int .i64 src] w (OutIds T w O base es fun x => decide (x.src = src)) := by
  obtain ⟨ps, hps, hpp⟩ := h.pairs
  subst hps
  have hO : O < w.heap.size := h.bk.lt
  have hTO := h.tO
  obtain ⟨w1, hw1⟩ : ∃ w1, w1 = w.alloc (.cells #[.int .i64 src] 3) := ⟨_, rfl⟩
  have hb1 : Below w.heap.size w w1 := by rw [hw1]; exact Joins.below_alloc1 _ _
  have hz1 : w1.heap.size = w.heap.size + 1 := by rw [hw1]; simp
  have hc1 : w1.cell? ⟨w.heap.size, 0, none⟩ = some (.int .i64 src) := by rw [hw1]; exact ((Bk.new w 3 #[.int .i64 src]).cell 0).trans rfl
  have hp1 : PoolP T w1 O base v ps := hpp.kp (S := fun _ => False) (Kp.of_below hb1) (fun h => h) (fun _ _ h => h) (fun _ _ h => h.elim) (fun _ _ h => h) hpp.tO hpp.tv
  have HC := Lib.hid (out_any T ps O base v 50 #[.pointer (some ⟨w.heap.size, 0, none⟩)] (enters_of Tryd.func50 (by kernel_rfl) rfl) _ w1 hp1 (by omega) (by simpa using hn) (asks_leave T src w.heap.size w1 hc1))
  have HB1 := Lib.hid hb1
  have hn' : ps.length ≤ 1000 := by simpa using hn
  clear h hpp hb1 hc1 hp1
  go_enter Tryd.func28, Tryd.ntmps28
  go_upto_region 1 with (fail)
  rw [← hw1]
  clear hw1
  go_wp2_with fail
  refine HC.out.mono ?_
  rintro e w2 ⟨vg, vr, rfl, h1, h2, h3, h4, h5, h6⟩
  obtain ⟨A, c, hvg, hcal⟩ := ids_of_out HB1.out h1 h2 hn'
  subst hvg
  have HCAL := Lib.hid hcal
  have HEND := Lib.hid (fun w3 (hb : Below w2.heap.size w2 w3) => out_end HB1.out h3 h5 h6 hb hO hTO)
  have hz2 : w.heap.size ≤ w2.heap.size := by have := h6.size; omega
  clear h1 h2 h3 h4 h5 h6 hcal
  go_wp2_with fail
  refine HCAL.out.mono ?_
  rintro e w3 ⟨A1, c1, rfl, h3, h4⟩
  go_wp2_with fail
  go_ret
  obtain ⟨g1, g2, g3⟩ := HEND.out _ h4
  exact ⟨_, vr, rfl, ⟨h3.1, own_mono h3.2 hz2⟩, g1, g2, g3⟩
theorem expire_any (T : Nat → Prop) (es : List Ent) (O base : Nat) (v : Value) (now : Nat) (w : World) (h : PoolAt T w O base v es) (hbase : base ≤ w.heap.size) (hn : es.length ≤ 1000) :
    Calls Tryd.prog 29 #[.pointer (some ⟨O, 0, none⟩), .int .u64 (now : Int)] w (OutIds T w O base es fun x => decide (x.fin ≤ now)) := by
  obtain ⟨ps, hps, hpp⟩ := h.pairs
  subst hps
  have hO : O < w.heap.size := h.bk.lt
  have hTO := h.tO
  obtain ⟨w1, hw1⟩ : ∃ w1, w1 = w.alloc (.cells #[.int .u64 (now : Int)] 37) := ⟨_, rfl⟩
  have hb1 : Below w.heap.size w w1 := by rw [hw1]; exact Joins.below_alloc1 _ _
  have hz1 : w1.heap.size = w.heap.size + 1 := by rw [hw1]; simp
  have hc1 : w1.cell? ⟨w.heap.size, 0, none⟩ = some (.int .u64 (now : Int)) := by rw [hw1]; exact ((Bk.new w 37 #[.int .u64 (now : Int)]).cell 0).trans rfl
  have hp1 : PoolP T w1 O base v ps := hpp.kp (S := fun _ => False) (Kp.of_below hb1) (fun h => h) (fun _ _ h => h) (fun _ _ h => h.elim) (fun _ _ h => h) hpp.tO hpp.tv
  have HC := Lib.hid (out_any T ps O base v 51 #[.pointer (some ⟨w.heap.size, 0, none⟩)] (enters_of Tryd.func51 (by kernel_rfl) rfl) _ w1 hp1 (by omega) (by simpa using hn) (asks_expire T now w.heap.size w1 hc1))
  have HB1 := Lib.hid hb1
  have hn' : ps.length ≤ 1000 := by simpa using hn
  clear h hpp hb1 hc1 hp1
  go_enter Tryd.func29, Tryd.ntmps29
  go_upto_region 1 with (fail)
  rw [← hw1]
  clear hw1
  go_wp2_with fail
  refine HC.out.mono ?_
  rintro e w2 ⟨vg, vr, rfl, h1, h2, h3, h4, h5, h6⟩
  obtain ⟨A, c, hvg, hcal⟩ := ids_of_out HB1.out h1 h2 hn'
  subst hvg
  have HCAL := Lib.hid hcal
  have HEND := Lib.hid (fun w3 (hb : Below w2.heap.size w2 w3) => out_end HB1.out h3 h5 h6 hb hO hTO)
  have hz2 : w.heap.size ≤ w2.heap.size := by have := h6.size; omega
  clear h1 h2 h3 h4 h5 h6 hcal
  go_wp2_with fail
  refine HCAL.out.mono ?_
  rintro e w3 ⟨A1, c1, rfl, h3, h4⟩
  go_wp2_with fail
  go_ret
  obtain ⟨g1, g2, g3⟩ := HEND.out _ h4
  exact ⟨_, vr, rfl, ⟨h3.1, own_mono h3.2 hz2⟩, g1, g2, g3⟩
end Go.Proofs.YtacbibflhdmcoaaDoor.O14
/- Take. -/
namespace Go.Proofs.YtacbibflhdmcoaaDoor.O14
open Go.RowKit Go.Deep T7
set_option linter.unusedVariables false
set_option linter.unusedSimpArgs false
set_option maxRecDepth 100000
set_option maxHeartbeats 2000000
attribute [local go_sem ↓] Go.wp_at_zero Go.wp_at_succ

/-- who brought it, and what -/
def waitPair (p : EP) : List Value := [.int .i64 p.1.src, .int .u32 (p.1.tx.version : Int), p.2.1, p.2.2]
def RowW (w : World) (base : Nat) (v : Value) (qs : List EP) : Prop := w.ownsRow base 52 4 v qs.length (qs.flatMap waitPair)
theorem wait_info : (Tryd.prog.info? 52).map (fun i => (i.zero, i.size, i.bytes)) = some (some (.agg #[.int .i64 0, .int .u32 0, .slice none 0 0, .slice none 0 0]), 4, 64) := by kernel_rfl
theorem size_wait : (Tryd.prog.info? 52).map (·.size) = some 4 := by kernel_rfl
theorem zero_wait : (Tryd.prog.info? 52).map (·.zero) = some (some (.agg #[.int .i64 0, .int .u32 0, .slice none 0 0, .slice none 0 0])) := by kernel_rfl
theorem PairOk.wone {T : Nat → Prop} {w : World} {p : EP} (h : PairOk T w p) : ∀ u ∈ waitPair p, u.oneCell' = true := by
  obtain ⟨A1, n1, c1, A2, n2, c2, h1, h2⟩ := h.form
  unfold waitPair
  rw [h1, h2]
  intro u hu
  simp only [List.mem_cons, List.not_mem_nil, or_false] at hu
  rcases hu with rfl | rfl | rfl | rfl <;> rfl
theorem wait_head (p : EP) : entPair p = waitPair p ++ (p.1.id.map byteV ++ [.int .u64 (p.1.fin : Int)]) := by
  unfold entPair entCells waitPair; simp
/-- what Take leaves -/
def TakeTo (T : Nat → Prop) (w : World) (O base : Nat) (es : List Ent) (p : Ent → Bool) (e : Ending) (w' : World) : Prop :=
  ∃ vt v' qs, e = .returned vt ∧ RowW w' w.heap.size vt qs ∧ (∀ x ∈ qs, PairOk (Tn T w v') w' x) ∧ qs.map (·.1) = es.filter p ∧ PoolAt (Tn T w v') w' O base v' (es.filter fun x => !p x) ∧
    (∀ i, v'.ownBlock = some i → w.heap.size ≤ i) ∧ Kp (fun i => i = O) w w'
theorem take_any (T : Nat → Prop) (es : List Ent) (O base : Nat) (v : Value) (l : List (List UInt8)) (A : Option Addr) (c B : Nat) (w : World) (h : PoolAt T w O base v es) (hbase : base ≤ w.heap.size) (hn : es.length ≤ 1000) (hl : HashesAt w B A l) (hB : B ≤ w.heap.size) (hll : l.length ≤ 1000000) :
    Calls Tryd.prog 30 #[.pointer (some ⟨O, 0, none⟩), .slice A l.length c] w (TakeTo T w O base es fun x => spends l x.tx) := by
  obtain ⟨ps, hps, hpp⟩ := h.pairs
  subst hps
  have hO : O < w.heap.size := h.bk.lt
  have hTO := h.tO
  obtain ⟨w1, hw1⟩ : ∃ w1, w1 = w.alloc (.cells #[.slice A l.length c] 36) := ⟨_, rfl⟩
  have hb1 : Below w.heap.size w w1 := by rw [hw1]; exact Joins.below_alloc1 _ _
  have hz1 : w1.heap.size = w.heap.size + 1 := by rw [hw1]; simp
  have hc1 : w1.cell? ⟨w.heap.size, 0, none⟩ = some (.slice A l.length c) := by rw [hw1]; exact ((Bk.new w 36 #[.slice A l.length c]).cell 0).trans rfl
  have hp1 : PoolP T w1 O base v ps := hpp.kp (S := fun _ => False) (Kp.of_below hb1) (fun h => h) (fun _ _ h => h) (fun _ _ h => h.elim) (fun _ _ h => h) hpp.tO hpp.tv
  have HC := Lib.hid (out_any T ps O base v 52 #[.pointer (some ⟨w.heap.size, 0, none⟩)] (enters_of Tryd.func52 (by kernel_rfl) rfl) _ w1 hp1 (by omega) (by simpa using hn) (asks_take T l A c B w.heap.size w1 (At.below hl (hb1.mono hB)) (by omega) hll hc1))
  have HB1 := Lib.hid hb1
  have hn' : ps.length ≤ 1000 := by simpa using hn
  obtain ⟨iw, hi, hz0, hz1', hz2⟩ := info_parts wait_info
  have Ii := Lib.hid hi
  have Iz := Lib.hid hz0
  have Iz1 := Lib.hid hz1'
  have Iz2 := Lib.hid hz2
  have hZW := zero_wait
  generalize (#[.int .i64 0, .int .u32 0, .slice none 0 0, .slice none 0 0] : Array Value) = zw at Iz hZW
  have HZW := Lib.hid hZW
  have HZWL := Lib.hid (show zw.size = 4 by
    have := zero_wait
    rw [this] at hZW
    simp only [Option.some.injEq, Value.agg.injEq] at hZW
    rw [← hZW]; rfl)
  have hZE := zero_ent
  have hZL := zeroEnt_len
  generalize (entCells ⟨0, Txs.none, List.replicate 32 0, 0⟩ (.slice none 0 0) (.slice none 0 0)).toArray = ze at hZE hZL
  have HZE := Lib.hid hZE
  have HZEL := Lib.hid hZL
  clear h hpp hb1 hc1 hp1 hi hz0 hz1' hz2 hZW hZE hZL hl
  go_enter Tryd.func30, Tryd.ntmps30
  go_upto_region 1 with (fail)
  rw [← hw1]
  clear hw1
  go_wp2_with fail
  refine HC.out.mono ?_
  rintro e w2 ⟨vg, vr, rfl, h1, h2, h3, h4, h5, h6⟩
  obtain ⟨ps', hqs⟩ : ∃ qs, qs = gone (fun x => spends l x.tx) ps := ⟨_, rfl⟩
  rw [← hqs] at h1 h2
  obtain ⟨Ag, cg, hvg, hcg, _, hrg⟩ := h1.range h2
  subst hvg
  obtain ⟨n, hnn⟩ : ∃ n, n = ps'.length := ⟨_, rfl⟩
  have hn3 : n ≤ 1000 := by
    rw [hnn, hqs]
    have := (gone_len (fun x => spends l x.tx) ps ps.length).1
    rw [List.take_of_length_le (Nat.le_refl _)] at this
    omega
  have HQS := Lib.hid hqs
  have HN := Lib.hid hnn
  have HRG := Lib.hid hrg
  have HALL := Lib.hid h2
  have hz2 : w1.heap.size ≤ w2.heap.size := h6.size
  have HEND := Lib.hid (fun w3 (hb : Below w2.heap.size w2 w3) => out_end HB1.out h3 h5 h6 hb hO hTO)
  rw [← hnn]
  clear h1 h2 h3 h4 h5 h6 hqs hnn hrg HC
  go_wp2_with fail
  go_loopw [5, 12] (fun vt iv wr => ∃ k : Nat, iv = .int .i64 (k : Int) ∧ k ≤ n ∧ Hid (wr.ownsRow w.heap.size 52 4 vt k ((ps'.take k).flatMap waitPair)) ∧ Hid (∀ i, vt.ownBlock = some i → w2.heap.size ≤ i) ∧ Hid (Below w2.heap.size w2 wr)) (fun _ iv _ => n - (intOf iv).toNat)
  case atStart => exact ⟨0, rfl, Nat.zero_le _, Lib.hid (by rw [List.take_zero]; exact World.ownsRow_nil _ _ _ _), Lib.hid (fun i hi => by simp [Value.ownBlock] at hi), Lib.hid (Below.refl _ _)⟩
  case round =>
    obtain ⟨k, rfl, hk, hrow, hge, hb⟩ := hrel
    obtain ⟨At, ct, rfl, _⟩ := own_form hrow.out
    have hzr := hb.out.size
    by_cases hlt : k < n
    · have hlt1 : k < ps'.length := by rw [← HN.out]; exact hlt
      obtain ⟨b, rfl, hbb, hbl, hr⟩ := HRG.out k hlt1
      have hpk := HALL.out _ (List.getElem_mem hlt1)
      have HR := Lib.hid (rangeAt_below hr hb.out hbl)
      have HL := Lib.hid hpk.len
      have HONE := Lib.hid hpk.one
      have HWONE := Lib.hid hpk.wone
      have HWH := Lib.hid (wait_head ps'[k])
      have HTK := Lib.hid (List.take_succ_eq_append_getElem hlt1)
      have i1 : (0 : Int) ≤ (k : Int) := by omega
      have i2 : (k : Int) < (n : Int) := by omega
      generalize ps'[k] = x at *
      have HWL := Lib.hid (show (waitPair x).length = 4 from rfl)
      obtain ⟨ws, hws⟩ : ∃ ws, ws = waitPair x := ⟨_, rfl⟩
      rw [← hws] at HWONE HWH HWL
      generalize entPair x = cs at *
      obtain ⟨wx, hwx⟩ : ∃ wx, wx = wr.alloc (.cells cs.toArray 96) := ⟨_, rfl⟩
      have HX := Lib.hid (show wx.rangeAt wr.heap.size 0 ws from range_head (by have := bk_range (Bk.new wr 96 cs.toArray); rw [← hwx, HWH.out] at this; exact this))
      have HBX := Lib.hid (show Below w2.heap.size w2 wx by rw [hwx]; exact hb.out.alloc hb.out.size _)
      have HBRX := Lib.hid (show Below wr.heap.size wr wx by rw [hwx]; exact Joins.below_alloc1 _ _)
      have hzx : wx.heap.size = wr.heap.size + 1 := by rw [hwx]; simp
      have HWS := Lib.hid hws
      clear hr hpk hws
      go_upto_region 5 with (refine wpList_elem rfl rfl rfl 96 (.tmp 14) (.tmp 7) (.tmp 15) rfl rfl rfl b (k * 37) (by rfl) cs _ HR.out Tryd.underlying96 rfl (by rw [HL.out]; exact size_ent) ze HZE.out (by rw [HZEL.out, HL.out]) HONE.out (by rfl) (by rfl) ?_)
      rw [← hwx]
      clear hwx
      go_wp2_with (first
        | (refine wpList_load_mid rfl 52 (.tmp 17) rfl wr.heap.size 0 (by rfl) ws _ HX.out Tryd.underlying52 rfl (by rw [HWL.out]; exact size_wait) ?_)
        | (refine wpList_buildOne rfl 40 52 (.tmp 18) rfl ws.toArray (by rfl) Tryd.underlying40 (by simp only [List.size_toArray, HWL.out]; exact size_wait) zw HZW.out (by simp only [List.size_toArray, HWL.out]; omega) (by simp only [List.size_toArray, HWL.out]; omega) ?_)
        | (at_builtin; refine wpList_app _ rfl (.tmp 16) (.tmp 19) _ rfl w.heap.size 52 iw _ 4 64 Tryd.underlying40 Ii.out Iz.out Iz1.out Iz2.out HZWL.out (by decide) (.slice At k ct) k _ (by rfl) (own_below (own_below hrow.out HBRX.out) (Joins.below_alloc1 _ _)) (some ⟨wx.heap.size, 0, none⟩) 1 1 ws (by rfl) (by rw [HWL.out]) (Src.new _ _ _) HWONE.out (by unfold maxLen; omega) (by omega) (by simp; omega) ?_; intro v' w' hrow' hg' hat'; have HRW := Lib.hid hrow'; have HGR := Lib.hid hg'; have HAT := Lib.hid hat'; clear hrow' hg' hat'))
      have hsz : (wx.alloc (.cells ws.toArray 52)).heap.size = wx.heap.size + 1 := by simp
      have HSZ := Lib.hid hsz
      have hkr : Kp (fun i => (Value.slice At k ct).ownBlock = some i) wr w' := ((Kp.of_below HBRX.out).trans ((Kp.refl _ _).alloc _)).trans ((Kp.refl _ _).grown HGR.out (fun i h _ => h))
      have HKR := Lib.hid hkr
      clear hkr hsz
      go_roundw
      case rel =>
        refine ⟨k + 1, by go_num, by omega, Lib.hid (by rw [HTK.out, List.flatMap_append, List.flatMap_singleton, ← HWS.out]; exact HRW.out), Lib.hid (fun i hi => ?_), Lib.hid (Kp.from_elder hb.out HKR.out (fun i hi h => by have := hge.out i h; omega))⟩
        rcases HAT.out with e | e
        · exact hge.out i (e.symm.trans hi)
        · have := Option.some.inj (e.symm.trans hi)
          have := HSZ.out
          omega
      case measure => simp [intOf]; omega
    · obtain rfl : k = n := by omega
      have ht : ps'.take k = ps' := List.take_of_length_le (by rw [← HN.out]; exact Nat.le_refl _)
      rw [ht] at hrow
      go_wp2_with fail
      go_ret
      obtain ⟨g1, g2, g3⟩ := HEND.out _ hb.out
      refine ⟨_, vr, ps', rfl, by unfold RowW; rw [← HN.out]; exact hrow.out, fun x hx => (HALL.out x hx).step (S := fun _ => False) (Kp.of_below hb.out) (fun _ _ h => h.elim) (fun i _ h => h.up (by omega)), by rw [HQS.out, gone_fst], g1, g2, g3⟩
end Go.Proofs.YtacbibflhdmcoaaDoor.O14
