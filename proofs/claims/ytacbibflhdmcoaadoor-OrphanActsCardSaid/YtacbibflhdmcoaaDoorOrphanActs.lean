/- OrphanActs, merged: OrphDO, OrphanActs. -/
import Derived.Test.YtacbibflhdmcoaaDoorOrphDQ
import Derived.Test.YtacbibflhdmcoaaDoorTxBuilt
import Derived.Test.YtacbibflhdmcoaaDoorOrphC
import Derived.Test.YtacbibflhdmcoaaDoorOrphB
import Derived.Deep.CutBlock
/- The document's Add, where it lets one wait. -/
namespace Go.Proofs.YtacbibflhdmcoaaDoor.O14
open Go.RowKit Go.Deep T7
set_option linter.unusedVariables false
set_option linter.unusedSimpArgs false
set_option maxRecDepth 100000
set_option maxHeartbeats 4000000
attribute [local go_sem ↓] Go.wp_at_zero Go.wp_at_succ

theorem DRow.src {w : World} {A : Option Addr} {n c : Nat} {ps : List EP} (h : DRow w (.slice A n c) ps) (hl : ∀ p ∈ ps, (dPair p).length = 37) : Src w A (ps.flatMap dPair) := by
  obtain ⟨A', c', hv, _, _, hr⟩ := h
  injection hv with hv _ _
  subst hv
  intro j u hu
  have hlen : (ps.flatMap dPair).length = ps.length * 37 := flatMap_len ps hl
  have hj : j < (ps.flatMap dPair).length := (List.getElem?_eq_some_iff.1 hu).1
  have hd : j / 37 < ps.length := by omega
  obtain ⟨b, off, hA, _, hc⟩ := hr (j / 37) hd
  have e := flatMap_index ps hl (j / 37) hd (j % 37) (by omega)
  rw [show j / 37 * 37 + j % 37 = j by omega, hu] at e
  refine ⟨_, hA, ?_⟩
  have := hc (j % 37) u e.symm
  rw [show off + j / 37 * 37 + j % 37 = off + j by omega] at this
  have e2 : (⟨b, off, none⟩ : Addr).add j = ⟨b, off + j, none⟩ := by unfold Addr.add; split <;> simp_all
  rw [e2]
  exact this
theorem built_dent (e : Ent) (A1 A2 : Option Addr) (n c n' c' : Nat) (h : e.id.length = 32) : Tryd.prog.built 56 [(0, .agg (e.id.map byteV).toArray), (1, .int .i64 e.src), (2, .agg #[.int .u32 (e.tx.version : Int), .slice A1 n c, .slice A2 n' c']), (3, .int .u64 (e.fin : Int))] = some (dCells e (.slice A1 n c) (.slice A2 n' c')).toArray := by
  obtain ⟨src, tx, id, fin⟩ := e
  exact list32 (P := fun id => Tryd.prog.built 56 [(0, .agg (id.map byteV).toArray), (1, .int .i64 src), (2, .agg #[.int .u32 (tx.version : Int), .slice A1 n c, .slice A2 n' c']), (3, .int .u64 (fin : Int))] = some (dCells ⟨src, tx, id, fin⟩ (.slice A1 n c) (.slice A2 n' c')).toArray) (fun b0 b1 b2 b3 b4 b5 b6 b7 b8 b9 b10 b11 b12 b13 b14 b15 b16 b17 b18 b19 b20 b21 b22 b23 b24 b25 b26 b27 b28 b29 b30 b31 => by kernel_rfl) id h
section
variable {P : Program} {ops : Array Oper}
/-- an empty slice literal -/
theorem step_buildNone {o : Oper} {a : Go.Act} {w : World} {K : Go.Act → World → Prop} {Q : Exit → Go.Act → World → Prop} {E : Prop} (hw : Region.wanted o (yielded ops a.tmps) = true) (t e : TypeId) (ho : o.op = .buildSlice t 0 #[])
    (hu : P.underlying t = some (.slice e)) (hi : (P.info? e).isSome = true) (h : K (a.put o.dst (.slice (some ⟨w.heap.size, 0, none⟩) 0 0)) (w.alloc (.cells #[] e))) : if Region.wanted o (yielded ops a.tmps) = true then Oper.wp P o a w K Q else E := by
  obtain ⟨ie, hie⟩ := Option.isSome_iff_exists.1 hi
  have hr : (Instr.buildSlice t 0 #[]).run P w = .ok (.slice (some ⟨w.heap.size, 0, none⟩) 0 0) (w.alloc (.cells #[] e)) := by
    have h0 : Array.map (fun _ : Nat => (default : Value)) (Array.range 0) = #[] := Array.eq_empty_of_size_eq_zero (by simp)
    simp [Instr.buildSlice, run_underlying hu, sizeOf, typeInfo, hie, Instr.fill, newRow, h0]
  rw [if_pos hw]
  unfold Oper.wp execOp
  simp only [ho, Sem.run_bind, List.map_toArray, List.map_nil, hr, Result.andThen_ok]
  exact h
end
theorem src_bk {w : World} {q t : Nat} {cs : List Value} (h : Bk w q t cs.toArray) : Src w (some ⟨q, 0, none⟩) cs := by
  intro j u hu
  refine ⟨_, rfl, ?_⟩
  have e : (⟨q, 0, none⟩ : Addr).add j = ⟨q, j, none⟩ := by unfold Addr.add; split <;> simp_all
  rw [e, h.cell]
  simpa using hu
theorem src_below0 {w w' : World} {A : Option Addr} {xs : List Value} (h : Src w A xs) (hb : Below w.heap.size w w') : Src w' A xs := by
  intro j u hu
  obtain ⟨ad, hA, hc⟩ := h j u hu
  exact ⟨ad, hA, (hb.cell (p := ad.add j) (World.block_lt_of_cell? w _ hc)).trans hc⟩
theorem dpairs_one {D : Nat} {w : World} {ps : List EP} (h : ∀ p ∈ ps, DOk D w p) : ∀ u ∈ ps.flatMap dPair, u.oneCell' = true := by
  intro u hu
  obtain ⟨p, hp, hu⟩ := List.mem_flatMap.1 hu
  exact (h p hp).one u hu
theorem own_none (w : World) (q base : Nat) (T : TypeId) (h : Bk w q T #[]) (hb : base ≤ q) (size : Nat) : w.ownsRow base T size (.slice (some ⟨q, 0, none⟩) 0 0) 0 [] :=
  ⟨by simp, .inr ⟨q, 0, #[], rfl, hb, h, Nat.le_refl _, by simp [maxLen], by simp, by simp⟩⟩
theorem dadd_pool {D : Nat} {w6 w9 w10 : World} {O m c9 : Nat} {v : Value} {A9 : Option Addr} {ps : List EP} {p : EP} (h : DPool D w6 O v ps) (hD : D ≤ w6.heap.size) (hm : m = ps.length) (hk : Kp (fun _ => False) w6 w9) (hrow : w9.ownsRow w6.heap.size 56 37 (.slice A9 (m + 1) c9) (m + 1) (ps.flatMap dPair ++ dPair p))
    (hO : Bk w10 O 30 #[.slice A9 (m + 1) c9]) (hk10 : Kp (fun i => i = O) w9 w10) (hp : DOk D w6 p) : DPool D w10 O (.slice A9 (m + 1) c9) (ps ++ [p]) := by
  have hlt := own_lt hrow
  have hO6 := h.bk.lt
  have hne : ∀ i, (Value.slice A9 (m + 1) c9).ownBlock = some i → i ≠ O := fun i hi e => by have := (hlt i hi).1; omega
  have hk6 : Kp (fun i => i = O) w6 w10 := (hk.mono (T := fun i => i = O) (fun _ _ h => h.elim)).trans hk10
  have hall : ∀ x ∈ ps ++ [p], DOk D w6 x := fun x hx => by
    rcases List.mem_append.1 hx with h' | h'
    · exact h.all x h'
    · rw [List.mem_singleton.1 h']; exact hp
  refine ⟨hO, ?_, fun x hx => (hall x hx).kp hk6 hD (fun i hi e => by have := h.ge; omega), h.ge, fun i hi => ⟨?_, hne i hi, ?_⟩⟩
  · have hr := own_kpo hrow hk10 (fun i hi e => hne i hi e)
    refine DRow.of_own (base := w6.heap.size) ?_ (fun x hx => (hall x hx).len)
    rw [List.flatMap_append, List.flatMap_singleton, List.length_append, ← hm]
    exact hr
  · have := (hlt i hi).1; omega
  · exact Nat.lt_of_lt_of_le (hlt i hi).2 hk10.size
theorem DPool.first {D : Nat} {w : World} {O m c : Nat} {A : Option Addr} {ps : List EP} (h : DPool D w O (.slice A m c) ps) (hpos : 0 < ps.length) :
    ∃ b off, A = some ⟨b, off, none⟩ ∧ b < w.heap.size ∧ w.rangeAt b off (dPair ps[0]) ∧ m = ps.length ∧ m ≤ c ∧ c ≤ maxLen := by
  obtain ⟨A', c', hv, h1, h2, h3⟩ := h.row
  injection hv with e1 e2 e3
  subst e1 e3
  obtain ⟨b, off, hA, hb, hr⟩ := h3 0 hpos
  exact ⟨b, off, hA, hb, by simpa using hr, e2, by omega, h2⟩
theorem DPool.tail {D : Nat} {w w' : World} {O m c b off : Nat} {ps : List EP} (h : DPool D w O (.slice (some ⟨b, off, none⟩) m c) ps) (hD : D ≤ w.heap.size) (hk : Kp (fun i => i = O) w w') (hO : Bk w' O 30 #[.slice (some ⟨b, off + 37, none⟩) (m - 1) (c - 1)]) (hpos : 0 < ps.length) :
    DPool D w' O (.slice (some ⟨b, off + 37, none⟩) (m - 1) (c - 1)) (ps.drop 1) := by
  obtain ⟨A', c', hv, h1, h2, h3⟩ := h.row
  injection hv with e1 e2 e3
  subst e1 e3 e2
  have hbO : b ≠ O := (h.rge b rfl).2.1
  refine ⟨hO, ⟨some ⟨b, off + 37, none⟩, c - 1, by rw [List.length_drop], by rw [List.length_drop]; omega, by omega, fun i hi => ?_⟩, fun x hx => (h.all x (List.mem_of_mem_drop hx)).kp hk hD (fun i hi e => by have := h.ge; omega), h.ge, fun i hi => ?_⟩
  · rw [List.length_drop] at hi
    obtain ⟨b', off', hA, hb, hr⟩ := h3 (1 + i) (by omega)
    injection hA with hA
    injection hA with q1 q2
    subst q1 q2
    refine ⟨b, off + 37, rfl, Nat.lt_of_lt_of_le hb hk.size, fun j u hu => ?_⟩
    rw [List.getElem_drop] at hu
    have := (hk.cell (p := ⟨b, off + (1 + i) * 37 + j, none⟩) hb hbO).trans (hr j u hu)
    rwa [show off + (1 + i) * 37 + j = off + 37 + i * 37 + j by omega] at this
  · obtain ⟨q1, q2, q3⟩ := h.rge i hi
    exact ⟨q1, q2, Nat.lt_of_lt_of_le q3 hk.size⟩
theorem dadd_ok (ps : List EP) (D O : Nat) (v : Value) (src : Int) (t : Txs.Tx) (A A' : Option Addr) (c c' B : Nat) (now : Nat) (w : World) (hlay : Laid w) (h : DPool D w O v ps) (hD : D ≤ w.heap.size) (ht : TxAt w B t A c A' c') (hB : B ≤ w.heap.size) (hBD : B ≤ D) (hnow : now < 18446744073709551616) (hc : Txs.check t = 0)
    (hh : ((ps.map (·.1.id)).any fun x => decide (x = Txs.id t)) = false) (h8 : ps.length ≤ 8) :
    Calls Tryd.prog 13 #[.pointer (some ⟨O, 0, none⟩), .int .i64 src, txV t A c A' c', .int .u64 (now : Int)] w (DAdd D w O v (if ps.length < 8 then ps.map (fun x : EP => x.1) ++ [(⟨src, t, Txs.id t, now⟩ : Ent)] else (ps.map (fun x : EP => x.1) ++ [(⟨src, t, Txs.id t, now⟩ : Ent)]).drop 1) (if ps.length < 8 then [] else ((ps.take 1).map fun x : EP => x.1.id)) 0) := by
  have hn : ps.length ≤ 1000 := by omega
  obtain ⟨af, haf⟩ : ∃ af, af = (if ps.length < 8 then ps.map (fun x : EP => x.1) ++ [(⟨src, t, Txs.id t, now⟩ : Ent)] else (ps.map (fun x : EP => x.1) ++ [(⟨src, t, Txs.id t, now⟩ : Ent)]).drop 1) := ⟨_, rfl⟩
  obtain ⟨gn, hgn⟩ : ∃ gn, gn = (if ps.length < 8 then [] else ((ps.take 1).map fun x : EP => x.1.id)) := ⟨_, rfl⟩
  rw [← haf, ← hgn]
  have HAF := Lib.hid haf
  have HGN := Lib.hid hgn
  clear haf hgn
  have HP := Lib.hid h
  have HC := Lib.hid (fun W h1 h2 => hc ▸ rcheck_any t A A' c c' B W h1 h2)
  have hic := Txs.idErr_of hc
  have HI := Lib.hid (fun W (hl : Laid W) h1 h2 => hic ▸ rid_any t A A' c c' B W hl h1 h2)
  have HT := Lib.hid ht
  have HLY := Lib.hid hlay
  obtain ⟨id, hid'⟩ : ∃ id, id = Txs.id t := ⟨_, rfl⟩
  have HIL := Lib.hid (show id.length = 32 by rw [hid']; exact id_len t)
  have HII := Lib.hid hid'
  rw [← hid'] at HI hh
  obtain ⟨ia, hia⟩ : ∃ ia, ia = bytesArr id := ⟨_, rfl⟩
  have HIA := Lib.hid hia
  have HIS := Lib.hid (show ia.size = 32 by rw [hia]; simp [bytesArr, HIL.out])
  have HI1 := Lib.hid (show ia.all (·.oneCell') = true by rw [hia]; simp [bytesArr, Value.oneCell', byteV])
  rw [← hia] at HI
  have HHAS := Lib.hid (show ∀ W, DPool D W O v ps → D ≤ W.heap.size → Calls Tryd.prog 36 #[.pointer (some ⟨O, 0, none⟩), .agg ia] W fun e w' => e = .returned (.bool false) ∧ Below W.heap.size W w' from fun W hp hd => by
    have := dhas_any ps D O v id HIL.out W hd hp hn
    rw [show ((ps.map (·.1.id)).any fun x => decide (x = id)) = false from hh] at this
    rw [hia]
    exact this)
  obtain ⟨zs, hzs⟩ : ∃ zs, zs = bytesArr (List.replicate 32 (0 : UInt8)) := ⟨_, rfl⟩
  have HZ := Lib.hid (show (Tryd.prog.info? 54).map (·.zero) = some (some (.agg zs)) by rw [hzs]; exact zero_hash)
  have HZL := Lib.hid (show zs.size = 32 by rw [hzs]; simp [bytesArr])
  clear h ht hc hic hlay hid' hia hh hzs
  unfold txV at HC HI ⊢
  go_enter Tryd.func13, Tryd.ntmps13
  go_wp2_with fail
  refine (HC.out _ (HT.out.below ((Joins.below_alloc1 w _).mono hB)) (by simp; omega)).mono ?_
  rintro e w3 ⟨rfl, hb3⟩
  have HB3 := Lib.hid ((Joins.below_alloc1 w (.cells #[.int .u32 (t.version : Int), .slice A t.ins.length c, .slice A' t.outs.length c'] 35)).trans (hb3.mono (by simp)))
  have HK3 := Lib.hid (Bk.below (Bk.new w 35 #[.int .u32 (t.version : Int), .slice A t.ins.length c, .slice A' t.outs.length c']) hb3 (by simp))
  have k0 : w3.cell? ⟨w.heap.size, 0, none⟩ = some (.int .u32 (t.version : Int)) := (HK3.out.cell 0).trans rfl
  have k1 : w3.cell? ⟨w.heap.size, 1, none⟩ = some (.slice A t.ins.length c) := (HK3.out.cell 1).trans rfl
  have k2 : w3.cell? ⟨w.heap.size, 2, none⟩ = some (.slice A' t.outs.length c') := (HK3.out.cell 2).trans rfl
  have hz3 : w.heap.size + 1 ≤ w3.heap.size := by have := hb3.size; simpa using this
  clear hb3
  go_wp2_with fail
  refine (HI.out _ (HLY.out.below HB3.out) (HT.out.below (HB3.out.mono hB)) (by omega)).mono ?_
  rintro e w4 ⟨rfl, hb4⟩
  have HB4 := Lib.hid (HB3.out.trans (hb4.mono (by omega)))
  have HK4 := Lib.hid (HK3.out.below hb4 (by omega))
  have hz4 : w.heap.size + 1 ≤ w4.heap.size := by have := hb4.size; omega
  clear hb4 k0 k1 k2 HK3 HC HI
  go_upto_region 5 with (first
    | (refine wpList_allocOf rfl 54 rfl zs HZ.out ?_)
    | (refine wpList_store_row rfl 54 (.tmp 11) (.tmp 22) rfl w4.heap.size ia (by rfl) (by rfl) 54 zs ?hg (by rw [HIS.out]; exact size_hash) (by rw [HIS.out]; exact HZL.out) HI1.out ?_))
  case hg => exact Bk.new _ _ _
  obtain ⟨w5, hw5⟩ : ∃ w5, w5 = (w4.alloc (.cells zs 54)).setRow w4.heap.size ia := ⟨_, rfl⟩
  have HH5 := Lib.hid (show Bk w5 w4.heap.size 54 ia by rw [hw5]; exact setRow_heap _ _ _ _ _ _ (Bk.new w4 _ zs))
  have hb45 : Below w4.heap.size w4 w5 := by rw [hw5]; exact below_setRow ((Below.refl _ _).alloc (Nat.le_refl _) _) (Nat.le_refl _) _
  have hz5 : w5.heap.size = w4.heap.size + 1 := by rw [hw5]; simp [World.setRow]
  have HB5 := Lib.hid (HB4.out.trans (hb45.mono (by omega)))
  have HK5 := Lib.hid (HK4.out.below hb45 (by omega))
  obtain ⟨H, hH⟩ : ∃ H, H = w4.heap.size := ⟨_, rfl⟩
  rw [← hw5]
  rw [← hH] at HH5 hz5 hz4 ⊢
  clear hw5 hb45 HK4 hH
  go_wp2_with (refine wpList_load_row rfl 54 (.tmp 11) rfl H (by rfl) 54 ia (0, 0) _ HH5.out Tryd.underlying54 rfl (by rw [HIS.out]; exact size_hash) ?_)
  have HP5 := Lib.hid (HP.out.kp (S := fun _ => False) (Kp.of_below HB5.out) hD (fun _ _ h => h) (fun h => h) (fun _ _ h => h))
  refine (HHAS.out _ HP5.out (Nat.le_trans hD HB5.out.size)).mono ?_
  rintro e w6 ⟨rfl, hb6⟩
  have HB6 := Lib.hid (HB5.out.trans (hb6.mono (by omega)))
  have hz6 : w5.heap.size ≤ w6.heap.size := hb6.size
  have HK6 := Lib.hid (HK5.out.below hb6 (by omega))
  have HH6 := Lib.hid (HH5.out.below hb6 (by omega))
  have HP6 := Lib.hid (HP.out.kp (S := fun _ => False) (Kp.of_below HB6.out) hD (fun _ _ h => h) (fun h => h) (fun _ _ h => h))
  clear hb6 HK5 HH5 HP5 HB5 HB4 HB3 HHAS
  obtain ⟨AV, cV, hv, hvc, hvm, hrg⟩ := HP6.out.row
  obtain ⟨m, hm⟩ : ∃ m, m = ps.length := ⟨_, rfl⟩
  rw [← hm] at hv
  subst hv
  have HM := Lib.hid hm
  have HRG := Lib.hid hrg
  have hm8 : m ≤ 8 := by omega
  clear hm hrg
  have cO : w6.cell? ⟨O, 0, none⟩ = some (.slice AV m cV) := (HP6.out.bk.cell 0).trans rfl
  obtain ⟨ix, hix⟩ : ∃ ix, ix = id.map byteV := ⟨_, rfl⟩
  have HIX := Lib.hid hix
  have HXL := Lib.hid (show ix.length = 32 by rw [hix, List.length_map]; exact HIL.out)
  have HXH := Lib.hid (show w6.rangeAt H 0 ix by rw [hix]; exact bk_range (by have := HH6.out; rw [HIA.out] at this; exact this))
  have HXT := Lib.hid (show w6.rangeAt w.heap.size 0 [.int .u32 (t.version : Int), .slice A t.ins.length c, .slice A' t.outs.length c'] from bk_range HK6.out)
  clear hix
  go_upto_region 7 with (fail)
  have hrlw := HP6.out.rge
  obtain ⟨ie, hi, hz0, hz1, hz2⟩ := info_parts dent_info
  have Ii := Lib.hid hi
  have Iz := Lib.hid hz0
  have Iz1 := Lib.hid hz1
  have Iz2 := Lib.hid hz2
  clear hi hz0 hz1 hz2
  have hZL := zeroDent_len
  have hZE := zero_dent
  generalize (dCells ⟨0, Txs.none, List.replicate 32 0, 0⟩ (.slice none 0 0) (.slice none 0 0)).toArray = ze at hZL Iz hZE
  have HZEL := Lib.hid hZL
  have HIZ := Lib.hid hZE
  clear hZL hZE
  obtain ⟨pn, hpn⟩ : ∃ pn : EP, pn = (⟨src, t, id, now⟩, .slice A t.ins.length c, .slice A' t.outs.length c') := ⟨_, rfl⟩
  have HPN := Lib.hid hpn
  have HOKN := Lib.hid (show DOk D w6 pn by
    rw [hpn]
    exact ⟨HIL.out, hnow, A, c, A', c', rfl, rfl, (HT.out.below (HB6.out.mono hB)).mono hBD⟩)
  have HSRC := Lib.hid (show Src w6 AV (ps.flatMap dPair) from DRow.src HP6.out.row (fun p hp => (HP6.out.all p hp).len))
  have HFL := Lib.hid (show (ps.flatMap dPair).length = m * 37 by rw [HM.out]; exact flatMap_len ps (fun p hp => (HP6.out.all p hp).len))
  have HF1 := Lib.hid (dpairs_one HP6.out.all)
  have HOD := Lib.hid (HP6.out.ge)
  have HOL := Lib.hid (HP6.out.bk.lt)
  have hOl6 : O < w6.heap.size := HOL.out
  have hD6 : D ≤ w6.heap.size := Nat.le_trans hD HB6.out.size
  have hH6 : H < w6.heap.size := HH6.out.lt
  have hx6 : w.heap.size < w6.heap.size := HK6.out.lt
  clear hpn hrlw
  obtain ⟨n9, hn9⟩ : ∃ n9, n9 = m + 1 := ⟨_, rfl⟩
  go_cut [] (fun wx => ∃ (A9 : Option Addr) (c9 : Nat), Hid (DPool D wx O (.slice A9 n9 c9) (ps ++ [pn])) ∧ Hid (∀ i, (Value.slice A9 n9 c9).ownBlock = some i → w.heap.size ≤ i) ∧ Hid (Kp (fun i => i = O) w wx) ∧ Hid (Bk wx O 30 #[.slice A9 n9 c9]))
  case first =>
    refine wp_region_L [(5, O, 0, [.slice AV m cV]), (7, H, 0, ix), (9, w.heap.size, 0, [.int .u32 (t.version : Int), .slice A t.ins.length c, .slice A' t.outs.length c'])] (by kernel_rfl) ?_
    refine wpAnyL_pure (i := 0) (v := ?_) rfl (by kernel_rfl) (by kernel_rfl) (by kernel_rfl) (fun _ _ _ h => h) (Or.inl ⟨by rfl, ?_⟩) ?_
    rotate_left
    · (intro w' _; go_simp <;> with_reducible rfl)
    simp only [Act.put, List.setIfInBounds_toArray, List.set_cons_zero, List.set_cons_succ, List.getElem_toArray, List.getElem_cons_zero, List.getElem_cons_succ]
    refine wpAnyL_pure (i := 2) (v := ?_) rfl (by kernel_rfl) (by kernel_rfl) (by kernel_rfl) (fun _ _ _ h => h) (Or.inl ⟨by rfl, ?_⟩) ?_
    rotate_left
    · (intro w' _; go_simp <;> with_reducible rfl)
    simp only [Act.put, List.setIfInBounds_toArray, List.set_cons_zero, List.set_cons_succ, List.getElem_toArray, List.getElem_cons_zero, List.getElem_cons_succ]
    refine wpAnyL_pure (i := 3) (v := ?_) rfl (by kernel_rfl) (by kernel_rfl) (by kernel_rfl) (fun _ _ _ h => h) (Or.inl ⟨by rfl, ?_⟩) ?_
    rotate_left
    · (intro w' _; go_simp <;> with_reducible rfl)
    simp only [Act.put, List.setIfInBounds_toArray, List.set_cons_zero, List.set_cons_succ, List.getElem_toArray, List.getElem_cons_zero, List.getElem_cons_succ]
    refine wpAnyL_pure (i := 4) (v := ?_) rfl (by kernel_rfl) (by kernel_rfl) (by kernel_rfl) (fun _ _ _ h => h) (Or.inl ⟨by rfl, ?_⟩) ?_
    rotate_left
    · (intro w' _; go_simp <;> with_reducible rfl)
    simp only [Act.put, List.setIfInBounds_toArray, List.set_cons_zero, List.set_cons_succ, List.getElem_toArray, List.getElem_cons_zero, List.getElem_cons_succ]
    refine wpAnyL_read (i := 5) (v := (.slice AV m cV)) O 0 [(.slice AV m cV)] (.head _) (range_one cO) rfl (by kernel_rfl) (by kernel_rfl) (by kernel_rfl) (fun _ _ _ h => h) (Or.inl ⟨by rfl, fun w' hSw => ?_⟩) ?_
    · (have hq := cell_one hSw; go_simp)
    simp only [Act.put, List.setIfInBounds_toArray, List.set_cons_zero, List.set_cons_succ, List.getElem_toArray, List.getElem_cons_zero, List.getElem_cons_succ]
    refine wpAnyL_load (i := 7) H 0 ix (.tail _ (.head _)) HXH.out rfl (by kernel_rfl) (by kernel_rfl) (by kernel_rfl) (fun _ _ _ h => h) (by rfl) 54 (.tmp 11) rfl (by rfl) _ Tryd.underlying54 rfl (by rw [HXL.out]; exact size_hash0) ?_
    simp only [Act.put, List.setIfInBounds_toArray, List.set_cons_zero, List.set_cons_succ, List.getElem_toArray, List.getElem_cons_zero, List.getElem_cons_succ]
    refine wpAnyL_pure (i := 8) (v := ?_) rfl (by kernel_rfl) (by kernel_rfl) (by kernel_rfl) (fun _ _ _ h => h) (Or.inl ⟨by rfl, ?_⟩) ?_
    rotate_left
    · (intro w' _; go_simp <;> with_reducible rfl)
    simp only [Act.put, List.setIfInBounds_toArray, List.set_cons_zero, List.set_cons_succ, List.getElem_toArray, List.getElem_cons_zero, List.getElem_cons_succ]
    refine wpAnyL_load (i := 9) w.heap.size 0 [.int .u32 (t.version : Int), .slice A t.ins.length c, .slice A' t.outs.length c'] (.tail _ (.tail _ (.head _))) HXT.out rfl (by kernel_rfl) (by kernel_rfl) (by kernel_rfl) (fun _ _ _ h => h) (by rfl) 35 (.tmp 6) rfl (by rfl) _ Tryd.underlying35 rfl (size_tx) ?_
    simp only [Act.put, List.setIfInBounds_toArray, List.set_cons_zero, List.set_cons_succ, List.getElem_toArray, List.getElem_cons_zero, List.getElem_cons_succ]
    refine wpAnyL_pure (i := 10) (v := ?_) rfl (by kernel_rfl) (by kernel_rfl) (by kernel_rfl) (fun _ _ _ h => h) (Or.inl ⟨by rfl, ?_⟩) ?_
    rotate_left
    · (intro w' _; go_simp <;> with_reducible rfl)
    simp only [Act.put, List.setIfInBounds_toArray, List.set_cons_zero, List.set_cons_succ, List.getElem_toArray, List.getElem_cons_zero, List.getElem_cons_succ]
    obtain ⟨cx, hcx⟩ : ∃ cx, cx = dCells ⟨src, t, id, now⟩ (.slice A t.ins.length c) (.slice A' t.outs.length c') := ⟨_, rfl⟩
    have HCX := Lib.hid (show cx = dPair pn by rw [hcx, HPN.out]; rfl)
    have HB11 := Lib.hid (show Tryd.prog.built 56 [(0, .agg ix.toArray), (1, .int .i64 src), (2, .agg #[.int .u32 (t.version : Int), .slice A t.ins.length c, .slice A' t.outs.length c']), (3, .int .u64 (now : Int))] = some cx.toArray by
      rw [hcx, HIX.out]
      exact built_dent ⟨src, t, id, now⟩ A A' t.ins.length c t.outs.length c' HIL.out)
    have HCL := Lib.hid (show cx.length = 37 by rw [HCX.out]; exact HOKN.out.len)
    have HC1 := Lib.hid (show ∀ u ∈ cx, u.oneCell' = true by rw [HCX.out]; exact HOKN.out.one)
    clear hcx
    refine wpAnyL_pure (i := 11) (v := .agg cx.toArray) rfl (by kernel_rfl) (by kernel_rfl) (by kernel_rfl) (fun _ _ _ h => h) (yieldsIf_build (by rfl) 56 _ rfl _ (by simpa [Act.eval] using HB11.out)) ?_
    simp only [Act.put, List.setIfInBounds_toArray, List.set_cons_zero, List.set_cons_succ, List.getElem_toArray, List.getElem_cons_zero, List.getElem_cons_succ]
    refine wpAnyL_ready (rs := [1, 12]) (by kernel_rfl) (by simp) ?_
    refine (AllReadyL.cons rfl (fun K hK => ?_) (AllReadyL.cons rfl (fun K hK => ?_) AllReadyL.nil))
    focus
      refine step_buildNone (by rfl) 28 56 rfl Tryd.underlying28 (by kernel_rfl) ?_
      refine hK.out _ _ (Keeps.below (Joins.below_alloc1 _ _)) ?_
      clear hK K
      try simp only [Act.put, List.setIfInBounds_toArray, List.set_cons_zero, List.set_cons_succ, List.getElem_toArray, List.getElem_cons_zero, List.getElem_cons_succ]
      obtain ⟨wE, hw_⟩ : ∃ w_, w_ = (w6.drew).alloc (.cells #[] 56) := ⟨_, rfl⟩
      obtain ⟨qE, hq_⟩ : ∃ q_, q_ = (w6.drew).heap.size := ⟨_, rfl⟩
      have HQE := Lib.hid (show Bk wE qE 56 #[] by rw [hw_, hq_]; exact Bk.new _ _ _)
      have HBE := Lib.hid (show Below w6.heap.size w6 wE by rw [hw_]; exact ((Below.refl w6.heap.size w6).drew).alloc ((Below.refl w6.heap.size w6).drew).size _)
      have hb_ : Below (w6.drew).heap.size (w6.drew) wE := by rw [hw_]; exact Joins.below_alloc1 _ _
      have hge_qE : w6.heap.size ≤ qE := by rw [hq_]; exact ((Below.refl w6.heap.size w6).drew).size
      rw [← hw_]
      try rw [← hq_]
      clear hw_ hq_ hb_
      refine wpAnyL_ready (rs := [6, 12]) (by kernel_rfl) (by simp) ?_
      refine (AllReadyL.cons rfl (fun K hK => ?_) (AllReadyL.cons rfl (fun K hK => ?_) AllReadyL.nil))
      focus
        have hor : wE.ownsRow w6.heap.size 56 37 (.slice (some ⟨qE, 0, none⟩) 0 0) 0 [] := own_none wE qE w6.heap.size 56 HQE.out hge_qE 37
        have hsr : Src wE AV (ps.flatMap dPair) := src_below0 HSRC.out HBE.out
        have hszW := HBE.out.size
        refine step_app _ rfl (.tmp 28) (.tmp 32) _ rfl w6.heap.size 56 ie _ 37 104 Tryd.underlying28 Ii.out Iz.out Iz1.out Iz2.out HZEL.out (by decide) (.slice (some ⟨qE, 0, none⟩) 0 0) 0 [] rfl hor AV m cV (ps.flatMap dPair) rfl HFL.out hsr HF1.out (by unfold maxLen; omega) (by omega) hszW ?_
        intro v7 w7 hrow7 hg7 hat7
        have kp7 : Kp (fun i => i = qE) wE w7 := (Kp.refl _ _).grown hg7 (fun k hk _ => by injection hk with hk; exact hk.symm)
        refine hK.out _ _ (Keeps.kp kp7 (fun p hp _ e => by simp only [List.mem_cons, List.not_mem_nil, or_false] at hp; rcases hp with rfl | rfl | rfl <;> simp only at e <;> omega)) ?_
        clear hK K
        try simp only [Act.put, List.setIfInBounds_toArray, List.set_cons_zero, List.set_cons_succ, List.getElem_toArray, List.getElem_cons_zero, List.getElem_cons_succ]
        rw [List.nil_append, Nat.zero_add] at hrow7
        have hrow7' := hrow7
        obtain ⟨A7, c7, rfl, _⟩ := own_form hrow7'
        have HB7 := Lib.hid (show Below w6.heap.size w6 w7 from Kp.from_elder HBE.out kp7 (fun i hi e => by omega))
        have SR := Lib.hid hrow7
        clear hor hsr hrow7 hrow7' hg7 hat7
        refine wpAnyL_ready (rs := [12]) (by kernel_rfl) (by simp) ?_
        refine (AllReadyL.cons rfl (fun K hK => ?_) AllReadyL.nil)
        refine step_buildOne (by rfl) 28 56 (.tmp 38) rfl cx.toArray (by rfl) Tryd.underlying28 (by simp only [List.size_toArray, HCL.out]; exact size_dent) ze HIZ.out (by simp only [List.size_toArray, HCL.out]; omega) (by simp only [List.size_toArray, HCL.out]; omega) ?_
        refine hK.out _ _ (Keeps.below (Joins.below_alloc1 _ _)) ?_
        clear hK K
        try simp only [Act.put, List.setIfInBounds_toArray, List.set_cons_zero, List.set_cons_succ, List.getElem_toArray, List.getElem_cons_zero, List.getElem_cons_succ]
        obtain ⟨w8, hw8⟩ : ∃ w_, w_ = w7.alloc (.cells cx.toArray 56) := ⟨_, rfl⟩
        obtain ⟨q8, hq8⟩ : ∃ q_, q_ = w7.heap.size := ⟨_, rfl⟩
        have SQ := Lib.hid (show Bk w8 q8 56 cx.toArray by rw [hw8, hq8]; exact Bk.new _ _ _)
        have SR8 := Lib.hid (show w8.ownsRow w6.heap.size 56 37 (.slice A7 m c7) m (ps.flatMap dPair) by rw [hw8]; exact own_below SR.out (Joins.below_alloc1 _ _))
        have SB := Lib.hid (show Below w6.heap.size w6 w8 by rw [hw8]; exact HB7.out.alloc HB7.out.size _)
        rw [← hw8]
        try rw [← hq8]
        clear hw8 hq8 SR HB7 kp7
      rotate_left
      focus
        refine step_buildOne (by rfl) 28 56 (.tmp 38) rfl cx.toArray (by rfl) Tryd.underlying28 (by simp only [List.size_toArray, HCL.out]; exact size_dent) ze HIZ.out (by simp only [List.size_toArray, HCL.out]; omega) (by simp only [List.size_toArray, HCL.out]; omega) ?_
        refine hK.out _ _ (Keeps.below (Joins.below_alloc1 _ _)) ?_
        clear hK K
        try simp only [Act.put, List.setIfInBounds_toArray, List.set_cons_zero, List.set_cons_succ, List.getElem_toArray, List.getElem_cons_zero, List.getElem_cons_succ]
        obtain ⟨wC, hw_⟩ : ∃ w_, w_ = (wE).alloc (.cells cx.toArray 56) := ⟨_, rfl⟩
        obtain ⟨q8, hq_⟩ : ∃ q_, q_ = (wE).heap.size := ⟨_, rfl⟩
        have HQC := Lib.hid (show Bk wC q8 56 cx.toArray by rw [hw_, hq_]; exact Bk.new _ _ _)
        have HBC := Lib.hid (show Below w6.heap.size w6 wC by rw [hw_]; exact (HBE.out).alloc (HBE.out).size _)
        have hb_ : Below (wE).heap.size (wE) wC := by rw [hw_]; exact Joins.below_alloc1 _ _
        have hge_q8 : w6.heap.size ≤ q8 := by rw [hq_]; exact (HBE.out).size
        rw [← hw_]
        try rw [← hq_]
        have HQE2 := Lib.hid (HQE.out.below hb_ HQE.out.lt)
        have hqne : qE < q8 := by rw [hq_]; exact HQE.out.lt
        clear hw_ hq_ hb_
        refine wpAnyL_ready (rs := [6]) (by kernel_rfl) (by simp) ?_
        refine (AllReadyL.cons rfl (fun K hK => ?_) AllReadyL.nil)
        have hor : wC.ownsRow w6.heap.size 56 37 (.slice (some ⟨qE, 0, none⟩) 0 0) 0 [] := own_none wC qE w6.heap.size 56 HQE2.out hge_qE 37
        have hsr : Src wC AV (ps.flatMap dPair) := src_below0 HSRC.out HBC.out
        have hszW := HBC.out.size
        refine step_app _ rfl (.tmp 28) (.tmp 32) _ rfl w6.heap.size 56 ie _ 37 104 Tryd.underlying28 Ii.out Iz.out Iz1.out Iz2.out HZEL.out (by decide) (.slice (some ⟨qE, 0, none⟩) 0 0) 0 [] rfl hor AV m cV (ps.flatMap dPair) rfl HFL.out hsr HF1.out (by unfold maxLen; omega) (by omega) hszW ?_
        intro v7 w7 hrow7 hg7 hat7
        have kp7 : Kp (fun i => i = qE) wC w7 := (Kp.refl _ _).grown hg7 (fun k hk _ => by injection hk with hk; exact hk.symm)
        refine hK.out _ _ (Keeps.kp kp7 (fun p hp _ e => by simp only [List.mem_cons, List.not_mem_nil, or_false] at hp; rcases hp with rfl | rfl | rfl <;> simp only at e <;> omega)) ?_
        clear hK K
        try simp only [Act.put, List.setIfInBounds_toArray, List.set_cons_zero, List.set_cons_succ, List.getElem_toArray, List.getElem_cons_zero, List.getElem_cons_succ]
        rw [List.nil_append, Nat.zero_add] at hrow7
        have hrow7' := hrow7
        obtain ⟨A7, c7, rfl, _⟩ := own_form hrow7'
        have HB7 := Lib.hid (show Below w6.heap.size w6 w7 from Kp.from_elder HBC.out kp7 (fun i hi e => by omega))
        have SR := Lib.hid hrow7
        clear hor hsr hrow7 hrow7' hg7 hat7
        obtain ⟨w8, hw8⟩ : ∃ w_, w_ = w7 := ⟨_, rfl⟩
        have SQ := Lib.hid (show Bk w8 q8 56 cx.toArray by rw [hw8]; exact HQC.out.kp kp7 (by omega))
        have SR8 := Lib.hid (show w8.ownsRow w6.heap.size 56 37 (.slice A7 m c7) m (ps.flatMap dPair) by rw [hw8]; exact SR.out)
        have SB := Lib.hid (show Below w6.heap.size w6 w8 by rw [hw8]; exact HB7.out)
        rw [← hw8]
        clear hw8 SR HB7 kp7
    rotate_left 2
    focus
      refine step_buildOne (by rfl) 28 56 (.tmp 38) rfl cx.toArray (by rfl) Tryd.underlying28 (by simp only [List.size_toArray, HCL.out]; exact size_dent) ze HIZ.out (by simp only [List.size_toArray, HCL.out]; omega) (by simp only [List.size_toArray, HCL.out]; omega) ?_
      refine hK.out _ _ (Keeps.below (Joins.below_alloc1 _ _)) ?_
      clear hK K
      try simp only [Act.put, List.setIfInBounds_toArray, List.set_cons_zero, List.set_cons_succ, List.getElem_toArray, List.getElem_cons_zero, List.getElem_cons_succ]
      obtain ⟨wC, hw_⟩ : ∃ w_, w_ = (w6.drew).alloc (.cells cx.toArray 56) := ⟨_, rfl⟩
      obtain ⟨q8, hq_⟩ : ∃ q_, q_ = (w6.drew).heap.size := ⟨_, rfl⟩
      have HQC0 := Lib.hid (show Bk wC q8 56 cx.toArray by rw [hw_, hq_]; exact Bk.new _ _ _)
      have HBC := Lib.hid (show Below w6.heap.size w6 wC by rw [hw_]; exact ((Below.refl w6.heap.size w6).drew).alloc ((Below.refl w6.heap.size w6).drew).size _)
      have hb_ : Below (w6.drew).heap.size (w6.drew) wC := by rw [hw_]; exact Joins.below_alloc1 _ _
      have hge_q8 : w6.heap.size ≤ q8 := by rw [hq_]; exact ((Below.refl w6.heap.size w6).drew).size
      rw [← hw_]
      try rw [← hq_]
      clear hw_ hq_ hb_
      refine wpAnyL_ready (rs := [1]) (by kernel_rfl) (by simp) ?_
      refine (AllReadyL.cons rfl (fun K hK => ?_) AllReadyL.nil)
      refine step_buildNone (by rfl) 28 56 rfl Tryd.underlying28 (by kernel_rfl) ?_
      refine hK.out _ _ (Keeps.below (Joins.below_alloc1 _ _)) ?_
      clear hK K
      try simp only [Act.put, List.setIfInBounds_toArray, List.set_cons_zero, List.set_cons_succ, List.getElem_toArray, List.getElem_cons_zero, List.getElem_cons_succ]
      obtain ⟨wE, hw_⟩ : ∃ w_, w_ = (wC).alloc (.cells #[] 56) := ⟨_, rfl⟩
      obtain ⟨qE, hq_⟩ : ∃ q_, q_ = (wC).heap.size := ⟨_, rfl⟩
      have HQE := Lib.hid (show Bk wE qE 56 #[] by rw [hw_, hq_]; exact Bk.new _ _ _)
      have HBE := Lib.hid (show Below w6.heap.size w6 wE by rw [hw_]; exact (HBC.out).alloc (HBC.out).size _)
      have hb_ : Below (wC).heap.size (wC) wE := by rw [hw_]; exact Joins.below_alloc1 _ _
      have hge_qE : w6.heap.size ≤ qE := by rw [hq_]; exact (HBC.out).size
      rw [← hw_]
      try rw [← hq_]
      have HQC := Lib.hid (HQC0.out.below hb_ HQC0.out.lt)
      have hqne : q8 < qE := by rw [hq_]; exact HQC0.out.lt
      clear hw_ hq_ hb_
      refine wpAnyL_ready (rs := [6]) (by kernel_rfl) (by simp) ?_
      refine (AllReadyL.cons rfl (fun K hK => ?_) AllReadyL.nil)
      have hor : wE.ownsRow w6.heap.size 56 37 (.slice (some ⟨qE, 0, none⟩) 0 0) 0 [] := own_none wE qE w6.heap.size 56 HQE.out hge_qE 37
      have hsr : Src wE AV (ps.flatMap dPair) := src_below0 HSRC.out HBE.out
      have hszW := HBE.out.size
      refine step_app _ rfl (.tmp 28) (.tmp 32) _ rfl w6.heap.size 56 ie _ 37 104 Tryd.underlying28 Ii.out Iz.out Iz1.out Iz2.out HZEL.out (by decide) (.slice (some ⟨qE, 0, none⟩) 0 0) 0 [] rfl hor AV m cV (ps.flatMap dPair) rfl HFL.out hsr HF1.out (by unfold maxLen; omega) (by omega) hszW ?_
      intro v7 w7 hrow7 hg7 hat7
      have kp7 : Kp (fun i => i = qE) wE w7 := (Kp.refl _ _).grown hg7 (fun k hk _ => by injection hk with hk; exact hk.symm)
      refine hK.out _ _ (Keeps.kp kp7 (fun p hp _ e => by simp only [List.mem_cons, List.not_mem_nil, or_false] at hp; rcases hp with rfl | rfl | rfl <;> simp only at e <;> omega)) ?_
      clear hK K
      try simp only [Act.put, List.setIfInBounds_toArray, List.set_cons_zero, List.set_cons_succ, List.getElem_toArray, List.getElem_cons_zero, List.getElem_cons_succ]
      rw [List.nil_append, Nat.zero_add] at hrow7
      have hrow7' := hrow7
      obtain ⟨A7, c7, rfl, _⟩ := own_form hrow7'
      have HB7 := Lib.hid (show Below w6.heap.size w6 w7 from Kp.from_elder HBE.out kp7 (fun i hi e => by omega))
      have SR := Lib.hid hrow7
      clear hor hsr hrow7 hrow7' hg7 hat7
      obtain ⟨w8, hw8⟩ : ∃ w_, w_ = w7 := ⟨_, rfl⟩
      have SQ := Lib.hid (show Bk w8 q8 56 cx.toArray by rw [hw8]; exact HQC.out.kp kp7 (by omega))
      have SR8 := Lib.hid (show w8.ownsRow w6.heap.size 56 37 (.slice A7 m c7) m (ps.flatMap dPair) by rw [hw8]; exact SR.out)
      have SB := Lib.hid (show Below w6.heap.size w6 w8 by rw [hw8]; exact HB7.out)
      rw [← hw8]
      clear hw8 SR HB7 kp7
    all_goals
      refine wpAnyL_ready (rs := [13]) (by kernel_rfl) (by simp) ?_
      refine (AllReadyL.cons rfl (fun K hK => ?_) AllReadyL.nil)
      have hz8 := SB.out.size
      refine step_app _ rfl (.tmp 33) (.tmp 39) _ rfl w6.heap.size 56 ie _ 37 104 Tryd.underlying28 Ii.out Iz.out Iz1.out Iz2.out HZEL.out (by decide) (.slice A7 m c7) m _ rfl SR8.out (some ⟨q8, 0, none⟩) 1 1 cx rfl (by rw [HCL.out]) (src_bk SQ.out) HC1.out (by unfold maxLen; omega) (by omega) hz8 ?_
      intro v9 w9 hrow9 hg9 hat9
      have hlt7 := own_lt SR8.out
      have kp9 : Kp (fun i => (Value.slice A7 m c7).ownBlock = some i) w8 w9 := (Kp.refl _ _).grown hg9 (fun k hk _ => hk)
      refine hK.out _ _ (Keeps.kp kp9 (fun p hp _ e => by have := (hlt7 _ e).1; simp only [List.mem_cons, List.not_mem_nil, or_false] at hp; rcases hp with rfl | rfl | rfl <;> simp only at this <;> omega)) ?_
      clear hK K
      try simp only [Act.put, List.setIfInBounds_toArray, List.set_cons_zero, List.set_cons_succ, List.getElem_toArray, List.getElem_cons_zero, List.getElem_cons_succ]
      have hrow9' := hrow9
      obtain ⟨A9, c9, rfl, hm9, hm9', _⟩ := own_form hrow9'
      have kp69 := Lib.hid (show Kp (fun _ => False) w6 w9 from Kp.of_below (Kp.from_elder SB.out kp9 (fun i hi e => by have := (hlt7 _ e).1; omega)))
      have HO9 := Lib.hid (HP6.out.bk.kp kp69.out (fun h => h))
      have hc9 : w9.cell? ⟨O, 0, none⟩ = some (.slice AV m cV) := (HO9.out.cell 0).trans rfl
      have hf9 := HO9.out.frozen 0
      refine wpAnyL_pure (i := 14) (v := ?_) rfl (by kernel_rfl) (by kernel_rfl) (by kernel_rfl) (fun _ _ _ h => h) (Or.inl ⟨by rfl, ?_⟩) ?_
      rotate_left
      · (intro w' _; go_simp <;> with_reducible rfl)
      simp only [Act.put, List.setIfInBounds_toArray, List.set_cons_zero, List.set_cons_succ, List.getElem_toArray, List.getElem_cons_zero, List.getElem_cons_succ]
      refine wpAnyL_pure (i := 15) (v := ?_) rfl (by kernel_rfl) (by kernel_rfl) (by kernel_rfl) (fun _ _ _ h => h) (Or.inl ⟨by rfl, ?_⟩) ?_
      rotate_left
      · (intro w' _; go_simp <;> with_reducible rfl)
      simp only [Act.put, List.setIfInBounds_toArray, List.set_cons_zero, List.set_cons_succ, List.getElem_toArray, List.getElem_cons_zero, List.getElem_cons_succ]
      refine wpAnyL_ready (rs := [16]) (by kernel_rfl) (by simp) ?_
      refine (AllReadyL.cons rfl (fun K hK => ?_) AllReadyL.nil)
      go_simp
      refine hK.out _ _ (Keeps.last (by kernel_rfl) _ _) ?_
      clear hK K
      try simp only [Act.put, List.setIfInBounds_toArray, List.set_cons_zero, List.set_cons_succ, List.getElem_toArray, List.getElem_cons_zero, List.getElem_cons_succ]
      refine wpAnyL_done (by kernel_rfl) ?_ _
      have HROW := Lib.hid hrow9
      obtain ⟨w10, hw10⟩ : ∃ w10, w10 = w9.setCell ⟨O, 0, none⟩ (.slice A9 (m + 1) c9) := ⟨_, rfl⟩
      have HO10 := Lib.hid (show Bk w10 O 30 #[.slice A9 (m + 1) c9] by rw [hw10]; exact HO9.out.set 0 _)
      have HK10 := Lib.hid (show Kp (fun i => i = O) w9 w10 by rw [hw10]; exact kp_cell1 _ _ _ _)
      rw [← hw10]
      clear hw10 hc9 hf9 HO9 hrow9 hrow9' hg9 hat9
      have HLT9 := Lib.hid (own_lt HROW.out)
      have HADD := Lib.hid (dadd_pool HP6.out hD6 HM.out kp69.out (by rw [← HCX.out]; exact HROW.out) HO10.out HK10.out HOKN.out)
      have HKW := Lib.hid (show Kp (fun i => i = O) w w10 from (Kp.of_below HB6.out).trans (((kp69.out.mono (T := fun i => i = O) (fun _ _ h => h.elim))).trans HK10.out))
      go_wp2_with fail
      go_meet
      subst hn9
      exact ⟨A9, c9, HADD, Lib.hid (fun i hi => by have := (HLT9.out i hi).1; omega), HKW, HO10⟩
  case rest =>
    obtain ⟨A9, c9, HADD, HOWNS, HKW, HO10⟩ := hcut
    have c10 : wc.cell? ⟨O, 0, none⟩ = some (.slice A9 n9 c9) := (HO10.out.cell 0).trans rfl
    have HPL := Lib.hid (show (ps ++ [pn]).length = n9 by rw [List.length_append, ← HM.out, hn9]; rfl)
    have HPM := Lib.hid (show (ps ++ [pn]).map (·.1) = ps.map (fun x : EP => x.1) ++ [(⟨src, t, id, now⟩ : Ent)] by rw [List.map_append, HPN.out]; rfl)
    clear HH6 HXH HXT cO HT
    by_cases h8' : m < 8
    · have HE1 := Lib.hid (show af = ps.map (fun x : EP => x.1) ++ [(⟨src, t, id, now⟩ : Ent)] by rw [HAF.out, if_pos (by rw [← HM.out]; exact h8'), ← HII.out])
      have HE2 := Lib.hid (show gn = [] by rw [HGN.out, if_pos (by rw [← HM.out]; exact h8')])
      have i8 : (n9 : Int) ≤ 8 := by omega
      clear hn9
      go_wp2_with fail
      go_ret2
      rw [HE1.out, HE2.out, ← HPM.out]
      exact ⟨none, 0, _, _, rfl, (fun i hi => by simp at hi), HADD.out, rfl, fun i hi => .inr (HOWNS.out i hi), HKW.out⟩
    · obtain rfl : n9 = 9 := by omega
      obtain ⟨g, off, hA9, hg9, hr0, -, hc9, hm9⟩ := HADD.out.first (by rw [HPL.out]; omega)
      subst hA9
      have HE1 := Lib.hid (show af = (ps.map (fun x : EP => x.1) ++ [(⟨src, t, id, now⟩ : Ent)]).drop 1 by rw [HAF.out, if_neg (by rw [← HM.out]; exact h8'), ← HII.out])
      have hid0 : (ps ++ [pn])[0].1.id.length = 32 := (HADD.out.all _ (List.getElem_mem _)).1
      have HE2 := Lib.hid (show gn = [(ps ++ [pn])[0].1.id] by
        rw [HGN.out, if_neg (by rw [← HM.out]; exact h8')]
        have hm8' : 0 < ps.length := by rw [← HM.out]; omega
        match ps, hm8' with
        | p :: l, _ => rfl)
      have HE0 := Lib.hid (show wc.rangeAt g off ((ps ++ [pn])[0].1.id.map byteV) from range_head hr0)
      generalize (ps ++ [pn])[0].1.id = id0 at HE0 HE2 hid0
      have L0 := Lib.hid (show (id0.map byteV).length = 32 by rw [List.length_map]; exact hid0)
      have HPO0 := Lib.hid (all_one (oneCell_bytes id0))
      have HOK0 := Lib.hid hid0
      obtain ⟨i0, hi0⟩ : ∃ i0, i0 = (id0.map byteV) := ⟨_, rfl⟩
      have HI0 := Lib.hid hi0
      rw [← hi0] at HE0 L0 HPO0
      have hzc : O < wc.heap.size := HO10.out.lt
      have HTH0 := Lib.hid (show (wc.alloc (.cells zs 54)).there wc.heap.size 0 i0.toArray.size from by
        have hzz : zs = zs.toList.toArray := by simp
        have hb := Bk.new wc 54 zs
        rw [hzz] at hb
        have := bk_there hb 0 i0.toArray.size (by rw [List.size_toArray, L0.out, Array.length_toList, HZL.out]; omega)
        rw [← hzz] at this
        exact this)
      have HPOOL := HADD
      clear hi0 hr0 hid0 hn9
      go_upto_region 11 with (first
        | (refine wpList_load_mid rfl 54 (.tmp 54) rfl g off (by rfl) i0 _ HE0.out Tryd.underlying54 rfl (by rw [L0.out]; exact size_hash0) ?_)
        | (refine wpList_allocOf rfl 54 rfl zs HZ.out ?_)
        | (refine wpList_store_mid rfl 54 (.tmp 13) (.tmp 55) rfl wc.heap.size 0 i0.toArray (by rfl) (by rfl) HTH0.out (by rw [List.size_toArray, L0.out]; exact size_hash0) HPO0.out ?_))
      obtain ⟨w11, hw11⟩ : ∃ w11, w11 = (wc.alloc (.cells zs 54)).setCells wc.heap.size 0 i0.toArray.toList := ⟨_, rfl⟩
      have hB11 : Below wc.heap.size wc w11 := by rw [hw11]; exact below_setCells (Nat.le_refl _) _ _ _ ((Below.refl _ _).alloc (Nat.le_refl _) _)
      have hX11 : Bk w11 wc.heap.size 54 i0.toArray := by
        have hzz : zs = zs.toList.toArray := by simp
        have hb := Bk.new wc 54 zs
        rw [hzz] at hb
        have := bk_setCells i0 0 _ _ hb (by rw [L0.out, Array.length_toList, HZL.out]; omega)
        rw [← hzz, List.take_zero, List.nil_append, List.drop_of_length_le (by rw [L0.out, Array.length_toList, HZL.out]; omega), List.append_nil] at this
        rw [hw11, List.toList_toArray]
        exact this
      have HX11 := Lib.hid hX11
      have HO11 := Lib.hid (HO10.out.below hB11 hzc)
      have HB11 := Lib.hid hB11
      have hz11 : wc.heap.size < w11.heap.size := hX11.lt
      have c11 : w11.cell? ⟨O, 0, none⟩ = some (.slice (some ⟨g, off, none⟩) 9 c9) := (HO11.out.cell 0).trans rfl
      have f11 := HO11.out.frozen 0
      have hc1 : ¬ c9 = 1 := by omega
      have i1 : (9 : Int) ≤ (c9 : Int) := by omega
      rw [← hw11]
      clear hw11 hB11 hX11 c10
      go_upto_region 12 with (fail)
      obtain ⟨w13, hw13⟩ : ∃ w13, w13 = w11.setCell ⟨O, 0, none⟩ (.slice (some ⟨g, off + 37, none⟩) 8 (c9 - 1)) := ⟨_, rfl⟩
      have HO13 := Lib.hid (show Bk w13 O 30 #[.slice (some ⟨g, off + 37, none⟩) 8 (c9 - 1)] by rw [hw13]; exact HO11.out.set 0 _)
      have HK13 := Lib.hid (show Kp (fun i => i = O) w11 w13 by rw [hw13]; exact kp_cell1 _ _ _ _)
      have HX13 := Lib.hid (HX11.out.kp HK13.out (by omega))
      have hz13 := HK13.out.size
      rw [← hw13]
      clear hw13 c11 f11 HO11 HX11
      go_wp2_with (first
        | (refine wpList_load_row rfl 54 (.tmp 13) rfl wc.heap.size (by rfl) 54 i0.toArray (0, 0) _ HX13.out Tryd.underlying54 rfl (by rw [List.size_toArray, L0.out]; exact size_hash0) ?_)
        | (refine wpList_buildOne rfl 36 54 (.tmp 64) rfl i0.toArray (by rfl) Tryd.underlying36 (by rw [List.size_toArray, L0.out]; exact size_hash0) zs HZ.out (by rw [List.size_toArray, L0.out]; omega) (by rw [List.size_toArray, L0.out]; omega) ?_))
      go_ret2
      have k14 : Kp (fun i => i = O) wc (w13.alloc (.cells i0.toArray 54)) := ((Kp.of_below HB11.out).trans HK13.out).alloc _
      rw [HE2.out]
      refine ⟨some ⟨w13.heap.size, 0, none⟩, 1, .slice (some ⟨g, off + 37, none⟩) 8 (c9 - 1), (ps ++ [pn]).drop 1, rfl, ?_, HPOOL.out.tail (by have := HKW.out.size; omega) k14 (HO13.out.alloc _) (by rw [HPL.out]; omega), by rw [List.map_drop, HPM.out, HE1.out], fun i hi => .inr (HOWNS.out i hi), HKW.out.trans k14⟩
      exact At.of_bk (fun l : List UInt8 => l.map byteV) (fun x hx => by
        rw [List.mem_singleton.1 hx]
        exact ⟨by rw [List.length_map]; exact HOK0.out, HOK0.out, rfl⟩) (by
        rw [show [id0].flatMap (fun l : List UInt8 => l.map byteV) = i0 by rw [HI0.out]; simp]
        exact Bk.new _ _ _)
/-- the document's entry, as the program's: till when it waits -/
def upd (e : Ent) : Ent := { e with fin := min (e.fin + 300) 18446744073709551615 }
def ups (ds : List Ent) : List Ent := ds.map upd
theorem upd_id (e : Ent) : (upd e).id = e.id := rfl
theorem hasId_ups (ds : List Ent) (id : List UInt8) : hasId (ups ds) id = ds.any fun x => decide (x.id = id) := by
  unfold hasId ups; rw [List.any_map]; rfl
theorem ups_id (ds : List Ent) : (ups ds).map Ent.id = ds.map Ent.id := by
  unfold ups; rw [List.map_map]; rfl
theorem ups_len (ds : List Ent) : (ups ds).length = ds.length := by unfold ups; rw [List.length_map]
/-- the document's entries behind Add -/
def daddEs (ds : List Ent) (src : Int) (t : Txs.Tx) (now : Nat) : List Ent :=
  if addErr (ups ds) t = 0 then (if ds.length < 8 then ds ++ [(⟨src, t, Txs.id t, now⟩ : Ent)] else (ds ++ [(⟨src, t, Txs.id t, now⟩ : Ent)]).drop 1) else ds
theorem ups_add (ds : List Ent) (src : Int) (t : Txs.Tx) (now : Nat) : ups (daddEs ds src t now) = addEs (ups ds) src t now := by
  unfold daddEs addEs
  rw [ups_len]
  split
  · split
    · unfold ups; rw [List.map_append]; rfl
    · unfold ups; rw [List.map_drop, List.map_append]; rfl
  · rfl
theorem dadd_any (ps : List EP) (D O : Nat) (v : Value) (src : Int) (t : Txs.Tx) (A A' : Option Addr) (c c' B : Nat) (now : Nat) (w : World) (hlay : Laid w) (h : DPool D w O v ps) (hD : D ≤ w.heap.size) (ht : TxAt w B t A c A' c') (hB : B ≤ w.heap.size) (hBD : B ≤ D) (hnow : now < 18446744073709551616) (h8 : ps.length ≤ 8) :
    Calls Tryd.prog 13 #[.pointer (some ⟨O, 0, none⟩), .int .i64 src, txV t A c A' c', .int .u64 (now : Int)] w (DAdd D w O v (daddEs (ps.map fun x : EP => x.1) src t now) (addGone (ups (ps.map fun x : EP => x.1)) t) (addErr (ups (ps.map fun x : EP => x.1)) t)) := by
  have hhas : hasId (ups (ps.map fun x : EP => x.1)) (Txs.id t) = (ps.map (·.1.id)).any fun x => decide (x = Txs.id t) := by
    rw [hasId_ups, List.any_map, List.any_map]; rfl
  by_cases hc : Txs.check t = 0
  · cases hh : hasId (ups (ps.map fun x : EP => x.1)) (Txs.id t) with
    | true =>
      have e1 : addErr (ups (ps.map fun x : EP => x.1)) t = 10 := by unfold addErr; rw [if_pos hc, hh]; rfl
      have e2 : daddEs (ps.map fun x : EP => x.1) src t now = ps.map fun x : EP => x.1 := by unfold daddEs; rw [e1]; rfl
      have e3 : addGone (ups (ps.map fun x : EP => x.1)) t = [] := by unfold addGone; rw [e1]; rfl
      rw [e1, e2, e3]
      exact dadd_there ps D O v src t A A' c c' B now w hlay h hD ht hB hc (by rw [← hhas, hh]) (by omega)
    | false =>
      have e1 : addErr (ups (ps.map fun x : EP => x.1)) t = 0 := by unfold addErr; rw [if_pos hc, hh]; rfl
      have e2 : daddEs (ps.map fun x : EP => x.1) src t now = if ps.length < 8 then (ps.map fun x : EP => x.1) ++ [(⟨src, t, Txs.id t, now⟩ : Ent)] else ((ps.map fun x : EP => x.1) ++ [(⟨src, t, Txs.id t, now⟩ : Ent)]).drop 1 := by unfold daddEs; rw [e1, List.length_map]; rfl
      have e3 : addGone (ups (ps.map fun x : EP => x.1)) t = if ps.length < 8 then [] else ((ps.take 1).map fun x : EP => x.1.id) := by
        unfold addGone
        rw [e1, ups_len, List.length_map, if_pos rfl]
        split
        · rfl
        · unfold ups; simp; rfl
      rw [e1, e2, e3]
      exact dadd_ok ps D O v src t A A' c c' B now w hlay h hD ht hB hBD hnow hc (by rw [← hhas, hh]) h8
  · have e1 : addErr (ups (ps.map fun x : EP => x.1)) t = Txs.check t := by unfold addErr; rw [if_neg hc]
    have e2 : daddEs (ps.map fun x : EP => x.1) src t now = ps.map fun x : EP => x.1 := by unfold daddEs; rw [e1, if_neg hc]
    have e3 : addGone (ups (ps.map fun x : EP => x.1)) t = [] := by unfold addGone; rw [e1, if_neg hc]
    rw [e1, e2, e3]
    exact dadd_bad ps D O v src t A A' c c' B now w h hD ht hB hc
end Go.Proofs.YtacbibflhdmcoaaDoor.O14
/- OrphanActs: the walk. -/
namespace Go.Proofs.YtacbibflhdmcoaaDoor
open Go.RowKit Go.Deep T7 O14 Go.ChangeShapes Go.WideShapes Go.ChangeAt
set_option linter.unusedVariables false
set_option linter.unusedSimpArgs false
set_option maxRecDepth 100000
set_option maxHeartbeats 4000000
attribute [local go_sem ↓] Go.wp_at_zero Go.wp_at_succ

theorem hashes_kpM {w w' : World} {A : Option Addr} {l : List (List UInt8)} {M t p : Nat} {q : Option Addr} {r : Nat} (h : HashesAt w w.heap.size A l) (hM : Bk w M t #[.slice q p r]) (hk : Kp (fun i => i = M) w w') : HashesAt w' w'.heap.size A l := by
  intro i hi
  obtain ⟨b, off, vs, hA, hb, ⟨hl, hvs⟩, hc⟩ := h i hi
  have hvl : vs.length = 32 := by rw [hvs, List.length_map]; exact hl
  have hbM : b ≠ M := by
    rintro rfl
    have h0 := hc 0 (by omega)
    rw [hM.cell] at h0
    have hb0 : ∃ b, vs[0]'(by omega) = byteV b := by
      have h1 : vs[0]'(by omega) ∈ vs := List.getElem_mem _
      generalize vs[0]'(by omega) = u at h1
      rw [hvs] at h1
      obtain ⟨b, _, hb⟩ := List.mem_map.1 h1
      exact ⟨b, hb.symm⟩
    obtain ⟨b0, hb0⟩ := hb0
    rw [hb0] at h0
    rcases Nat.eq_zero_or_pos (off + i * 32 + 0) with e | e
    · rw [e] at h0; cases h0
    · rw [Array.getElem?_eq_none (by show 1 ≤ _; omega)] at h0; cases h0
  exact ⟨b, off, vs, hA, Nat.lt_of_lt_of_le hb hk.size, ⟨hl, hvs⟩, fun j hj => (hk.cell (p := ⟨b, _, none⟩) hb hbM).trans (hc j hj)⟩
theorem greatA_false {l : List O14.Act} (h : greatB l = false) : l.length ≤ 1000 ∧ ∀ a ∈ l, a.parents.length ≤ 1000000 := by
  unfold greatB at h
  simp only [Bool.or_eq_false_iff, decide_eq_false_iff_not] at h
  refine ⟨by omega, fun a ha => ?_⟩
  have := List.any_eq_false.1 h.2 a ha
  simp only [Bool.or_eq_true, decide_eq_true_eq, not_or] at this
  omega
theorem ups_filter (ds : List Ent) (p : Ent → Bool) : (ups ds).filter p = ups (ds.filter fun x => p (upd x)) := by
  unfold ups; rw [List.filter_map]; rfl
theorem ups_few {ds : List Ent} (h : O14.Good (ups ds)) : ds.length ≤ 8 := by rw [← ups_len]; exact h.few
def dfst (ps : List EP) : List Ent := ps.map fun x : EP => x.1
theorem gone_dfst (p : Ent → Bool) (ps : List EP) : dfst (gone p ps) = (dfst ps).filter p := gone_fst p ps
theorem left_dfst (p : Ent → Bool) (ps : List EP) : dfst (left p ps) = (dfst ps).filter fun x => !p x := left_fst p ps
/-- what the document's act leaves -/
structure DDid (D M : Nat) (w2 : World) (vd : Value) (es : List Ent) (a : O14.Act) (Ay : Option Addr) (vg : Value) (gs : List EP) (vd' : Value) (ps' : List EP) (wx : World) : Prop where
  ids : HashesAt wx wx.heap.size Ay (doIds es a)
  row : DRow wx vg gs
  all : ∀ x ∈ gs, DOk D wx x
  gs : ups (dfst gs) = doW es a
  pool : DPool D wx M vd' ps'
  es : ups (dfst ps') = doEs es a
  blk : ∀ i, vd'.ownBlock = some i → vd.ownBlock = some i ∨ w2.heap.size ≤ i
  gblk : ∀ i, vg.ownBlock = some i → w2.heap.size ≤ i
  kp : Kp (fun i => i = M) w2 wx
theorem doW_few (es : List Ent) (a : O14.Act) : (doW es a).length ≤ es.length := by
  unfold doW
  split
  · simp
  · split
    · exact List.length_filter_le _ _
    · simp
theorem form_few {t : Txs.Tx} (h : Txs.form t = true) : t.ins.length ≤ 1000 := by
  unfold Txs.form at h
  simp only [Bool.and_eq_true, decide_eq_true_eq] at h
  omega
theorem doIds_few (es : List Ent) (a : O14.Act) : (doIds es a).length ≤ es.length := by
  unfold doIds addGone
  split
  · split
    · split
      · simp
      · rw [List.length_map, List.length_take]; omega
    · simp
  · split
    · simp
    · split <;> (rw [List.length_map]; exact List.length_filter_le _ _)
theorem roww_range {w : World} {base : Nat} {A : Option Addr} {n c : Nat} {qs : List EP} (h : RowW w base (.slice A n c) qs) : n = qs.length ∧ n ≤ c ∧ c ≤ maxLen ∧ ∀ j (hj : j < qs.length), ∃ b, A = some ⟨b, 0, none⟩ ∧ b < w.heap.size ∧ w.rangeAt b (j * 4) (waitPair qs[j]) := by
  obtain ⟨A', c', hv, h1, h2, _, hc⟩ := own_form h
  injection hv with q1 q2 q3
  subst q1 q3 q2
  refine ⟨rfl, h1, h2, fun j hj => ?_⟩
  have hcell : ∀ r (hr : r < 4), ∃ b, A = some ⟨b, 0, none⟩ ∧ b < w.heap.size ∧ w.cell? ⟨b, j * 4 + r, none⟩ = some ((waitPair qs[j])[r]'(by simpa [waitPair] using hr)) := fun r hr => by
    obtain ⟨b, e1, _, e2, e3⟩ := hc (j * 4 + r) ((waitPair qs[j])[r]'(by simpa [waitPair] using hr)) (by
      rw [flatMap_index qs (fun x _ => (rfl : (waitPair x).length = 4)) j hj r hr, List.getElem?_eq_getElem])
    exact ⟨b, e1, e2, e3⟩
  obtain ⟨b, hA, hb, _⟩ := hcell 0 (by omega)
  refine ⟨b, hA, hb, fun r u hu => ?_⟩
  obtain ⟨hr, rfl⟩ := List.getElem?_eq_some_iff.1 hu
  obtain ⟨b', hA', _, hcr⟩ := hcell r (by simpa [waitPair] using hr)
  rw [hA] at hA'
  injection hA' with hA'
  injection hA' with hA' _
  subst hA'
  exact hcr
theorem dpair_cells {w : World} {b off : Nat} {p : EP} (h : w.rangeAt b off (dPair p)) (hl : p.1.id.length = 32) : w.cell? ⟨b, off + 32, none⟩ = some (.int .i64 p.1.src) ∧ w.cell? ⟨b, off + 33, none⟩ = some (.int .u32 (p.1.tx.version : Int)) ∧ w.cell? ⟨b, off + 34, none⟩ = some p.2.1 ∧ w.cell? ⟨b, off + 35, none⟩ = some p.2.2 := by
  have key : ∀ r (u : Value), ([.int .i64 p.1.src, .int .u32 (p.1.tx.version : Int), p.2.1, p.2.2, .int .u64 (p.1.fin : Int)] : List Value)[r]? = some u → w.cell? ⟨b, off + 32 + r, none⟩ = some u := fun r u hu => by
    have := h (32 + r) u (by
      unfold dPair dCells
      rw [List.getElem?_append_right (by rw [List.length_map, hl]; omega), List.length_map, hl, show 32 + r - 32 = r by omega]
      exact hu)
    rwa [← Nat.add_assoc] at this
  exact ⟨key 0 _ rfl, key 1 _ rfl, key 2 _ rfl, key 3 _ rfl⟩
theorem pair_upd {qs gs : List EP} {es : List Ent} (h1 : qs.map (·.1) = es) (h2 : ups (dfst gs) = es) (j : Nat) (hj : j < qs.length) (hg : j < gs.length) : qs[j].1 = upd gs[j].1 := by
  have h := congrArg (fun l => l[j]?) (h1.trans h2.symm)
  simp only [ups, dfst, List.getElem?_map, List.getElem?_eq_getElem hj, List.getElem?_eq_getElem hg, Option.map_some, Option.some.injEq] at h
  exact h
theorem DRow.nil (w : World) : DRow w (.slice none 0 0) [] := ⟨none, 0, rfl, Nat.le_refl _, by simp [maxLen], fun i hi => by simp at hi⟩
theorem orphanActs_walk (w : World) (hlay : Laid w) (A : Option Addr) (n c : Nat) (l : List O14.Act) (hl : l.length = n) (hc : n ≤ c) (hm : c ≤ maxLen) (hat : At 7 (IsAct w w.heap.size) w w.heap.size A l) :
    Calls Tryd.prog 3 #[.slice A n c] w fun e w' => e = .returned (.bool true) ∧ Below w.heap.size w w' := by
  subst hl
  have HLY := Lib.hid hlay
  have HAT := Lib.hid (show ActsAt w w.heap.size A l from hat)
  have HG := Lib.hid (fun W hb => great_any l A c w.heap.size W (HAT.out.below hb) hb.size hc hm)
  obtain ⟨gb, hgb⟩ : ∃ gb, gb = greatB l := ⟨_, rfl⟩
  rw [← hgb] at HG
  have HGB := Lib.hid hgb
  have hZA := zero_act
  generalize (#[.int .i64 0, .int .i64 0, .int .u32 0, .slice none 0 0, .slice none 0 0, .slice none 0 0, .int .u64 0] : Array Value) = za at hZA
  have HZA := Lib.hid hZA
  have HZAL := Lib.hid (show za.size = 7 by
    have := zero_act
    rw [this] at hZA
    simp only [Option.some.injEq, Value.agg.injEq] at hZA
    rw [← hZA]; rfl)
  clear hlay hat hgb hZA
  go_enter Tryd.func3, Tryd.ntmps3
  go_wp2_with fail
  refine (alive_any w HLY.out).mono ?_
  rintro e w2 ⟨rfl, hb2⟩
  have HB2 := Lib.hid hb2
  clear hb2
  go_wp2_with fail
  refine (HG.out w2 HB2.out).mono ?_
  rintro e w3 ⟨rfl, hb3⟩
  have HB3 := Lib.hid (HB2.out.trans (hb3.mono HB2.out.size))
  clear hb3
  cases gb with
  | true =>
    clear HGB
    go_wp2_with fail
    go_ret
    exact ⟨rfl, HB3.out⟩
  | false =>
  obtain ⟨hl1, hpa⟩ := greatA_false HGB.out.symm
  clear HGB
  go_wp2_with fail
  refine (new_any w3).mono ?_
  rintro e w4 ⟨rfl, hbk, hb4, hz4⟩
  obtain ⟨O, hO⟩ : ∃ O, O = w3.heap.size := ⟨_, rfl⟩
  rw [← hO] at hbk ⊢
  have HB4 := Lib.hid (HB3.out.trans (hb4.mono HB3.out.size))
  have HO4 := Lib.hid hbk
  have hOw : w.heap.size ≤ O := by have := HB3.out.size; omega
  have hO4 : O + 1 = w4.heap.size := by omega
  clear hO hbk hb4 hz4
  obtain ⟨M, hM⟩ : ∃ M, M = w4.heap.size := ⟨_, rfl⟩
  obtain ⟨w5, hw5⟩ : ∃ w5, w5 = w4.alloc (.cells #[.slice none 0 0] 30) := ⟨_, rfl⟩
  have HB5 := Lib.hid (show Below w.heap.size w w5 by rw [hw5]; exact HB4.out.alloc HB4.out.size _)
  have HO5 := Lib.hid (show Bk w5 O _ _ by rw [hw5]; exact HO4.out.alloc _)
  have HM5 := Lib.hid (show Bk w5 M 30 #[.slice none 0 0] by rw [hw5, hM]; exact Bk.new _ _ _)
  have hMB : M + 1 = w5.heap.size := by rw [hM, hw5]; simp
  go_upto_region 7 with (fail)
  rw [← hM, ← hw5]
  obtain ⟨B, hB⟩ : ∃ B, B = w5.heap.size := ⟨_, rfl⟩
  have hOM : O + 1 = M := by omega
  rw [← hB] at hMB
  have HPO := Lib.hid (show PoolAt (PU B O (.slice none 0 0)) w5 O B (.slice none 0 0) (ups (dfst [])) from ⟨HO5.out, RowE.nil _ _ _, by simp [Value.ownBlock], .inr (.inl rfl), fun i hi => by simp [Value.ownBlock] at hi⟩)
  have HPM := Lib.hid (show DPool w.heap.size w5 M (.slice none 0 0) [] from ⟨HM5.out, DRow.nil _, fun p hp => (by simp at hp), by omega, fun i hi => by simp [Value.ownBlock] at hi⟩)
  have HBB := Lib.hid (show B ≤ w5.heap.size by omega)
  have hwB : w.heap.size ≤ B := by omega
  clear hM hw5 hB HO4 HO5 HM5 hO4
  go_wp2_with fail
  go_loopw [23] (fun iv wr => ∃ (k : Nat) (v vd : Value) (ps : List EP), iv = .int .i64 (k : Int) ∧ k ≤ l.length ∧ Hid (PoolAt (PU B O v) wr O B v (ups (dfst ps))) ∧ Hid (DPool w.heap.size wr M vd ps) ∧ Hid (∀ i, vd.ownBlock = some i → B ≤ i ∧ v.ownBlock ≠ some i) ∧ Hid (O14.Good (ups (dfst ps))) ∧ Hid (B ≤ wr.heap.size) ∧ Hid (Below w.heap.size w wr)) (fun iv _ => l.length - (intOf iv).toNat)
  case atStart => exact ⟨0, _, _, [], rfl, Nat.zero_le _, HPO, HPM, Lib.hid (fun i hi => by simp [Value.ownBlock] at hi), Lib.hid O14.Good.nil, HBB, HB5⟩
  case round =>
    obtain ⟨k, v, vd, ps, rfl, hk, hP, hD, hV, hGd, hBr, hb⟩ := hrel
    by_cases hlt : k < l.length
    · obtain ⟨b, off, Ai, ci, Ao, co, Ap, cp, rfl, hbB, hr, hnow, htx, hcp, hmp, hat⟩ := ActsAt.range (ActsAt.below HAT.out hb.out) hlt
      have i1 : (0 : Int) ≤ (k : Int) := by omega
      have i2 : (k : Int) < (l.length : Int) := by omega
      have hpa1 := hpa _ (List.getElem_mem hlt)
      have HK1 := Lib.hid (show k + 1 ≤ l.length from hlt)
      generalize l[k] = x at *
      obtain ⟨es, hes⟩ : ∃ es, es = ups (dfst ps) := ⟨_, rfl⟩
      rw [← hes] at hP hGd
      have HES := Lib.hid hes
      obtain ⟨cs, hcs⟩ : ∃ cs, cs = actCells x (.slice Ai x.tx.ins.length ci) (.slice Ao x.tx.outs.length co) (.slice Ap x.parents.length cp) := ⟨_, rfl⟩
      have HL := Lib.hid (show cs.length = 7 by rw [hcs]; rfl)
      have HONE := Lib.hid (show ∀ u ∈ cs, u.oneCell' = true by rw [hcs]; exact act_one _ _ _ _ _ _ _ _ _ _)
      rw [← hcs] at hr
      have HR := Lib.hid hr
      obtain ⟨wx, hwx⟩ : ∃ wx, wx = wr.alloc (.cells cs.toArray 39) := ⟨_, rfl⟩
      obtain ⟨X, hX⟩ : ∃ X, X = wr.heap.size := ⟨_, rfl⟩
      have hbx : Below wr.heap.size wr wx := by rw [hwx]; exact Joins.below_alloc1 _ _
      have HBX := Lib.hid (hb.out.trans (hbx.mono hb.out.size))
      have hPx : PoolAt (PU B O v) wx O B v es := hP.out.kp' (S := fun _ => False) hbx (fun _ _ h => h) hP.out.tO hP.out.tv
      have HDX := Lib.hid (hD.out.kp (S := fun _ => False) (Kp.of_below hbx) hb.out.size (fun _ _ h => h) (fun h => h) (fun _ _ h => h))
      have hbb : Below w.heap.size wr wx := hbx.mono hb.out.size
      have hBx : B ≤ wx.heap.size := Nat.le_trans hBr.out hbx.size
      have HTX := Lib.hid (htx.below hbb)
      have HAP := Lib.hid (show HashesAt wx w.heap.size Ap x.parents from At.below hat hbb)
      have HDO := Lib.hid (do_any _ _ O B v x Ai Ao Ap ci co cp w.heap.size wx (HLY.out.below HBX.out) hPx hBx hGd.out.few HBX.out.size hnow HTX.out HAP.out hpa1)
      have HPX := Lib.hid hPx
      have hszx : w.heap.size ≤ wx.heap.size := HBX.out.size
      have HKX := Lib.hid (show Bk wx X 39 (actCells x (.slice Ai x.tx.ins.length ci) (.slice Ao x.tx.outs.length co) (.slice Ap x.parents.length cp)).toArray by rw [hwx, ← hcs, hX]; exact Bk.new _ _ _)
      obtain ⟨k0, k1, k2, k3, k4, k5, k6⟩ := act_cells HKX.out
      have hXx : X < wx.heap.size := HKX.out.lt
      have hXB : B ≤ X := by rw [hX]; exact hBr.out
      unfold actCells at HDO
      have hVX : ∀ i, v.ownBlock = some i → i < X := fun i hi => by rw [hX]; exact (hP.out.row.lt i hi).2
      clear hr hcs hbx hbb htx hat hPx hP hD hb hBr
      go_upto_region 10 with (refine wpList_elem rfl rfl rfl 39 (.tmp 25) (.tmp 6) (.tmp 26) rfl rfl rfl b (off + k * 7) (by rfl) cs _ HR.out Tryd.underlying39 rfl (by rw [HL.out]; exact size_act) za HZA.out (by rw [HZAL.out, HL.out]) HONE.out (by rfl) (by rfl) ?_)
      rw [← hwx, ← hX]
      clear hwx hX
      go_wp2_with fail
      refine HDO.out.mono ?_
      rintro e w6 ⟨vi, vw, v', qs, rfl, ⟨A1, c1, rfl, g1⟩, g2, g3, g4, g5, g6, g7⟩
      have hOv : ∀ i, i = O ∨ v.ownBlock = some i → i = O ∨ B ≤ i ∧ i < wx.heap.size := fun i hi => hi.elim .inl (fun h => .inr (HPX.out.row.lt i h))
      have HBT := Lib.hid (show Below w.heap.size wx w6 from Kp.low_from7o g7 (fun i hi h => by rcases hOv i h with h | h <;> omega) HBX.out.size)
      have HP6 := Lib.hid (show PoolAt (PU B O v') w6 O B v' (doEs es x) from PU.next g5 hBx HPX.out.bk.lt)
      have hz6 := g7.size
      have HB6 := Lib.hid (show Below w.heap.size w w6 from Kp.from_elder HBX.out g7 (fun i hi h => by rcases hOv i h with h | h <;> omega))
      have HVX := Lib.hid (show ∀ i, vd.ownBlock = some i → B ≤ i ∧ v'.ownBlock ≠ some i from fun i hi => ⟨(hV.out i hi).1, fun e => by
        rcases g6 i e with h | h
        · exact (hV.out i hi).2 h
        · have := (HDX.out.rge i hi).2.2; omega⟩)
      have HD6 := Lib.hid (HDX.out.kp g7 hszx (fun i hi h => by rcases hOv i h with h | h <;> omega) (fun h => by rcases hOv M h with h | h <;> omega) (fun i hi h => by
        rcases h with h | h
        · have := (hV.out i hi).1; omega
        · exact (hV.out i hi).2 h))
      have HX6 := Lib.hid (HKX.out.kp g7 (fun h => by
        rcases h with h | h
        · omega
        · have := hVX X h; omega))
      have HVI := Lib.hid g1
      have HVW := Lib.hid g2
      have HQS := Lib.hid g3
      have HQF := Lib.hid g4
      have HLV := Lib.hid (fun i hi => (HP6.out.row.lt i hi).2)
      have hX6 := HX6.out.lt
      have HBX6 := Lib.hid (show B ≤ w6.heap.size by omega)
      have HGD6 := Lib.hid (hGd.out.do_ x)
      obtain ⟨Aw, cw, hvw, _⟩ := own_form g2
      subst hvw
      obtain ⟨nq, hnq⟩ : ∃ nq, nq = qs.length := ⟨_, rfl⟩
      rw [← hnq]
      have HNQ := Lib.hid hnq
      obtain ⟨ids, hids⟩ : ∃ ids, ids = doIds es x := ⟨_, rfl⟩
      obtain ⟨er, her⟩ : ∃ er, er = doErr es x := ⟨_, rfl⟩
      rw [← hids] at HVI ⊢
      rw [← her]
      have HIDS := Lib.hid hids
      have HER := Lib.hid her
      have hps8 : ps.length ≤ 8 := by
        have := hGd.out.few
        rw [HES.out, ups_len] at this
        simpa [dfst] using this
      have HNOW := Lib.hid hnow
      have HINS := Lib.hid (show ∀ p ∈ ps, p.1.tx.ins.length ≤ 1000 from fun p hp => by
        have h1 := (hGd.out.each (upd p.1) (by rw [HES.out]; exact List.mem_map.2 ⟨p.1, List.mem_map.2 ⟨p, hp, rfl⟩, rfl⟩)).2.1
        exact form_few (Txs.check_ok h1).1)
      clear k0 k1 k2 k3 k4 k5 k6 g1 g2 g3 g4 g5 g6 g7 HDO hOv HDX HKX hes hnq hids her hnow hV
      obtain ⟨k0, k1, k2, k3, k4, k5, k6⟩ := act_cells HX6.out
      have HTX6 := Lib.hid (show TxAt w6 w.heap.size x.tx Ai ci Ao co from HTX.out.below (HBT.out.mono (Nat.le_refl _)))
      have HAP6 := Lib.hid (show HashesAt w6 w.heap.size Ap x.parents from At.below HAP.out HBT.out)
      go_upto_block 2 with fail
      go_cut [10, 11, 12] from 24 to 120 (fun yv vv fv wy => ∃ (Ay : Option Addr) (cy : Nat) (Ag : Option Addr) (cg : Nat) (gs : List EP) (vd' : Value) (ps' : List EP), yv = .slice Ay ids.length cy ∧ vv = .slice Ag gs.length cg ∧ fv = .int .i64 er ∧ Hid (DDid w.heap.size M w6 vd es x Ay vv gs vd' ps' wy))
      case first =>
        by_cases h0 : x.kind = 0
        · have HC := Lib.hid (dadd_any ps w.heap.size M vd x.src x.tx Ai Ao ci co w.heap.size x.now w6 (HLY.out.below HB6.out) HD6.out HB6.out.size HTX6.out HB6.out.size (Nat.le_refl _) HNOW.out hps8)
          have e1 : er = addErr (ups (ps.map fun x : EP => x.1)) x.tx := by rw [HER.out, HES.out]; unfold doErr; rw [if_pos h0]; rfl
          have e2 : ids = addGone (ups (ps.map fun x : EP => x.1)) x.tx := by rw [HIDS.out, HES.out]; unfold doIds; rw [if_pos h0]; rfl
          rw [← e1, ← e2] at HC
          have E3 := Lib.hid (show doEs es x = addEs (ups (dfst ps)) x.src x.tx x.now by rw [HES.out]; unfold doEs; rw [if_pos h0])
          have E4 := Lib.hid (show doW es x = [] by unfold doW; rw [if_pos h0])
          unfold txV at HC
          clear e1 e2
          go_wp2_with fail
          refine HC.out.mono ?_
          rintro e w7 ⟨A2, c2, vd', ps', rfl, q1, q2, q3, q4, q5⟩
          go_wp2_with fail
          go_meet
          exact ⟨A2, c2, none, 0, [], vd', ps', rfl, rfl, rfl, Lib.hid ⟨by rw [← HIDS.out]; exact q1, DRow.nil _, fun x hx => by simp at hx, by rw [E4.out]; rfl, q2, by rw [E3.out, ← ups_add]; exact congrArg ups q3, q4, fun i hi => by simp [Value.ownBlock] at hi, q5⟩⟩
        · by_cases h1 : x.kind = 1
          · have HC := Lib.hid (dtake_any ps w.heap.size M vd x.parents Ap cp w.heap.size w6 HD6.out HB6.out.size (by omega) HAP6.out HB6.out.size hpa1 HINS.out)
            have E1 := Lib.hid (show er = 0 by rw [HER.out]; unfold doErr; rw [if_neg h0])
            have E2 := Lib.hid (show ids = [] by rw [HIDS.out]; unfold doIds; rw [if_neg h0, if_pos h1])
            have E3 := Lib.hid (show doEs es x = ups ((dfst ps).filter fun e => !spends x.parents e.tx) by rw [HES.out]; unfold doEs; rw [if_neg h0, if_pos h1, ups_filter]; rfl)
            have E4 := Lib.hid (show doW es x = ups ((dfst ps).filter fun e => spends x.parents e.tx) by rw [HES.out]; unfold doW; rw [if_neg h0, if_pos h1, ups_filter]; rfl)
            go_wp2_with fail
            refine HC.out.mono ?_
            rintro e w7 ⟨vg, vr, rfl, q1, q2, q3, q4, q5, q6⟩
            have q1' := q1
            obtain ⟨Ag, cg, hvg, _⟩ := q1'
            subst hvg
            go_wp2_with fail
            go_meet
            rw [E2.out]
            exact ⟨none, 0, Ag, cg, _, vr, _, rfl, rfl, by rw [E1.out], Lib.hid ⟨by rw [← HIDS.out, E2.out]; exact fun i hi => by simp at hi, q1, q2, by rw [E4.out, gone_dfst], q3, by rw [E3.out, left_dfst], fun i hi => .inr (q5 i hi), q4, q6⟩⟩
          · by_cases h2 : x.kind = 2
            · have HC := Lib.hid (dleave_any ps w.heap.size M vd x.src w6 HD6.out HB6.out.size (by omega))
              have E1 := Lib.hid (show er = 0 by rw [HER.out]; unfold doErr; rw [if_neg h0])
              have E2 := Lib.hid (show ids = (gone (fun e => decide (e.src = x.src)) ps).map (·.1.id) by
                rw [HIDS.out, HES.out]; unfold doIds; rw [if_neg h0, if_neg h1, if_pos h2, ups_filter, ups_id, show (fun e : Ent => decide ((upd e).src = x.src)) = fun e => decide (e.src = x.src) from rfl, ← gone_dfst]
                unfold dfst; rw [List.map_map]; rfl)
              have E3 := Lib.hid (show doEs es x = ups ((dfst ps).filter fun e => !decide (e.src = x.src)) by rw [HES.out]; unfold doEs; rw [if_neg h0, if_neg h1, if_pos h2, ups_filter]; rfl)
              have E4 := Lib.hid (show doW es x = [] by unfold doW; rw [if_neg h0, if_neg h1])
              go_wp2_with fail
              refine HC.out.mono ?_
              rintro e w7 ⟨vi, vr, rfl, q1, q3, q5, q6⟩
              obtain ⟨Ay, cy, hvi, _, _, hat1⟩ := q1.at_
              subst hvi
              rw [← E2.out] at hat1 ⊢
              go_wp2_with fail
              go_meet
              exact ⟨Ay, cy, none, 0, [], vr, _, rfl, rfl, by rw [E1.out], Lib.hid ⟨by rw [← HIDS.out]; exact hat1, DRow.nil _, fun x hx => by simp at hx, by rw [E4.out]; rfl, q3, by rw [E3.out, left_dfst], fun i hi => .inr (q5 i hi), fun i hi => by simp [Value.ownBlock] at hi, q6⟩⟩
            · have HC := Lib.hid (dexpire_any ps w.heap.size M vd x.now w6 HD6.out HB6.out.size (by omega))
              have E1 := Lib.hid (show er = 0 by rw [HER.out]; unfold doErr; rw [if_neg h0])
              have E2 := Lib.hid (show ids = (gone (fun e => decide (min (e.fin + 300) 18446744073709551615 ≤ x.now)) ps).map (·.1.id) by
                rw [HIDS.out, HES.out]; unfold doIds; rw [if_neg h0, if_neg h1, if_neg h2, ups_filter, ups_id, show (fun e : Ent => decide ((upd e).fin ≤ x.now)) = fun e => decide (min (e.fin + 300) 18446744073709551615 ≤ x.now) from rfl, ← gone_dfst]
                unfold dfst; rw [List.map_map]; rfl)
              have E3 := Lib.hid (show doEs es x = ups ((dfst ps).filter fun e => !decide (min (e.fin + 300) 18446744073709551615 ≤ x.now)) by rw [HES.out]; unfold doEs; rw [if_neg h0, if_neg h1, if_neg h2, ups_filter]; rfl)
              have E4 := Lib.hid (show doW es x = [] by unfold doW; rw [if_neg h0, if_neg h1])
              go_wp2_with fail
              refine HC.out.mono ?_
              rintro e w7 ⟨vi, vr, rfl, q1, q3, q5, q6⟩
              obtain ⟨Ay, cy, hvi, _, _, hat1⟩ := q1.at_
              subst hvi
              rw [← E2.out] at hat1 ⊢
              go_wp2_with fail
              go_meet
              exact ⟨Ay, cy, none, 0, [], vr, _, rfl, rfl, by rw [E1.out], Lib.hid ⟨by rw [← HIDS.out]; exact hat1, DRow.nil _, fun x hx => by simp at hx, by rw [E4.out]; rfl, q3, by rw [E3.out, left_dfst], fun i hi => .inr (q5 i hi), fun i hi => by simp [Value.ownBlock] at hi, q6⟩⟩
      case rest =>
        obtain ⟨Ay, cy, Ag, cg, gs, vd', ps', rfl, rfl, rfl, HDD⟩ := hcut
        have hkm := HDD.out.kp
        obtain ⟨Av6, cv6, hvd6, _⟩ := HD6.out.row
        have HVI7 := Lib.hid (hashes_kpM HVI.out (by have := HD6.out.bk; rw [hvd6] at this; exact this) hkm)
        have HP7 := Lib.hid (show PoolAt (PU B O v') wc O B v' (doEs es x) from HP6.out.kp hkm (by omega) (fun i hi e => by have := (HP6.out.row.lt i hi).1; omega) (fun i _ e => .inl (by omega)) (fun _ _ h => h) HP6.out.tO HP6.out.tv)
        have HVW7 := Lib.hid (show RowW wc wx.heap.size (.slice Aw nq cw) qs from by
          have := HVW.out
          rw [← HNQ.out] at this
          exact own_kpo this hkm (fun i hi e => by have := (own_lt this i hi).1; omega))
        have HQS7 := Lib.hid (show ∀ y ∈ qs, PairOk (fun _ => False) wc y from fun y hy => (HQS.out y hy).step hkm (fun i _ e => .inl ⟨.inl (by omega), by omega⟩) (fun _ _ h => h.elim))
        have HB7 := Lib.hid (show Below w.heap.size w wc from Kp.from_elder HB6.out hkm (fun i hi e => by omega))
        have hz7 := hkm.size
        have HGL := Lib.hid (show gs.length = nq by
          have h1 := congrArg List.length HQF.out
          have h2 := congrArg List.length HDD.out.gs
          rw [ups_len] at h2
          simp only [dfst, List.length_map] at h1 h2
          rw [HNQ.out, h1, h2])
        have HES' := Lib.hid (show (doEs es x).map Ent.id = ps'.map (·.1.id) by
          rw [← HDD.out.es, ups_id]
          unfold dfst
          rw [List.map_map]; rfl)
        have HIL := Lib.hid (show ids.length ≤ 1000000 by
          have := doIds_few es x
          have := hGd.out.few
          rw [HIDS.out]; omega)
        have HSM1 := Lib.hid (sameids_any ids ids A1 Ay c1 cy wc.heap.size wc.heap.size wc HVI7.out (Nat.le_refl _) (by rw [HIDS.out] at *; exact HDD.out.ids) (Nat.le_refl _) HIL.out HIL.out)
        rw [decide_eq_true rfl] at HSM1
        rw [HGL.out]
        have hps8' : ps'.length ≤ 8 := by
          have := HGD6.out.few
          rw [← HDD.out.es, ups_len] at this
          simpa [dfst] using this
        have HVE := Lib.hid (show ∀ i, vd'.ownBlock = some i → B ≤ i ∧ v'.ownBlock ≠ some i from fun i hi => by
          rcases HDD.out.blk i hi with h | h
          · exact HVX.out i h
          · exact ⟨by have := HBX6.out; omega, fun e => by have := HLV.out i e; omega⟩)
        have hes8 := HGD6.out.few
        have hnq8 : nq ≤ 8 := by
          have h1 := congrArg List.length HQF.out
          rw [List.length_map, ← HNQ.out] at h1
          have h2 := doW_few es x
          have := hGd.out.few
          omega
        clear hkm hvd6
        go_wp2_with fail
        refine HSM1.out.mono ?_
        rintro e w8 ⟨rfl, hb8⟩
        have HP8 := Lib.hid (HP7.out.kp' (S := fun _ => False) hb8 (fun _ _ h => h) HP7.out.tO HP7.out.tv)
        have HD8 := Lib.hid (HDD.out.pool.kp (S := fun _ => False) (Kp.of_below hb8) HB7.out.size (fun _ _ h => h) (fun h => h) (fun _ _ h => h))
        have HB8 := Lib.hid hb8
        clear hb8 HSM1
        obtain ⟨L, hL⟩ : ∃ L, L = (doEs es x).map Ent.id := ⟨_, rfl⟩
        obtain ⟨m, hm⟩ : ∃ m, m = L.length := ⟨_, rfl⟩
        have hm8 : m ≤ 8 := by rw [hm, hL, List.length_map]; exact hes8
        have HALL := Lib.hid (show Calls Tryd.prog 18 #[.pointer (some ⟨O, 0, none⟩)] w8 fun e w' => ∃ A1 c1, e = .returned (.slice A1 m c1) ∧ Hid (HashesAt w' w'.heap.size A1 L) ∧ Below w8.heap.size w8 w' by
          refine (all_any _ _ O B v' w8 HP8.out (by omega)).mono ?_
          rintro e w9 ⟨A4, c4, rfl, hi4, hb9⟩
          obtain ⟨A4', c4', hv4, _, _, hat4⟩ := hi4.at_
          injection hv4 with q1 q2 q3
          clear q2
          subst q1
          exact ⟨A4, c4, by rw [hm, hL, List.length_map], Lib.hid (by rw [hL]; exact hat4), hb9⟩)
        have HIDS2 := Lib.hid (show ∀ W, DPool w.heap.size W M vd' ps' → Calls Tryd.prog 19 #[.pointer (some ⟨M, 0, none⟩)] W fun e w' => ∃ A1 c1, e = .returned (.slice A1 m c1) ∧ Hid (HashesAt w' w'.heap.size A1 L) ∧ Below W.heap.size W w' from fun W hW => by
          refine (dIds_any ps' w.heap.size M vd' W hW (by omega)).mono ?_
          rintro e w9 ⟨v5, rfl, hi4, hb9⟩
          obtain ⟨A4', c4', hv4, _, _, hat4⟩ := hi4.at_
          subst hv4
          rw [← HES'.out, ← hL] at hat4 ⊢
          exact ⟨A4', c4', by rw [hm], Lib.hid hat4, hb9⟩)
        have HSMS := Lib.hid (show ∀ (W : World) (A4 A5 : Option Addr) (c4 c5 : Nat), HashesAt W W.heap.size A4 L → HashesAt W W.heap.size A5 L → Calls Tryd.prog 17 #[.slice A4 m c4, .slice A5 m c5] W fun e w' => e = .returned (.bool true) ∧ Below W.heap.size W w' from fun W A4 A5 c4 c5 h4 h5 => by
          have := sameids_any L L A4 A5 c4 c5 W.heap.size W.heap.size W h4 (Nat.le_refl _) h5 (Nat.le_refl _) (by rw [← hm]; omega) (by rw [← hm]; omega)
          rw [decide_eq_true rfl, ← hm] at this
          exact this)
        clear hL hm
        go_wp2_with fail
        refine HALL.out.mono ?_
        rintro e w9 ⟨A4, c4, rfl, HAT4, hb9⟩
        have HD9 := Lib.hid (HD8.out.kp (S := fun _ => False) (Kp.of_below hb9) (Nat.le_trans HB7.out.size HB8.out.size) (fun _ _ h => h) (fun h => h) (fun _ _ h => h))
        have HB9 := Lib.hid (HB8.out.trans (hb9.mono HB8.out.size))
        clear hb9
        go_wp2_with fail
        refine (HIDS2.out w9 HD9.out).mono ?_
        rintro e w10 ⟨A5, c5, rfl, HAT5, hb10⟩
        have HB10 := Lib.hid (HB9.out.trans (hb10.mono HB9.out.size))
        have HAT6 := Lib.hid (show HashesAt w10 w10.heap.size A4 _ from At.kpZ HAT4.out (Nat.le_refl _) (Kp.of_below (S := fun _ => False) hb10) (fun _ _ _ h => h))
        have HSM2 := Lib.hid (HSMS.out w10 A4 A5 c4 c5 HAT6.out HAT5.out)
        clear hb10 HSMS HIDS2 HALL
        go_wp2_with fail
        refine HSM2.out.mono ?_
        rintro e w11 ⟨rfl, hb11⟩
        have HB11 := Lib.hid (HB10.out.trans (hb11.mono HB10.out.size))
        have HP11 := Lib.hid (HP7.out.kp' (S := fun _ => False) HB11.out (fun _ _ h => h) HP7.out.tO HP7.out.tv)
        have HD11 := Lib.hid (HDD.out.pool.kp (S := fun _ => False) (Kp.of_below HB11.out) HB7.out.size (fun _ _ h => h) (fun h => h) (fun _ _ h => h))
        clear hb11 HSM2 HAT4 HAT5 HAT6 HD8 HD9 HP8
        have HW11 := Lib.hid (show RowW w11 wx.heap.size (.slice Aw nq cw) qs from own_kpo HVW7.out (Kp.of_below (S := fun _ => False) HB11.out) (fun _ _ h => h))
        have HQ11 := Lib.hid (show ∀ y ∈ qs, PairOk (fun _ => False) w11 y from fun y hy => (HQS7.out y hy).step (S := fun _ => False) (Kp.of_below HB11.out) (fun _ _ h => h) (fun _ _ h => h))
        have HG11 := Lib.hid (HDD.out.row.kp (S := fun _ => False) (Kp.of_below HB11.out) (fun _ _ h => h))
        have HA11 := Lib.hid (fun p hp => (HDD.out.all p hp).kp (S := fun _ => False) (Kp.of_below HB11.out) HB7.out.size (fun _ _ h => h))
        have HBW11 := Lib.hid (HB7.out.trans (HB11.out.mono HB7.out.size))
        rw [HGL.out] at HG11
        clear HVW7 HQS7
        go_wp2_with fail
        go_loopw [91] (fun jv wr => ∃ j : Nat, jv = .int .i64 (j : Int) ∧ j ≤ nq ∧ Hid (Below w11.heap.size w11 wr)) (fun jv _ => nq - (intOf jv).toNat)
        case atStart => exact ⟨0, rfl, Nat.zero_le _, Lib.hid (Below.refl _ _)⟩
        case round =>
          obtain ⟨j, rfl, hj, hbq⟩ := hrel
          by_cases hjl : j < nq
          · obtain ⟨hn1, hn2, hn3, hrw⟩ := roww_range HW11.out
            have hjq : j < qs.length := by omega
            have hjg : j < gs.length := by rw [HGL.out]; exact hjl
            obtain ⟨bw, rfl, hbw, hr1⟩ := hrw j hjq
            obtain ⟨Ag', cg', hvg', _, _, hrg⟩ := HG11.out
            injection hvg' with q1 q2 q3
            clear q2
            subst q1 q3
            obtain ⟨bg, og, rfl, hbg, hr2⟩ := hrg j hjg
            have hok := HA11.out _ (List.getElem_mem hjg)
            have hup := pair_upd HQF.out HDD.out.gs j hjq hjg
            have hpk := HQ11.out _ (List.getElem_mem hjq)
            generalize qs[j] = q at *
            generalize gs[j] = g at *
            obtain ⟨hgl, _, Gi, gi, Go, go, hg1, hg2, hgt⟩ := hok
            obtain ⟨_, Qi, qi, Qo, qo, hq1, hq2, hqt⟩ := hpk
            have hqt := hqt.now
            obtain ⟨d0, d1, d2, d3⟩ := dpair_cells hr2 hgl
            have htx : q.1.tx = g.1.tx := by rw [hup]; rfl
            have hsrc : q.1.src = g.1.src := by rw [hup]; rfl
            have f0 : w11.cell? ⟨bw, j * 4 + 0, none⟩ = some (.int .i64 q.1.src) := hr1 0 _ rfl
            have f1 : w11.cell? ⟨bw, j * 4 + 1, none⟩ = some (.int .u32 (q.1.tx.version : Int)) := hr1 1 _ rfl
            have f2 : w11.cell? ⟨bw, j * 4 + 2, none⟩ = some q.2.1 := hr1 2 _ rfl
            have f3 : w11.cell? ⟨bw, j * 4 + 3, none⟩ = some q.2.2 := hr1 3 _ rfl
            rw [hq1] at f2
            rw [hq2] at f3
            rw [hg1] at d2
            rw [hg2] at d3
            rw [htx] at f1 f2 f3 hqt
            rw [hsrc] at f0
            have hgt' := hgt
            generalize g.1.tx = t at *
            generalize g.1.src = sr at *
            have hbl : ∀ W, Below wr.heap.size wr W → Below w11.heap.size w11 W := fun W hW => hbq.out.trans (hW.mono hbq.out.size)
            have HSAME := Lib.hid (fun W (hW : Below wr.heap.size wr W) => rsame_any t t Qi Qo Gi Go qi qo gi go w11.heap.size w.heap.size W (hqt.below (hbl W hW)) (hgt.below ((hbl W hW).mono HBW11.out.size)) (hbl W hW).size (Nat.le_trans HBW11.out.size (hbl W hW).size))
            rw [decide_eq_true rfl] at HSAME
            unfold txV at HSAME
            have c0 : wr.cell? ⟨bw, j * 4, none⟩ = some (.int .i64 sr) := (hbq.out.cell (p := ⟨bw, j * 4, none⟩) hbw).trans f0
            have c1 : wr.cell? ⟨bw, j * 4 + 1, none⟩ = some (.int .u32 (t.version : Int)) := (hbq.out.cell (p := ⟨bw, j * 4 + 1, none⟩) hbw).trans f1
            have c2 : wr.cell? ⟨bw, j * 4 + 2, none⟩ = some (.slice Qi t.ins.length qi) := (hbq.out.cell (p := ⟨bw, j * 4 + 2, none⟩) hbw).trans f2
            have c3 : wr.cell? ⟨bw, j * 4 + 3, none⟩ = some (.slice Qo t.outs.length qo) := (hbq.out.cell (p := ⟨bw, j * 4 + 3, none⟩) hbw).trans f3
            have c4 : wr.cell? ⟨bg, og + j * 37 + 32, none⟩ = some (.int .i64 sr) := (hbq.out.cell (p := ⟨bg, og + j * 37 + 32, none⟩) hbg).trans d0
            have c5 : wr.cell? ⟨bg, og + j * 37 + 33, none⟩ = some (.int .u32 (t.version : Int)) := (hbq.out.cell (p := ⟨bg, og + j * 37 + 33, none⟩) hbg).trans d1
            have c6 : wr.cell? ⟨bg, og + j * 37 + 34, none⟩ = some (.slice Gi t.ins.length gi) := (hbq.out.cell (p := ⟨bg, og + j * 37 + 34, none⟩) hbg).trans d2
            have c7 : wr.cell? ⟨bg, og + j * 37 + 35, none⟩ = some (.slice Go t.outs.length go) := (hbq.out.cell (p := ⟨bg, og + j * 37 + 35, none⟩) hbg).trans d3
            have hbw' : bw < wr.drew.heap.size := Nat.lt_of_lt_of_le hbw hbq.out.size
            have hbg' : bg < wr.drew.heap.size := Nat.lt_of_lt_of_le hbg hbq.out.size
            have i3 : (0 : Int) ≤ (j : Int) := by omega
            have i4 : (j : Int) < (nq : Int) := by omega
            have HJ := Lib.hid (show j + 1 ≤ nq from hjl)
            clear hn1 hr1 hr2 hup hgl hg1 hg2 hq1 hq2 htx hsrc f0 f1 f2 f3 d0 d1 d2 d3 hgt hgt' hqt hrw hrg
            go_upto_region 27 with (fail)
            go_region_held3 (fun W => W.cell? ⟨bw, j * 4, none⟩ = some (.int .i64 sr) ∧ W.cell? ⟨bw, j * 4 + 1, none⟩ = some (.int .u32 (t.version : Int)) ∧ W.cell? ⟨bw, j * 4 + 2, none⟩ = some (.slice Qi t.ins.length qi) ∧ W.cell? ⟨bw, j * 4 + 3, none⟩ = some (.slice Qo t.outs.length qo) ∧
              W.cell? ⟨bg, og + j * 37 + 32, none⟩ = some (.int .i64 sr) ∧ W.cell? ⟨bg, og + j * 37 + 33, none⟩ = some (.int .u32 (t.version : Int)) ∧ W.cell? ⟨bg, og + j * 37 + 34, none⟩ = some (.slice Gi t.ins.length gi) ∧ W.cell? ⟨bg, og + j * 37 + 35, none⟩ = some (.slice Go t.outs.length go)) (first | go_keep | exact ⟨(hb12.cell (p := ⟨bw, j * 4, none⟩) hbw').trans c0, (hb12.cell (p := ⟨bw, j * 4 + 1, none⟩) hbw').trans c1, (hb12.cell (p := ⟨bw, j * 4 + 2, none⟩) hbw').trans c2, (hb12.cell (p := ⟨bw, j * 4 + 3, none⟩) hbw').trans c3, (hb12.cell (p := ⟨bg, og + j * 37 + 32, none⟩) hbg').trans c4, (hb12.cell (p := ⟨bg, og + j * 37 + 33, none⟩) hbg').trans c5, (hb12.cell (p := ⟨bg, og + j * 37 + 34, none⟩) hbg').trans c6, (hb12.cell (p := ⟨bg, og + j * 37 + 35, none⟩) hbg').trans c7⟩)
              ((go_at_call 20; (refine (HSAME.out _ ((Below.refl _ _).drew)).mono ?_); rintro e w12 ⟨rfl, hb12⟩))
            have HBQ := Lib.hid (hbq.out.trans (((Below.refl wr.heap.size wr).drew.trans hb12).mono hbq.out.size))
            go_wp2_with fail
            go_roundw
            case rel => exact ⟨j + 1, by go_num, HJ.out, HBQ⟩
            case measure => have := HJ.out; simp [intOf]; omega
          · have hjn : j = nq := by omega
            clear hjl
            go_wp2_with fail
            go_roundw
            case rel =>
              have hbz := HBW11.out.trans (hbq.out.mono HBW11.out.size)
              exact ⟨k + 1, v', vd', ps', by go_num, HK1.out, Lib.hid (by rw [HDD.out.es]; exact HP11.out.kp' (S := fun _ => False) hbq.out (fun _ _ h => h) HP11.out.tO HP11.out.tv), Lib.hid (HD11.out.kp (S := fun _ => False) (Kp.of_below hbq.out) HBW11.out.size (fun _ _ h => h) (fun h => h) (fun _ _ h => h)),
                HVE, Lib.hid (by rw [HDD.out.es]; exact HGD6.out), Lib.hid (by have := hbq.out.size; have := HB11.out.size; have := HBX6.out; omega), Lib.hid hbz⟩
            case measure => have := HK1.out; simp [intOf]; omega
    · have hkl : k = l.length := by omega
      go_wp2_with fail
      go_ret
      exact ⟨rfl, hb.out⟩
end Go.Proofs.YtacbibflhdmcoaaDoor
