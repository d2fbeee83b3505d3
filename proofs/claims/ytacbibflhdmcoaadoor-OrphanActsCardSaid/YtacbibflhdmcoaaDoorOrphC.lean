/- OrphC, merged: OrphAdd, OrphC. -/
import Derived.Test.YtacbibflhdmcoaaDoorOrphB
import Derived.Test.YtacbibflhdmcoaaDoorOrders
import Derived.Test.YtacbibflhdmcoaaDoorTxBuilt
import Derived.Test.YtacbibflhdmcoaaDoorOrphA
import Derived.Test.YtacbibflhdmcoaaDoorTxGuard
/- Add, where it lets one wait. -/
namespace Go.Proofs.YtacbibflhdmcoaaDoor.O14
open Go.RowKit Go.Deep T7
set_option linter.unusedVariables false
set_option linter.unusedSimpArgs false
set_option maxRecDepth 100000
set_option maxHeartbeats 4000000
attribute [local go_sem ↓] Go.wp_at_zero Go.wp_at_succ

theorem later_nat (now : Nat) : later (now : Int) 300 = ((min (now + 300) 18446744073709551615 : Nat) : Int) := by unfold later; omega
theorem built_wait (s : Int) (v : Nat) (A1 A2 : Option Addr) (n c n' c' : Nat) : Tryd.prog.built 52 [(0, .int .i64 s), (1, .agg #[.int .u32 (v : Int), .slice A1 n c, .slice A2 n' c'])] = some #[.int .i64 s, .int .u32 (v : Int), .slice A1 n c, .slice A2 n' c'] := by kernel_rfl
theorem built_ent (e : Ent) (A1 A2 : Option Addr) (n c n' c' : Nat) (h : e.id.length = 32) : Tryd.prog.built 96 [(0, .agg #[.int .i64 e.src, .int .u32 (e.tx.version : Int), .slice A1 n c, .slice A2 n' c']), (1, .agg (e.id.map byteV).toArray), (2, .int .u64 (e.fin : Int))] = some (entCells e (.slice A1 n c) (.slice A2 n' c')).toArray := by
  obtain ⟨src, tx, id, fin⟩ := e
  exact list32 (P := fun id => Tryd.prog.built 96 [(0, .agg #[.int .i64 src, .int .u32 (tx.version : Int), .slice A1 n c, .slice A2 n' c']), (1, .agg (id.map byteV).toArray), (2, .int .u64 (fin : Int))] = some (entCells ⟨src, tx, id, fin⟩ (.slice A1 n c) (.slice A2 n' c')).toArray) (fun b0 b1 b2 b3 b4 b5 b6 b7 b8 b9 b10 b11 b12 b13 b14 b15 b16 b17 b18 b19 b20 b21 b22 b23 b24 b25 b26 b27 b28 b29 b30 b31 => by kernel_rfl) id h
theorem first_id {qs : List EP} {es : List Ent} {x : Ent} (h : qs.map (·.1) = es ++ [x]) (he : es.length ≠ 0) (hq : 0 < qs.length) : (es.take 1).map Ent.id = [qs[0].1.id] := by
  match qs, es, h with
  | q :: qs, e :: es, h =>
    simp only [List.map_cons, List.cons_append, List.cons.injEq] at h
    simp [h.1]
  | [], _, _ => simp at hq
  | _, [], _ => simp at he
theorem add_pool {T : Nat → Prop} {w w6 w8 w9 w10 : World} {O base m cV c9 c1 c2 : Nat} {AV A9 A1 A2 : Option Addr} {ps : List EP} {t : Txs.Tx} {o : Obj} {e : Ent} {cx : List Value} (HB6 : Below w.heap.size w w6) (HPP : PoolP T w6 O base (.slice AV m cV) ps) (hOw : O < w.heap.size)
    (hvw : ∀ i, (Value.slice AV m cV).ownBlock = some i → i < w.heap.size) (HB8 : Below w6.heap.size w6 w8) (HN8 : TxNew w6.heap.size w8 t A1 c1 A2 c2) (HRow : w9.ownsRow base 96 37 (.slice A9 (m + 1) c9) (m + 1) (ps.flatMap entPair ++ cx))
    (HG : (w8.alloc o).grownBy w9 (Value.slice AV m cV).ownBlock) (HAT : (Value.slice A9 (m + 1) c9).ownBlock = (Value.slice AV m cV).ownBlock ∨ (Value.slice A9 (m + 1) c9).ownBlock = some (w8.alloc o).heap.size)
    (HK10 : Kp (fun i => i = O) w9 w10) (HO10 : Bk w10 O 82 #[.slice A9 (m + 1) c9]) (hm : m = ps.length) (he : e.Ok) (htx : e.tx = t) (hcx : cx = entCells e (.slice A1 t.ins.length c1) (.slice A2 t.outs.length c2)) :
    PoolP (Tn T w (.slice A9 (m + 1) c9)) w10 O base (.slice A9 (m + 1) c9) (ps ++ [(e, .slice A1 t.ins.length c1, .slice A2 t.outs.length c2)]) ∧
    ((Value.slice A9 (m + 1) c9).ownBlock = (Value.slice AV m cV).ownBlock ∨ ∃ g, (Value.slice A9 (m + 1) c9).ownBlock = some g ∧ w.heap.size ≤ g) ∧ Kp (fun i => i = O ∨ (Value.slice AV m cV).ownBlock = some i) w w10 := by
  have s6 := HB6.size
  have s8 := HB8.size
  have sa : (w8.alloc o).heap.size = w8.heap.size + 1 := by simp
  have k89 : Kp (fun i => (Value.slice AV m cV).ownBlock = some i) w8 w9 := ((Kp.refl _ _).alloc o).trans ((Kp.refl _ _).grown HG (fun k hk _ => hk))
  have k8 : Kp (fun i => i = O ∨ (Value.slice AV m cV).ownBlock = some i) w8 w10 := (k89.mono fun _ _ h => .inr h).trans (HK10.mono fun _ _ h => .inl h)
  have k6 : Kp (fun i => i = O ∨ (Value.slice AV m cV).ownBlock = some i) w6 w10 := (Kp.of_below HB8).trans k8
  have kw : Kp (fun i => i = O ∨ (Value.slice AV m cV).ownBlock = some i) w w10 := (Kp.of_below HB6).trans k6
  have hne : (Value.slice A9 (m + 1) c9).ownBlock ≠ some O := by
    intro h
    rcases HAT with h' | h'
    · exact HPP.ne (h'.symm.trans h)
    · have := Option.some.inj (h'.symm.trans h); omega
  have hold : ∀ i, i < w8.heap.size → Tn T w (.slice A9 (m + 1) c9) i → i < w.heap.size ∧ T i := by
    intro i hi h
    rcases h with h | h
    · exact ⟨h.2, h.1⟩
    · rcases HAT with h' | h'
      · have := h'.symm.trans h; exact ⟨hvw i this, HPP.tv i this⟩
      · have := Option.some.inj (h'.symm.trans h); omega
  refine ⟨⟨HO10, ?_, ?_, hne, .inl ⟨HPP.tO, hOw⟩, fun i hi => .inr hi⟩, ?_, kw⟩
  · have := own_kpo HRow HK10 (fun i hi e => hne (e ▸ hi))
    rw [hm] at this ⊢
    exact RowP.push (by rw [hcx, ← htx] at this; rw [← htx]; exact this)
  · intro p hp
    rcases List.mem_append.1 hp with h | h
    · exact (HPP.all p h).step k6 (fun i _ h => h.elim (fun e => e ▸ HPP.tO) (HPP.tv i)) (fun i hi h => (hold i (by omega) h).2)
    · rw [List.mem_singleton.1 h]
      refine ⟨he, ?_⟩
      show TxPers _ w10 e.tx _ _
      rw [htx]
      exact (TxPers.of_new (T := fun i => i < w6.heap.size) HN8 (fun i _ h => h)).step k8 (fun i hi h => h.elim (fun e => by omega) (fun h => by have := hvw i h; omega)) (fun i hi h => by have := (hold i hi h).1; omega)
  · rcases HAT with h | h
    · exact .inl h
    · exact .inr ⟨_, h, by omega⟩
theorem add_ok (T : Nat → Prop) (es : List Ent) (O base : Nat) (v : Value) (src : Int) (t : Txs.Tx) (A A' : Option Addr) (c c' B : Nat) (now : Nat) (w : World) (hlay : Laid w) (h : PoolAt T w O base v es) (ht : TxAt w B t A c A' c') (hB : B ≤ w.heap.size) (hbase : base ≤ w.heap.size) (hc : Txs.check t = 0)
    (hh : hasId es (Txs.id t) = false) (h8 : es.length ≤ 8) (hnow : now < 18446744073709551616) :
    Calls Tryd.prog 25 #[.pointer (some ⟨O, 0, none⟩), .int .i64 src, txV t A c A' c', .int .u64 (now : Int)] w
      (AddTo T w O base v (if es.length < 8 then es ++ [entOf src t now] else (es ++ [entOf src t now]).drop 1) (if es.length < 8 then [] else (es.take 1).map Ent.id) 0) := by
  have hn : es.length ≤ 1000 := by omega
  obtain ⟨af, haf⟩ : ∃ af, af = (if es.length < 8 then es ++ [entOf src t now] else (es ++ [entOf src t now]).drop 1) := ⟨_, rfl⟩
  obtain ⟨gn, hgn⟩ : ∃ gn, gn = (if es.length < 8 then [] else (es.take 1).map Ent.id) := ⟨_, rfl⟩
  rw [← haf, ← hgn]
  have HAF := Lib.hid haf
  have HGN := Lib.hid hgn
  clear haf hgn
  have HFO := Lib.hid (Txs.check_ok hc).1
  have HP := Lib.hid h
  have HC := Lib.hid (fun W h1 h2 => hc ▸ check7_any t A A' c c' B W h1 h2)
  have hic := Txs.idErr_of hc
  have HI := Lib.hid (fun W (hl : Laid W) h1 h2 => hic ▸ id_any t A A' c c' B W hl h1 h2)
  have HT := Lib.hid ht
  have HLY := Lib.hid hlay
  obtain ⟨id, hid'⟩ : ∃ id, id = Txs.id t := ⟨_, rfl⟩
  have HIL := Lib.hid (show id.length = 32 by rw [hid']; exact id_len t)
  have HII := Lib.hid hid'
  rw [← hid'] at HI hh
  obtain ⟨ia, hia⟩ : ∃ ia, ia = bytesArr id := ⟨_, rfl⟩
  have HIA := Lib.hid hia
  have HIS := Lib.hid (show ia.size = 32 by rw [hia]; simp [bytesArr, HIL.out])
  have HI1 := Lib.hid (show ia.all (·.oneCell') = true by rw [hia]; simp [bytesArr, Value.oneCell', byteV])
  rw [← hia] at HI
  have HHAS := Lib.hid (show ∀ W, PoolAt T W O base v es → Calls Tryd.prog 23 #[.pointer (some ⟨O, 0, none⟩), .agg ia] W fun e w' => e = .returned (.bool false) ∧ Below W.heap.size W w' from fun W hp => by
    have := has_any T es O base v id HIL.out W hp hn
    rw [show (es.any fun x => decide (x.id = id)) = false from hh] at this
    rw [hia]
    exact this)
  obtain ⟨zs, hzs⟩ : ∃ zs, zs = bytesArr (List.replicate 32 (0 : UInt8)) := ⟨_, rfl⟩
  have HZ := Lib.hid (show (Tryd.prog.info? 54).map (·.zero) = some (some (.agg zs)) by rw [hzs]; exact zero_hash)
  have HZL := Lib.hid (show zs.size = 32 by rw [hzs]; simp [bytesArr])
  clear h ht hc hic hlay hid' hia hh hzs
  unfold txV at HC HI ⊢
  go_enter Tryd.func25, Tryd.ntmps25
  go_wp2_with fail
  refine (HC.out _ (HT.out.below ((Joins.below_alloc1 w _).mono hB)) (by simp; omega)).mono ?_
  rintro e w3 ⟨rfl, hb3⟩
  have HB3 := Lib.hid ((Joins.below_alloc1 w (.cells #[.int .u32 (t.version : Int), .slice A t.ins.length c, .slice A' t.outs.length c'] 35)).trans (hb3.mono (by simp)))
  have HK3 := Lib.hid (Bk.below (Bk.new w 35 #[.int .u32 (t.version : Int), .slice A t.ins.length c, .slice A' t.outs.length c']) hb3 (by simp))
  have k0 : w3.cell? ⟨w.heap.size, 0, none⟩ = some (.int .u32 (t.version : Int)) := (HK3.out.cell 0).trans rfl
  have k1 : w3.cell? ⟨w.heap.size, 1, none⟩ = some (.slice A t.ins.length c) := (HK3.out.cell 1).trans rfl
  have k2 : w3.cell? ⟨w.heap.size, 2, none⟩ = some (.slice A' t.outs.length c') := (HK3.out.cell 2).trans rfl
  have hz3 : w.heap.size + 1 ≤ w3.heap.size := by have := hb3.size; simpa using this
  clear hb3
  go_wp2_with fail
  refine (HI.out _ (HLY.out.below HB3.out) (HT.out.below (HB3.out.mono hB)) (by omega)).mono ?_
  rintro e w4 ⟨rfl, hb4⟩
  have HB4 := Lib.hid (HB3.out.trans (hb4.mono (by omega)))
  have HK4 := Lib.hid (HK3.out.below hb4 (by omega))
  have hz4 : w.heap.size + 1 ≤ w4.heap.size := by have := hb4.size; omega
  clear hb4 k0 k1 k2 HK3 HC HI
  go_upto_region 7 with (first
    | (refine wpList_allocOf rfl 54 rfl zs HZ.out ?_)
    | (refine wpList_store_row rfl 54 (.tmp 11) (.tmp 24) rfl w4.heap.size ia (by rfl) (by rfl) 54 zs ?hg (by rw [HIS.out]; exact size_hash) (by rw [HIS.out]; exact HZL.out) HI1.out ?_))
  case hg => exact Bk.new _ _ _
  obtain ⟨w5, hw5⟩ : ∃ w5, w5 = (w4.alloc (.cells zs 54)).setRow w4.heap.size ia := ⟨_, rfl⟩
  have HH5 := Lib.hid (show Bk w5 w4.heap.size 54 ia by rw [hw5]; exact setRow_heap _ _ _ _ _ _ (Bk.new w4 _ zs))
  have hb45 : Below w4.heap.size w4 w5 := by rw [hw5]; exact below_setRow ((Below.refl _ _).alloc (Nat.le_refl _) _) (Nat.le_refl _) _
  have hz5 : w5.heap.size = w4.heap.size + 1 := by rw [hw5]; simp [World.setRow]
  have HB5 := Lib.hid (HB4.out.trans (hb45.mono (by omega)))
  have HK5 := Lib.hid (HK4.out.below hb45 (by omega))
  obtain ⟨H, hH⟩ : ∃ H, H = w4.heap.size := ⟨_, rfl⟩
  rw [← hw5]
  rw [← hH] at HH5 hz5 hz4 ⊢
  clear hw5 hb45 HK4 hH
  go_wp2_with (refine wpList_load_row rfl 54 (.tmp 11) rfl H (by rfl) 54 ia (0, 0) _ HH5.out Tryd.underlying54 rfl (by rw [HIS.out]; exact size_hash) ?_)
  have HP5 := Lib.hid (HP.out.kp' (S := fun _ => False) HB5.out (T' := T) (fun _ _ h => h) HP.out.tO HP.out.tv)
  refine (HHAS.out _ HP5.out).mono ?_
  rintro e w6 ⟨rfl, hb6⟩
  have HB6 := Lib.hid (HB5.out.trans (hb6.mono (by omega)))
  have hz6 : w5.heap.size ≤ w6.heap.size := hb6.size
  have HK6 := Lib.hid (HK5.out.below hb6 (by omega))
  have HH6 := Lib.hid (HH5.out.below hb6 (by omega))
  have HP6 := Lib.hid (HP.out.kp' (S := fun _ => False) HB6.out (T' := T) (fun _ _ h => h) HP.out.tO HP.out.tv)
  clear hb6 HK5 HH5 HP5 HB5 HB4 HB3 HHAS
  go_upto_region 9 with (fail)
  obtain ⟨ps, hps, hpp⟩ := HP6.out.pairs
  have HPS := Lib.hid hps
  have HPP := Lib.hid hpp
  obtain ⟨m, hm⟩ : ∃ m, m = ps.length := ⟨_, rfl⟩
  have hme : m = es.length := by rw [hm, ← hps]; simp
  obtain ⟨AV, cV, hv, hvc, hvm, _⟩ := hpp.row.range hpp.all
  rw [← hm] at hv
  subst hv
  have HM := Lib.hid hm
  have HME := Lib.hid hme
  have hm8 : m ≤ 8 := by omega
  clear hps hpp hm hme
  have HX : Hid (w6.rangeAt w.heap.size 0 [.int .u32 (t.version : Int), .slice A t.ins.length c, .slice A' t.outs.length c']) := Lib.hid (bk_range HK6.out)
  have HXH : Hid (w6.rangeAt H 0 (id.map byteV)) := Lib.hid (bk_range (by have := HH6.out; rw [HIA.out] at this; exact this))
  have cO : w6.cell? ⟨O, 0, none⟩ = some (.slice AV m cV) := (HPP.out.bk.cell 0).trans rfl
  have HW6 := Lib.hid HIA.out
  rw [HIA.out]
  have HOWN := Lib.hid (own_any t A A' c c' B)
  unfold txV at HOWN
  have HL32 := Lib.hid (show (id.map byteV).length = 32 by rw [List.length_map]; exact HIL.out)
  obtain ⟨ix, hix⟩ : ∃ ix, ix = id.map byteV := ⟨_, rfl⟩
  have HIX := Lib.hid hix
  rw [← hix] at HXH HL32
  clear hix
  have HR6 := Lib.hid (show w6.ownsRow base 96 37 (.slice AV m cV) m (ps.flatMap entPair) by have := HPP.out.row; unfold RowP at this; rwa [← HM.out] at this)
  have HNO := Lib.hid HPP.out.ne
  have hrlw := HP.out.row.lt
  have HNX := Lib.hid (show (Value.slice AV m cV).ownBlock ≠ some w.heap.size from fun e => by have := (hrlw _ e).2; omega)
  have HNH := Lib.hid (show (Value.slice AV m cV).ownBlock ≠ some H from fun e => by have := (hrlw _ e).2; omega)
  have HRLW := Lib.hid hrlw
  have HOW := Lib.hid HP.out.bk.lt
  have HTOK := Lib.hid HT.out.ok
  clear hrlw
  obtain ⟨fin, hfin⟩ : ∃ fin, fin = min (now + 300) 18446744073709551615 := ⟨_, rfl⟩
  have HFIN := Lib.hid hfin
  have HLT := Lib.hid (show ∀ q W, W.cell? ⟨q, 0, none⟩ = some (.int .u64 300) → Calls Tryd.prog 44 #[.int .u64 (now : Int), .slice (some ⟨q, 0, none⟩) 1 1] W fun r w' => r = .returned (.int .u64 (fin : Int)) ∧ W = w' from fun q W hc => by
    have := later1 (now : Int) 300 q W (by omega) (by omega) (by omega) (by omega) hc
    rwa [later_nat now, ← hfin] at this)
  clear hfin
  obtain ⟨ie, hi, hz0, hz1, hz2⟩ := info_parts ent_info
  have Ii := Lib.hid hi
  have Iz := Lib.hid hz0
  have Iz1 := Lib.hid hz1
  have Iz2 := Lib.hid hz2
  clear hi hz0 hz1 hz2
  have hZL := zeroEnt_len
  have hZE := zero_ent
  generalize (entCells ⟨0, Txs.none, List.replicate 32 0, 0⟩ (.slice none 0 0) (.slice none 0 0)).toArray = ze at hZL Iz hZE
  have HZEL := Lib.hid hZL
  have HIZ := Lib.hid hZE
  clear hZL hZE
  obtain ⟨n9, hn9⟩ : ∃ n9, n9 = m + 1 := ⟨_, rfl⟩
  go_cut [] (fun wx => ∃ (A9 : Option Addr) (c9 : Nat) (qs : List EP), Hid (PoolP (Tn T w (.slice A9 n9 c9)) wx O base (.slice A9 n9 c9) qs ∧ ((Value.slice A9 n9 c9).ownBlock = (Value.slice AV m cV).ownBlock ∨ ∃ g, (Value.slice A9 n9 c9).ownBlock = some g ∧ w.heap.size ≤ g) ∧ Kp (fun i => i = O ∨ (Value.slice AV m cV).ownBlock = some i) w wx) ∧ Hid (qs.map (·.1) = es ++ [entOf src t now]) ∧ qs.length = n9)
  case first =>
    refine wp_region_L [(4, O, 0, [.slice AV m cV]), (6, w.heap.size, 0, [.int .u32 (t.version : Int), .slice A t.ins.length c, .slice A' t.outs.length c']), (9, H, 0, ix)] (by kernel_rfl) ?_
    refine wpAnyL_pure (i := 0) (v := ?_) rfl (by kernel_rfl) (by kernel_rfl) (by kernel_rfl) (fun _ _ _ h => h) (Or.inl ⟨by rfl, ?_⟩) ?_
    rotate_left
    (intro w' _; go_simp <;> with_reducible rfl)
    simp only [Act.put, List.setIfInBounds_toArray, List.set_cons_zero, List.set_cons_succ, List.getElem_toArray, List.getElem_cons_zero, List.getElem_cons_succ]
    refine wpAnyL_pure (i := 1) (v := ?_) rfl (by kernel_rfl) (by kernel_rfl) (by kernel_rfl) (fun _ _ _ h => h) (Or.inl ⟨by rfl, ?_⟩) ?_
    rotate_left
    (intro w' _; go_simp <;> with_reducible rfl)
    simp only [Act.put, List.setIfInBounds_toArray, List.set_cons_zero, List.set_cons_succ, List.getElem_toArray, List.getElem_cons_zero, List.getElem_cons_succ]
    refine wpAnyL_pure (i := 2) (v := ?_) rfl (by kernel_rfl) (by kernel_rfl) (by kernel_rfl) (fun _ _ _ h => h) (Or.inl ⟨by rfl, ?_⟩) ?_
    rotate_left
    (intro w' _; go_simp <;> with_reducible rfl)
    simp only [Act.put, List.setIfInBounds_toArray, List.set_cons_zero, List.set_cons_succ, List.getElem_toArray, List.getElem_cons_zero, List.getElem_cons_succ]
    refine wpAnyL_pure (i := 3) (v := ?_) rfl (by kernel_rfl) (by kernel_rfl) (by kernel_rfl) (fun _ _ _ h => h) (Or.inl ⟨by rfl, ?_⟩) ?_
    rotate_left
    (intro w' _; go_simp <;> with_reducible rfl)
    simp only [Act.put, List.setIfInBounds_toArray, List.set_cons_zero, List.set_cons_succ, List.getElem_toArray, List.getElem_cons_zero, List.getElem_cons_succ]
    refine wpAnyL_read (i := 4) (v := .slice AV m cV) O 0 [.slice AV m cV] (.head _) (range_one cO) rfl (by kernel_rfl) (by kernel_rfl) (by kernel_rfl) (fun _ _ _ h => h) (Or.inl ⟨by rfl, fun w' hSw => ?_⟩) ?_
    (have hq := cell_one hSw; go_simp)
    simp only [Act.put, List.setIfInBounds_toArray, List.set_cons_zero, List.set_cons_succ, List.getElem_toArray, List.getElem_cons_zero, List.getElem_cons_succ]
    refine wpAnyL_pure (i := 5) (v := ?_) rfl (by kernel_rfl) (by kernel_rfl) (by kernel_rfl) (fun _ _ _ h => h) (Or.inl ⟨by rfl, ?_⟩) ?_
    rotate_left
    (intro w' _; go_simp <;> with_reducible rfl)
    simp only [Act.put, List.setIfInBounds_toArray, List.set_cons_zero, List.set_cons_succ, List.getElem_toArray, List.getElem_cons_zero, List.getElem_cons_succ]
    refine wpAnyL_load (i := 6) w.heap.size 0 [.int .u32 (t.version : Int), .slice A t.ins.length c, .slice A' t.outs.length c'] (.tail _ (.head _)) HX.out rfl (by kernel_rfl) (by kernel_rfl) (by kernel_rfl) (fun _ _ _ h => h) (by rfl) 35 (.tmp 6) rfl (by rfl) _ Tryd.underlying35 rfl size_tx ?_
    simp only [Act.put, List.setIfInBounds_toArray, List.set_cons_zero, List.set_cons_succ, List.getElem_toArray, List.getElem_cons_zero, List.getElem_cons_succ]
    refine wpAnyL_load (i := 9) H 0 ix (.tail _ (.tail _ (.head _))) HXH.out rfl (by kernel_rfl) (by kernel_rfl) (by kernel_rfl) (fun _ _ _ h => h) (by rfl) 54 (.tmp 11) rfl (by rfl) _ Tryd.underlying54 rfl (by rw [HL32.out]; exact size_hash0) ?_
    simp only [Act.put, List.setIfInBounds_toArray, List.set_cons_zero, List.set_cons_succ, List.getElem_toArray, List.getElem_cons_zero, List.getElem_cons_succ]
    refine wpAnyL_pure (i := 10) (v := ?_) rfl (by kernel_rfl) (by kernel_rfl) (by kernel_rfl) (fun _ _ _ h => h) (Or.inl ⟨by rfl, ?_⟩) ?_
    rotate_left
    (intro w' _; go_simp <;> with_reducible rfl)
    simp only [Act.put, List.setIfInBounds_toArray, List.set_cons_zero, List.set_cons_succ, List.getElem_toArray, List.getElem_cons_zero, List.getElem_cons_succ]
    refine wpAnyL_ready (rs := [7, 11]) (by kernel_rfl) (by simp) ?_
    refine (AllReadyL.cons rfl (fun K hK => ?_) (AllReadyL.cons rfl (fun K hK => ?_) AllReadyL.nil))
    rotate_left
    go_simp
    refine hK.out _ _ (Keeps.below (Joins.below_alloc1 _ _)) ?_
    clear hK K
    try simp only [Act.put, List.setIfInBounds_toArray, List.set_cons_zero, List.set_cons_succ, List.getElem_toArray, List.getElem_cons_zero, List.getElem_cons_succ]
    refine wpAnyL_ready (rs := [7]) (by kernel_rfl) (by simp) ?_
    refine (AllReadyL.cons rfl (fun K hK => ?_) AllReadyL.nil)
    go_simp
    refine (HOWN.out _ (HT.out.below ((HB6.out.drew.alloc HB6.out.size _).mono hB)) (by simp; omega) HFO.out).mono ?_
    rintro e w8 ⟨A1, c1, A2, c2, rfl, hnew, hb7⟩
    go_wp2_with fail
    refine hK.out _ _ (Keeps.below hb7) ?_
    clear hK K
    try simp only [Act.put, List.setIfInBounds_toArray, List.set_cons_zero, List.set_cons_succ, List.getElem_toArray, List.getElem_cons_zero, List.getElem_cons_succ]
    refine wpAnyL_pure (i := 8) (v := .agg #[.int .i64 src, .int .u32 (t.version : Int), .slice A1 t.ins.length c1, .slice A2 t.outs.length c2]) rfl (by kernel_rfl) (by kernel_rfl) (by kernel_rfl) (fun _ _ _ h => h) (yieldsIf_build (by rfl) 52 _ rfl _ (by simpa [Act.eval] using built_wait src t.version A1 A2 t.ins.length c1 t.outs.length c2)) ?_
    simp only [Act.put, List.setIfInBounds_toArray, List.set_cons_zero, List.set_cons_succ, List.getElem_toArray, List.getElem_cons_zero, List.getElem_cons_succ]
    obtain ⟨q, hq⟩ : ∃ q, q = w6.heap.size := ⟨_, rfl⟩
    have HQ := Lib.hid (show Bk w8 q 37 #[.int .u64 300] by
      rw [hq]
      exact (Bk.new w6.drew 37 #[.int .u64 300]).below hb7 (by simp))
    have HN8 := Lib.hid (show TxNew w6.heap.size w8 t A1 c1 A2 c2 from hnew.mono (by simp))
    have HB8 := Lib.hid (show Below w6.heap.size w6 w8 from (((Below.refl _ w6).drew).alloc (Nat.le_refl _) _).trans (hb7.mono (by simp)))
    rw [← hq]
    clear hq hnew hb7
    rotate_left
    go_simp
    refine (HOWN.out _ (HT.out.below (HB6.out.drew.mono hB)) (by simp; omega) HFO.out).mono ?_
    rintro e w7 ⟨A1, c1, A2, c2, rfl, hnew, hb7⟩
    go_wp2_with fail
    refine hK.out _ _ (Keeps.below hb7) ?_
    clear hK K
    try simp only [Act.put, List.setIfInBounds_toArray, List.set_cons_zero, List.set_cons_succ, List.getElem_toArray, List.getElem_cons_zero, List.getElem_cons_succ]
    refine wpAnyL_pure (i := 8) (v := .agg #[.int .i64 src, .int .u32 (t.version : Int), .slice A1 t.ins.length c1, .slice A2 t.outs.length c2]) rfl (by kernel_rfl) (by kernel_rfl) (by kernel_rfl) (fun _ _ _ h => h) (yieldsIf_build (by rfl) 52 _ rfl _ (by simpa [Act.eval] using built_wait src t.version A1 A2 t.ins.length c1 t.outs.length c2)) ?_
    simp only [Act.put, List.setIfInBounds_toArray, List.set_cons_zero, List.set_cons_succ, List.getElem_toArray, List.getElem_cons_zero, List.getElem_cons_succ]
    refine wpAnyL_ready (rs := [11]) (by kernel_rfl) (by simp) ?_
    refine (AllReadyL.cons rfl (fun K hK => ?_) AllReadyL.nil)
    go_simp
    refine hK.out _ _ (Keeps.below (Joins.below_alloc1 _ _)) ?_
    clear hK K
    try simp only [Act.put, List.setIfInBounds_toArray, List.set_cons_zero, List.set_cons_succ, List.getElem_toArray, List.getElem_cons_zero, List.getElem_cons_succ]
    obtain ⟨w8, hw8⟩ : ∃ w8, w8 = w7.alloc (.cells #[.int .u64 300] 37) := ⟨_, rfl⟩
    obtain ⟨q, hq⟩ : ∃ q, q = w7.heap.size := ⟨_, rfl⟩
    have HQ := Lib.hid (show Bk w8 q 37 #[.int .u64 300] by rw [hw8, hq]; exact Bk.new _ _ _)
    have HN8 := Lib.hid (show TxNew w6.heap.size w8 t A1 c1 A2 c2 by rw [hw8]; exact hnew.kp (S := fun _ => False) ((Kp.refl _ _).alloc _) (fun _ _ h => h.elim))
    have hb67 : Below w6.heap.size w6 w7 := ((Below.refl _ w6).drew).trans hb7
    have HB8 := Lib.hid (show Below w6.heap.size w6 w8 by rw [hw8]; exact hb67.alloc hb67.size _)
    rw [← hw8, ← hq]
    clear hw8 hq hnew hb7 hb67
    all_goals
      refine wpAnyL_ready (rs := [12]) (by kernel_rfl) (by simp) ?_
      refine (AllReadyL.cons rfl (fun K hK => ?_) AllReadyL.nil)
      go_simp
      refine (HLT.out q w8 ((HQ.out.cell 0).trans rfl)).mono ?_
      rintro e w9 ⟨rfl, rfl⟩
      go_wp2_with fail
      refine hK.out _ _ (Keeps.refl _ _) ?_
      clear hK K
      try simp only [Act.put, List.setIfInBounds_toArray, List.set_cons_zero, List.set_cons_succ, List.getElem_toArray, List.getElem_cons_zero, List.getElem_cons_succ]
      obtain ⟨cx, hcx⟩ : ∃ cx, cx = entCells ⟨src, t, id, fin⟩ (.slice A1 t.ins.length c1) (.slice A2 t.outs.length c2) := ⟨_, rfl⟩
      have HCX := Lib.hid hcx
      have HB13 := Lib.hid (show Tryd.prog.built 96 [(0, .agg #[.int .i64 src, .int .u32 (t.version : Int), .slice A1 t.ins.length c1, .slice A2 t.outs.length c2]), (1, .agg ix.toArray), (2, .int .u64 (fin : Int))] = some cx.toArray by
        rw [hcx, HIX.out]
        exact built_ent ⟨src, t, id, fin⟩ A1 A2 t.ins.length c1 t.outs.length c2 HIL.out)
      have HCL := Lib.hid (show cx.length = 37 by rw [hcx]; exact entCells_len HIL.out _ _)
      have HC1 := Lib.hid (show ∀ u ∈ cx, u.oneCell' = true by rw [hcx]; exact entCells_one _ _ _ _ _ _ _)
      clear hcx
      refine wpAnyL_pure (i := 13) (v := .agg cx.toArray) rfl (by kernel_rfl) (by kernel_rfl) (by kernel_rfl) (fun _ _ _ h => h) (yieldsIf_build (by rfl) 96 _ rfl _ (by simpa [Act.eval] using HB13.out)) ?_
      simp only [Act.put, List.setIfInBounds_toArray, List.set_cons_zero, List.set_cons_succ, List.getElem_toArray, List.getElem_cons_zero, List.getElem_cons_succ]
      refine wpAnyL_ready (rs := [14]) (by kernel_rfl) (by simp) ?_
      refine (AllReadyL.cons rfl (fun K hK => ?_) AllReadyL.nil)
      refine step_buildOne (by rfl) 80 96 (.tmp 42) rfl cx.toArray (by rfl) Tryd.underlying80 (by simp only [List.size_toArray, HCL.out]; exact size_ent) ze HIZ.out (by simp only [List.size_toArray, HCL.out]; omega) (by simp only [List.size_toArray, HCL.out]; omega) ?_
      refine hK.out _ _ (Keeps.below (Joins.below_alloc1 _ _)) ?_
      clear hK K
      try simp only [Act.put, List.setIfInBounds_toArray, List.set_cons_zero, List.set_cons_succ, List.getElem_toArray, List.getElem_cons_zero, List.getElem_cons_succ]
      refine wpAnyL_ready (rs := [15]) (by kernel_rfl) (by simp) ?_
      refine (AllReadyL.cons rfl (fun K hK => ?_) AllReadyL.nil)
      have hb8z := HB8.out.size
      refine step_app _ rfl (.tmp 33) (.tmp 43) _ rfl base 96 ie _ 37 104 Tryd.underlying80 Ii.out Iz.out Iz1.out Iz2.out HZEL.out (by decide) (.slice AV m cV) m _ rfl (own_below (own_below HR6.out HB8.out) (Joins.below_alloc1 _ _)) (some ⟨w8.heap.size, 0, none⟩) 1 1 cx rfl (by rw [HCL.out]) (Src.new _ _ _) HC1.out (by unfold maxLen; omega) (by omega) (by simp; omega) ?_
      intro v9 w9 hrow9 hg9 hat9
      refine hK.out _ _ (Keeps.kp (Kp.mono (T := fun i => (Value.slice AV m cV).ownBlock = some i) (Kp.refl _ _ |>.grown hg9 (fun k hk _ => hk)) (fun _ _ h => h)) (by
        intro p hp _
        simp only [List.mem_cons, List.not_mem_nil, or_false] at hp
        rcases hp with rfl | rfl | rfl
        · exact HNO.out
        · exact HNX.out
        · exact HNH.out)) ?_
      clear hK K
      try simp only [Act.put, List.setIfInBounds_toArray, List.set_cons_zero, List.set_cons_succ, List.getElem_toArray, List.getElem_cons_zero, List.getElem_cons_succ]
      have HG9 := Lib.hid ((Grw.of_below (Joins.below_alloc1 w8 (.cells cx.toArray 96)) _).trans (Grw.of_app hg9 hat9))
      have HO8 : Bk w8 O 82 #[.slice AV m cV] := HPP.out.bk.below HB8.out HPP.out.bk.lt
      have HO9 := Lib.hid ((HG9.out.bk HO8 HNO.out).1)
      have c9 : w9.cell? ⟨O, 0, none⟩ = some (.slice AV m cV) := (HO9.out.cell 0).trans rfl
      have f9 := HO9.out.frozen 0
      have hrow9' := hrow9
      obtain ⟨A9, c9', rfl, hm9, hm9', _⟩ := own_form hrow9'
      refine wpAnyL_pure (i := 16) (v := ?_) rfl (by kernel_rfl) (by kernel_rfl) (by kernel_rfl) (fun _ _ _ h => h) (Or.inl ⟨by rfl, ?_⟩) ?_
      rotate_left
      · (intro w' _; go_simp <;> with_reducible rfl)
      simp only [Act.put, List.setIfInBounds_toArray, List.set_cons_zero, List.set_cons_succ, List.getElem_toArray, List.getElem_cons_zero, List.getElem_cons_succ]
      refine wpAnyL_pure (i := 17) (v := ?_) rfl (by kernel_rfl) (by kernel_rfl) (by kernel_rfl) (fun _ _ _ h => h) (Or.inl ⟨by rfl, ?_⟩) ?_
      rotate_left
      · (intro w' _; go_simp <;> with_reducible rfl)
      simp only [Act.put, List.setIfInBounds_toArray, List.set_cons_zero, List.set_cons_succ, List.getElem_toArray, List.getElem_cons_zero, List.getElem_cons_succ]
      refine wpAnyL_ready (rs := [18]) (by kernel_rfl) (by simp) ?_
      refine (AllReadyL.cons rfl (fun K hK => ?_) AllReadyL.nil)
      go_simp
      refine hK.out _ _ (Keeps.last (by kernel_rfl) _ _) ?_
      clear hK K
      try simp only [Act.put, List.setIfInBounds_toArray, List.set_cons_zero, List.set_cons_succ, List.getElem_toArray, List.getElem_cons_zero, List.getElem_cons_succ]
      refine wpAnyL_done (by kernel_rfl) ?_ _
      have HROW := Lib.hid hrow9
      have HG := Lib.hid hg9
      have HAT := Lib.hid hat9
      clear hrow9 hrow9' hg9 hat9
      obtain ⟨w10, hw10⟩ : ∃ w10, w10 = w9.setCell ⟨O, 0, none⟩ (.slice A9 (m + 1) c9') := ⟨_, rfl⟩
      have hO10 : Bk w10 O 82 #[.slice A9 (m + 1) c9'] := by rw [hw10]; exact HO9.out.set 0 _
      have HO10 := Lib.hid hO10
      have c10 : w10.cell? ⟨O, 0, none⟩ = some (.slice A9 (m + 1) c9') := (hO10.cell 0).trans rfl
      have HK10 := Lib.hid (show Kp (fun i => i = O) w9 w10 by rw [hw10]; exact kp_cell1 _ _ _ _)
      rw [← hw10]
      clear hw10 hO10 c9 f9 HO9
      have HADD := Lib.hid (add_pool (e := ⟨src, t, id, fin⟩) HB6.out HPP.out HOW.out (fun i hi => (HRLW.out i hi).2) HB8.out HN8.out HROW.out HG.out HAT.out HK10.out HO10.out HM.out (by rw [HII.out, HFIN.out]; exact entOf_ok (src := src) (now := now) HTOK.out) rfl HCX.out)
      have HPE := Lib.hid (show (ps ++ [((⟨src, t, id, fin⟩ : Ent), (Value.slice A1 t.ins.length c1), (Value.slice A2 t.outs.length c2))]).map (·.1) = es ++ [entOf src t now] by
        rw [List.map_append, HPS.out, HII.out, HFIN.out]; rfl)
      go_wp2_with fail
      go_meet
      subst hn9
      exact ⟨A9, c9', _, HADD, HPE, by rw [List.length_append, HM.out]; rfl⟩
  case rest =>
    obtain ⟨A9, c9', qs, HADD, HPE, hql⟩ := hcut
    have HQL := Lib.hid hql
    have HO10 := Lib.hid HADD.out.1.bk
    have c10 : wc.cell? ⟨O, 0, none⟩ = some (.slice A9 n9 c9') := (HO10.out.cell 0).trans rfl
    clear hql HH6 HX HXH cO HOWN
    by_cases h8' : m < 8
    · have HE1 := Lib.hid (show af = es ++ [entOf src t now] by rw [HAF.out, if_pos (by rw [← HME.out]; exact h8')])
      have HE2 := Lib.hid (show gn = [] by rw [HGN.out, if_pos (by rw [← HME.out]; exact h8')])
      have i8 : (n9 : Int) ≤ 8 := by omega
      clear hn9
      go_wp2_with fail
      go_ret2
      have := HADD.out
      rw [HE1.out, HE2.out]
      exact ⟨none, 0, _, rfl, Nat.le_refl _, by unfold maxLen; omega, (fun i hi => by simp at hi), HPE.out ▸ this.1.at_, this.2.1, this.2.2⟩
    · have HE1 := Lib.hid (show af = (es ++ [entOf src t now]).drop 1 by rw [HAF.out, if_neg (by rw [← HME.out]; exact h8')])
      have HE2 := Lib.hid (show gn = (es.take 1).map Ent.id by rw [HGN.out, if_neg (by rw [← HME.out]; exact h8')])
      obtain rfl : n9 = 9 := by omega
      clear hn9
      obtain ⟨hpool, howns, hkw⟩ := HADD.out
      obtain ⟨Ag, cg, hvg, hcg1, hcg2, hrg⟩ := hpool.row.range hpool.all
      obtain ⟨g, hgA, hgb, hgl, hr0⟩ := hrg 0 (by rw [HQL.out]; omega)
      rw [HQL.out] at hvg hcg1
      injection hvg with hvg1 _ hvg2
      subst hvg2
      rw [hgA] at hvg1
      subst hvg1
      have HE0 := Lib.hid (show wc.rangeAt g 4 _ from by have := ent_id hr0; rwa [show 0 * 37 + 4 = 4 from rfl] at this)
      have hok0 : (qs[0]'(by rw [HQL.out]; omega)).1.id.length = 32 := (hpool.all _ (List.getElem_mem _)).1.1
      have HE3 := Lib.hid (show gn = [(qs[0]'(by rw [HQL.out]; omega)).1.id] by
        rw [HE2.out, first_id HPE.out (by rw [← HME.out]; omega) (by rw [HQL.out]; omega)])
      have L0 := Lib.hid (show ((qs[0]'(by rw [HQL.out]; omega)).1.id.map byteV).length = 32 by rw [List.length_map]; exact hok0)
      have HPO0 := Lib.hid (all_one (oneCell_bytes (qs[0]'(by rw [HQL.out]; omega)).1.id))
      have HOK0 := Lib.hid hok0
      have HPOOL := Lib.hid hpool
      have HOWNS := Lib.hid howns
      have HKW := Lib.hid hkw
      generalize (qs[0]'(by rw [HQL.out]; omega)).1.id = id0 at HE0 hok0 HE3 L0 HPO0 HOK0
      obtain ⟨i0, hi0⟩ : ∃ i0, i0 = (id0.map byteV) := ⟨_, rfl⟩
      have HI0 := Lib.hid hi0
      unfold entPair at hr0
      rw [← hi0] at HE0 L0 HPO0
      clear hi0 hr0 hpool howns hkw hrg hok0
      have HDEL := Lib.hid (del_any (Tn T w (.slice (some ⟨g, 0, none⟩) 9 c9')) qs g c9' base)
      rw [HQL.out] at HDEL
      have HTH0 := Lib.hid (show (wc.alloc (.cells zs 54)).there wc.heap.size 0 i0.toArray.size from by
        have hzz : zs = zs.toList.toArray := by simp
        have hb := Bk.new wc 54 zs
        rw [hzz] at hb
        have := bk_there hb 0 i0.toArray.size (by rw [List.size_toArray, L0.out, Array.length_toList, HZL.out]; omega)
        rw [← hzz] at this
        exact this)
      go_upto_region 13 with (first
        | (refine wpList_load_mid rfl 54 (.tmp 58) rfl g 4 (by rfl) i0 _ HE0.out Tryd.underlying54 rfl (by rw [L0.out]; exact size_hash0) ?_)
        | (refine wpList_allocOf rfl 54 rfl zs HZ.out ?_)
        | (refine wpList_store_mid rfl 54 (.tmp 13) (.tmp 59) rfl wc.heap.size 0 i0.toArray (by rfl) (by rfl) HTH0.out (by rw [List.size_toArray, L0.out]; exact size_hash0) HPO0.out ?_))
      obtain ⟨w11, hw11⟩ : ∃ w11, w11 = (wc.alloc (.cells zs 54)).setCells wc.heap.size 0 i0.toArray.toList := ⟨_, rfl⟩
      have hB11 : Below wc.heap.size wc w11 := by rw [hw11]; exact below_setCells (Nat.le_refl _) _ _ _ ((Below.refl _ _).alloc (Nat.le_refl _) _)
      have hX11 : Bk w11 wc.heap.size 54 i0.toArray := by
        have hzz : zs = zs.toList.toArray := by simp
        have hb := Bk.new wc 54 zs
        rw [hzz] at hb
        have := bk_setCells i0 0 _ _ hb (by rw [L0.out, Array.length_toList, HZL.out]; omega)
        rw [← hzz, List.take_zero, List.nil_append, List.drop_of_length_le (by rw [L0.out, Array.length_toList, HZL.out]; omega), List.append_nil] at this
        rw [hw11, List.toList_toArray]
        exact this
      have hzc : O < wc.heap.size := HO10.out.lt
      have hz11 : wc.heap.size < w11.heap.size := hX11.lt
      have HX11 := Lib.hid hX11
      have HO11 := Lib.hid (HO10.out.below hB11 hzc)
      have HB11 := Lib.hid hB11
      have HROW11 := Lib.hid (HPOOL.out.row.kp (Kp.of_below (S := fun _ => False) hB11) (fun _ _ h => h))
      have HALL11 := Lib.hid (fun p hp => (HPOOL.out.all p hp).step (T' := Tn T w (.slice (some ⟨g, 0, none⟩) 9 c9')) (S := fun _ => False) (Kp.of_below hB11) (fun _ _ h => h.elim) (fun _ _ h => h))
      have c11 : w11.cell? ⟨O, 0, none⟩ = some (.slice (some ⟨g, 0, none⟩) 9 c9') := (HO11.out.cell 0).trans rfl
      have hgO : g ≠ O := fun e => HPOOL.out.ne (by rw [e]; rfl)
      rw [← hw11]
      clear hw11 hB11 hX11 c10
      go_wp2_with fail
      refine (HDEL.out w11 HROW11.out HALL11.out (by omega) (by omega)).mono ?_
      rintro e w12 ⟨rfl, hrow12, hk12⟩
      have HO12 := Lib.hid (HO11.out.kp hk12 (fun e => hgO e.symm))
      have HX12 := Lib.hid (HX11.out.kp hk12 (fun e => by omega))
      have HROW12 := Lib.hid hrow12
      have HK12 := Lib.hid hk12
      have c12 : w12.cell? ⟨O, 0, none⟩ = some (.slice (some ⟨g, 0, none⟩) 9 c9') := (HO12.out.cell 0).trans rfl
      have f12 := HO12.out.frozen 0
      have hz12 := hk12.size
      clear c11 hrow12 hk12
      go_upto_region 14 with (fail)
      obtain ⟨w13, hw13⟩ : ∃ w13, w13 = w12.setCell ⟨O, 0, none⟩ (.slice (some ⟨g, 0, none⟩) 8 c9') := ⟨_, rfl⟩
      have HO13 := Lib.hid (show Bk w13 O 82 #[.slice (some ⟨g, 0, none⟩) 8 c9'] by rw [hw13]; exact HO12.out.set 0 _)
      have HK13 := Lib.hid (show Kp (fun i => i = O) w12 w13 by rw [hw13]; exact kp_cell1 _ _ _ _)
      have HX13 := Lib.hid (HX12.out.kp HK13.out (by omega))
      have hz13 := HK13.out.size
      rw [← hw13]
      clear hw13 c12 f12 HO12 HX12
      go_wp2_with (first
        | (refine wpList_load_row rfl 54 (.tmp 13) rfl wc.heap.size (by rfl) 54 i0.toArray (0, 0) _ HX13.out Tryd.underlying54 rfl (by rw [List.size_toArray, L0.out]; exact size_hash0) ?_)
        | (refine wpList_buildOne rfl 36 54 (.tmp 68) rfl i0.toArray (by rfl) Tryd.underlying36 (by rw [List.size_toArray, L0.out]; exact size_hash0) zs HZ.out (by rw [List.size_toArray, L0.out]; omega) (by rw [List.size_toArray, L0.out]; omega) ?_))
      go_ret2
      rw [HE1.out, HE3.out]
      have k14 : Kp (fun i => i = O ∨ i = g) wc (w13.alloc (.cells i0.toArray 54)) :=
        (((Kp.of_below HB11.out).trans (HK12.out.mono fun _ _ h => .inr h)).trans (HK13.out.mono fun _ _ h => .inl h)).alloc _
      have hown8 : (Value.slice (some ⟨g, 0, none⟩) 8 c9').ownBlock = some g := rfl
      have hown9 : (Value.slice (some ⟨g, 0, none⟩) 9 c9').ownBlock = some g := rfl
      have hTn : ∀ i, Tn T w (.slice (some ⟨g, 0, none⟩) 8 c9') i → Tn T w (.slice (some ⟨g, 0, none⟩) 9 c9') i := fun i h => h
      refine ⟨some ⟨w13.heap.size, 0, none⟩, 1, .slice (some ⟨g, 0, none⟩) 8 c9', rfl, Nat.le_refl _, by unfold maxLen; omega, ?_, ?_, HOWNS.out, ?_⟩
      · exact At.of_bk (fun l : List UInt8 => l.map byteV) (fun x hx => by
          rw [List.mem_singleton.1 hx]
          exact ⟨by rw [List.length_map]; exact HOK0.out, HOK0.out, rfl⟩) (by
          rw [show [id0].flatMap (fun l : List UInt8 => l.map byteV) = i0 by rw [HI0.out]; simp]
          exact Bk.new _ _ _)
      · have hp : PoolP (Tn T w (.slice (some ⟨g, 0, none⟩) 8 c9')) (w13.alloc (.cells i0.toArray 54)) O base (.slice (some ⟨g, 0, none⟩) 8 c9') (qs.drop 1) :=
          ⟨HO13.out.alloc _, (HROW12.out.kp HK13.out (fun i hi e => hgO (by rw [hown8] at hi; injection hi with hi; rw [hi, e]))).kp ((Kp.refl (fun _ => False) _).alloc _) (fun _ _ h => h),
            fun p hp => (HPOOL.out.all p (List.mem_of_mem_drop hp)).step k14 (fun i _ h => h.elim (fun e => e ▸ HPOOL.out.tO) (fun e => HPOOL.out.tv i (by rw [hown9, e]))) (fun _ _ h => hTn _ h), HPOOL.out.ne, HPOOL.out.tO, HPOOL.out.tv⟩
        have := hp.at_
        rw [List.map_drop, HPE.out] at this
        exact this
      · refine HKW.out.trans_of k14 (fun i hi h => ?_)
        rcases h with h | h
        · exact .inl h
        · rcases HOWNS.out with e | ⟨g', e, hg'⟩
          · exact .inr (by rw [← e, hown9, h])
          · rw [hown9] at e
            injection e with e
            omega
theorem add_any (T : Nat → Prop) (es : List Ent) (O base : Nat) (v : Value) (src : Int) (t : Txs.Tx) (A A' : Option Addr) (c c' B : Nat) (now : Nat) (w : World) (hlay : Laid w) (h : PoolAt T w O base v es) (ht : TxAt w B t A c A' c') (hB : B ≤ w.heap.size) (hbase : base ≤ w.heap.size)
    (h8 : es.length ≤ 8) (hnow : now < 18446744073709551616) :
    Calls Tryd.prog 25 #[.pointer (some ⟨O, 0, none⟩), .int .i64 src, txV t A c A' c', .int .u64 (now : Int)] w (AddTo T w O base v (addEs es src t now) (addGone es t) (addErr es t)) := by
  by_cases hc : Txs.check t = 0
  · cases hh : hasId es (Txs.id t) with
    | true =>
      have e1 : addErr es t = 10 := by unfold addErr; rw [if_pos hc, hh]; rfl
      have e2 : addEs es src t now = es := by unfold addEs; rw [e1]; rfl
      have e3 : addGone es t = [] := by unfold addGone; rw [e1]; rfl
      rw [e1, e2, e3]
      exact add_there T es O base v src t A A' c c' B now w hlay h ht hB hc hh (by omega)
    | false =>
      have e1 : addErr es t = 0 := by unfold addErr; rw [if_pos hc, hh]; rfl
      have e2 : addEs es src t now = if es.length < 8 then es ++ [entOf src t now] else (es ++ [entOf src t now]).drop 1 := by unfold addEs; rw [e1]; rfl
      have e3 : addGone es t = if es.length < 8 then [] else (es.take 1).map Ent.id := by unfold addGone; rw [e1]; rfl
      rw [e1, e2, e3]
      exact add_ok T es O base v src t A A' c c' B now w hlay h ht hB hbase hc hh h8 hnow
  · have e1 : addErr es t = Txs.check t := by unfold addErr; rw [if_neg hc]
    have e2 : addEs es src t now = es := by unfold addEs; rw [e1, if_neg hc]
    have e3 : addGone es t = [] := by unfold addGone; rw [e1, if_neg hc]
    rw [e1, e2, e3]
    exact add_bad T es O base v src t A A' c c' B now w h ht hB hc
end Go.Proofs.YtacbibflhdmcoaaDoor.O14
/- OrphC, merged: OrphDo, OrphGrown, OrphSimple, OrphAliveP, OrphAlive. -/
/- An act of the law's script. -/
namespace Go.Proofs.YtacbibflhdmcoaaDoor.O14
open Go.RowKit Go.Deep T7
set_option linter.unusedVariables false
set_option linter.unusedSimpArgs false
set_option maxRecDepth 100000
set_option maxHeartbeats 2000000
attribute [local go_sem ↓] Go.wp_at_zero Go.wp_at_succ

def doEs (es : List Ent) (a : Act) : List Ent :=
  if a.kind = 0 then addEs es a.src a.tx a.now else if a.kind = 1 then es.filter (fun x => !spends a.parents x.tx) else if a.kind = 2 then es.filter (fun x => !decide (x.src = a.src)) else es.filter (fun x => !decide (x.fin ≤ a.now))
def doIds (es : List Ent) (a : Act) : List (List UInt8) :=
  if a.kind = 0 then addGone es a.tx else if a.kind = 1 then [] else if a.kind = 2 then (es.filter fun x => decide (x.src = a.src)).map Ent.id else (es.filter fun x => decide (x.fin ≤ a.now)).map Ent.id
def doErr (es : List Ent) (a : Act) : Int := if a.kind = 0 then addErr es a.tx else 0
def doW (es : List Ent) (a : Act) : List Ent := if a.kind = 0 then [] else if a.kind = 1 then es.filter (fun x => spends a.parents x.tx) else []
def DoTo (T : Nat → Prop) (w : World) (O base : Nat) (v : Value) (es : List Ent) (a : Act) (e : Ending) (w' : World) : Prop :=
  ∃ vi vw v' qs, e = .returned (.tuple #[vi, vw, .int .i64 (doErr es a)]) ∧ (∃ A1 c1, vi = .slice A1 (doIds es a).length c1 ∧ HashesAt w' w'.heap.size A1 (doIds es a)) ∧ RowW w' w.heap.size vw qs ∧ (∀ x ∈ qs, PairOk (Tn T w v') w' x) ∧ qs.map (·.1) = doW es a ∧
    PoolAt (Tn T w v') w' O base v' (doEs es a) ∧ (∀ i, v'.ownBlock = some i → v.ownBlock = some i ∨ w.heap.size ≤ i) ∧ Kp (fun i => i = O ∨ v.ownBlock = some i) w w'
theorem PoolAt.less {T T' : Nat → Prop} {w : World} {O base : Nat} {v : Value} {es : List Ent} (h : PoolAt T w O base v es) (ht : ∀ i, i < w.heap.size → T' i → T i) (hT : T' O) (hT2 : ∀ i, v.ownBlock = some i → T' i) : PoolAt T' w O base v es :=
  h.kp (Kp.refl (fun _ => False) w) (fun h => h) (fun _ _ h => h) (fun _ _ h => h.elim) ht hT hT2
theorem Tn.pool {T : Nat → Prop} {w W w' : World} {O base : Nat} {v : Value} {es : List Ent} (h : PoolAt (Tn T W v) w' O base v es) (hs : w.heap.size ≤ W.heap.size) (hO : O < w.heap.size) (hT : T O) : PoolAt (Tn T w v) w' O base v es :=
  h.less (fun i _ h => h.up hs) (.inl ⟨hT, hO⟩) (fun i hi => .inr hi)
theorem RowW.nil (w : World) (base : Nat) : RowW w base (.slice none 0 0) [] := World.ownsRow_nil _ _ _ _
theorem nilIds (w : World) (l : List (List UInt8)) (h : l = []) : ∃ A1 c1, Value.slice none 0 0 = .slice A1 l.length c1 ∧ HashesAt w w.heap.size A1 l := by subst h; exact ⟨none, 0, rfl, fun i hi => by simp at hi⟩
theorem do_add (T : Nat → Prop) (es : List Ent) (O base : Nat) (v : Value) (a : Act) (Ai Ao Ap : Option Addr) (ci co cp B : Nat) (w : World) (hlay : Laid w) (h : PoolAt T w O base v es) (hbase : base ≤ w.heap.size) (h8 : es.length ≤ 8) (hB : B ≤ w.heap.size) (hnow : a.now < 18446744073709551616)
    (htx : TxAt w B a.tx Ai ci Ao co) (hat : HashesAt w B Ap a.parents) (hp : a.parents.length ≤ 1000000) (hk : a.kind = 0) :
    Calls Tryd.prog 12 #[.pointer (some ⟨O, 0, none⟩), .agg (actCells a (.slice Ai a.tx.ins.length ci) (.slice Ao a.tx.outs.length co) (.slice Ap a.parents.length cp)).toArray] w (DoTo T w O base v es a) := by
  obtain ⟨w1, hw1⟩ : ∃ w1, w1 = w.alloc (.cells (actCells a (.slice Ai a.tx.ins.length ci) (.slice Ao a.tx.outs.length co) (.slice Ap a.parents.length cp)).toArray 39) := ⟨_, rfl⟩
  have hb1 : Below w.heap.size w w1 := by rw [hw1]; exact Joins.below_alloc1 _ _
  have hz1 : w1.heap.size = w.heap.size + 1 := by rw [hw1]; simp
  have hOl : O < w.heap.size := h.bk.lt
  have hvl := h.row.lt
  have hTO := h.tO
  have hP1 : PoolAt T w1 O base v es := h.kp' (S := fun _ => False) hb1 (fun _ _ h => h) h.tO h.tv
  obtain ⟨k0, k1, k2, k3, k4, k5, k6⟩ := act_cells (w := w1) (g := w.heap.size) (a := a) (i := .slice Ai a.tx.ins.length ci) (o := .slice Ao a.tx.outs.length co) (p := .slice Ap a.parents.length cp) (by rw [hw1]; exact Bk.new _ _ _)
  have HB1 := Lib.hid hb1
  have HC := Lib.hid (add_any T es O base v a.src a.tx Ai Ao ci co B a.now w1 (hlay.below hb1) hP1 (htx.below (hb1.mono hB)) (by omega) (by omega) h8 hnow)
  clear hP1 h
  unfold txV at HC
  have HK := Lib.hid hk
  clear hk
  unfold actCells at hw1 ⊢
  go_enter Tryd.func12, Tryd.ntmps12
  go_upto_region 1 with (fail)
  rw [← hw1]
  clear hw1
  have hk := HK.out
  go_wp2_with fail
  refine HC.out.mono ?_
  rintro e w2 ⟨A1, c1, v', rfl, h1, h2, h3, h4, h5, h6⟩
  go_wp2_with fail
  go_ret3
  have e1 : doErr es a = addErr es a.tx := by unfold doErr; rw [if_pos hk]
  have e2 : doIds es a = addGone es a.tx := by unfold doIds; rw [if_pos hk]
  have e3 : doEs es a = addEs es a.src a.tx a.now := by unfold doEs; rw [if_pos hk]
  have e4 : doW es a = [] := by unfold doW; rw [if_pos hk]
  refine ⟨.slice A1 (addGone es a.tx).length c1, .slice none 0 0, v', [], by rw [e1]; rfl, by rw [e2]; exact ⟨A1, c1, rfl, h3⟩, RowW.nil _ _, fun x hx => by simp at hx, by rw [e4]; rfl, by rw [e3]; exact Tn.pool h4 (by omega) hOl hTO, fun i hi => h5.elim (fun e => .inl (e ▸ hi)) (fun ⟨g, h, h'⟩ => .inr (by have := Option.some.inj (h.symm.trans hi); omega)), (Kp.of_below HB1.out).trans_of h6 (fun i _ h => h)⟩
theorem do_take (T : Nat → Prop) (es : List Ent) (O base : Nat) (v : Value) (a : Act) (Ai Ao Ap : Option Addr) (ci co cp B : Nat) (w : World) (hlay : Laid w) (h : PoolAt T w O base v es) (hbase : base ≤ w.heap.size) (h8 : es.length ≤ 8) (hB : B ≤ w.heap.size) (hnow : a.now < 18446744073709551616)
    (htx : TxAt w B a.tx Ai ci Ao co) (hat : HashesAt w B Ap a.parents) (hp : a.parents.length ≤ 1000000) (hk : a.kind = 1) :
    Calls Tryd.prog 12 #[.pointer (some ⟨O, 0, none⟩), .agg (actCells a (.slice Ai a.tx.ins.length ci) (.slice Ao a.tx.outs.length co) (.slice Ap a.parents.length cp)).toArray] w (DoTo T w O base v es a) := by
  obtain ⟨w1, hw1⟩ : ∃ w1, w1 = w.alloc (.cells (actCells a (.slice Ai a.tx.ins.length ci) (.slice Ao a.tx.outs.length co) (.slice Ap a.parents.length cp)).toArray 39) := ⟨_, rfl⟩
  have hb1 : Below w.heap.size w w1 := by rw [hw1]; exact Joins.below_alloc1 _ _
  have hz1 : w1.heap.size = w.heap.size + 1 := by rw [hw1]; simp
  have hOl : O < w.heap.size := h.bk.lt
  have hvl := h.row.lt
  have hTO := h.tO
  have hP1 : PoolAt T w1 O base v es := h.kp' (S := fun _ => False) hb1 (fun _ _ h => h) h.tO h.tv
  obtain ⟨k0, k1, k2, k3, k4, k5, k6⟩ := act_cells (w := w1) (g := w.heap.size) (a := a) (i := .slice Ai a.tx.ins.length ci) (o := .slice Ao a.tx.outs.length co) (p := .slice Ap a.parents.length cp) (by rw [hw1]; exact Bk.new _ _ _)
  have HB1 := Lib.hid hb1
  have hk0 : ¬ a.kind = 0 := by omega
  have HC := Lib.hid (take_any T es O base v a.parents Ap cp B w1 hP1 (by omega) (by omega) (At.below hat (hb1.mono hB)) (by omega) hp)
  clear hP1 h
  have HK := Lib.hid hk
  have HK0 := Lib.hid hk0
  clear hk hk0
  unfold actCells at hw1 ⊢
  go_enter Tryd.func12, Tryd.ntmps12
  go_upto_region 1 with (fail)
  rw [← hw1]
  clear hw1
  have hk := HK.out
  have hk0 := HK0.out
  go_wp2_with fail
  refine HC.out.mono ?_
  rintro e w2 ⟨vt, v', qs, rfl, h1, h2, h3, h4, h5, h6⟩
  go_wp2_with fail
  go_ret3
  have e1 : doErr es a = 0 := by unfold doErr; rw [if_neg hk0]
  have e2 : doIds es a = [] := by unfold doIds; rw [if_neg hk0, if_pos hk]
  have e3 : doEs es a = es.filter (fun x => !spends a.parents x.tx) := by unfold doEs; rw [if_neg hk0, if_pos hk]
  have e4 : doW es a = es.filter (fun x => spends a.parents x.tx) := by unfold doW; rw [if_neg hk0, if_pos hk]
  refine ⟨.slice none 0 0, vt, v', qs, by rw [e1]; rfl, nilIds _ _ e2, own_mono h1 (by omega), fun x hx => (h2 x hx).step (S := fun _ => False) (Kp.refl _ _) (fun _ _ h => h.elim) (fun i _ h => h.up (by omega)), by rw [e4]; exact h3, by rw [e3]; exact Tn.pool h4 (by omega) hOl hTO, fun i hi => .inr (by have := h5 i hi; omega), (Kp.of_below HB1.out).trans_of h6 (fun i _ h => .inl h)⟩
theorem do_leave (T : Nat → Prop) (es : List Ent) (O base : Nat) (v : Value) (a : Act) (Ai Ao Ap : Option Addr) (ci co cp B : Nat) (w : World) (hlay : Laid w) (h : PoolAt T w O base v es) (hbase : base ≤ w.heap.size) (h8 : es.length ≤ 8) (hB : B ≤ w.heap.size) (hnow : a.now < 18446744073709551616)
    (htx : TxAt w B a.tx Ai ci Ao co) (hat : HashesAt w B Ap a.parents) (hp : a.parents.length ≤ 1000000) (hk : a.kind = 2) :
    Calls Tryd.prog 12 #[.pointer (some ⟨O, 0, none⟩), .agg (actCells a (.slice Ai a.tx.ins.length ci) (.slice Ao a.tx.outs.length co) (.slice Ap a.parents.length cp)).toArray] w (DoTo T w O base v es a) := by
  obtain ⟨w1, hw1⟩ : ∃ w1, w1 = w.alloc (.cells (actCells a (.slice Ai a.tx.ins.length ci) (.slice Ao a.tx.outs.length co) (.slice Ap a.parents.length cp)).toArray 39) := ⟨_, rfl⟩
  have hb1 : Below w.heap.size w w1 := by rw [hw1]; exact Joins.below_alloc1 _ _
  have hz1 : w1.heap.size = w.heap.size + 1 := by rw [hw1]; simp
  have hOl : O < w.heap.size := h.bk.lt
  have hvl := h.row.lt
  have hTO := h.tO
  have hP1 : PoolAt T w1 O base v es := h.kp' (S := fun _ => False) hb1 (fun _ _ h => h) h.tO h.tv
  obtain ⟨k0, k1, k2, k3, k4, k5, k6⟩ := act_cells (w := w1) (g := w.heap.size) (a := a) (i := .slice Ai a.tx.ins.length ci) (o := .slice Ao a.tx.outs.length co) (p := .slice Ap a.parents.length cp) (by rw [hw1]; exact Bk.new _ _ _)
  have HB1 := Lib.hid hb1
  have hk0 : ¬ a.kind = 0 := by omega
  have hk1 : ¬ a.kind = 1 := by omega
  have HC := Lib.hid (leave_any T es O base v a.src w1 hP1 (by omega) (by omega))
  clear hP1 h
  have HK := Lib.hid hk
  have HK0 := Lib.hid hk0
  have HK1 := Lib.hid hk1
  clear hk hk0 hk1
  unfold actCells at hw1 ⊢
  go_enter Tryd.func12, Tryd.ntmps12
  go_upto_region 1 with (fail)
  rw [← hw1]
  clear hw1
  have hk := HK.out
  have hk0 := HK0.out
  have hk1 := HK1.out
  go_wp2_with fail
  refine HC.out.mono ?_
  rintro e w2 ⟨vi, v', rfl, h3, h4, h5, h6⟩
  obtain ⟨A1, c1, rfl, _, _, hat1⟩ := h3.at_
  go_wp2_with fail
  go_ret3
  have e1 : doErr es a = 0 := by unfold doErr; rw [if_neg hk0]
  have e2 : doIds es a = (es.filter fun x => decide (x.src = a.src)).map Ent.id := by unfold doIds; rw [if_neg hk0, if_neg hk1, if_pos hk]
  have e3 : doEs es a = es.filter (fun x => !decide (x.src = a.src)) := by unfold doEs; rw [if_neg hk0, if_neg hk1, if_pos hk]
  have e4 : doW es a = [] := by unfold doW; rw [if_neg hk0, if_neg hk1]
  refine ⟨.slice A1 (es.filter fun x => decide (x.src = a.src)).length c1, .slice none 0 0, v', [], by rw [e1]; rfl, by rw [e2]; exact ⟨A1, c1, by rw [List.length_map], hat1⟩, RowW.nil _ _, fun x hx => by simp at hx, by rw [e4]; rfl, by rw [e3]; exact Tn.pool h4 (by omega) hOl hTO, fun i hi => .inr (by have := h5 i hi; omega), (Kp.of_below HB1.out).trans_of h6 (fun i _ h => .inl h)⟩
theorem do_expire (T : Nat → Prop) (es : List Ent) (O base : Nat) (v : Value) (a : Act) (Ai Ao Ap : Option Addr) (ci co cp B : Nat) (w : World) (hlay : Laid w) (h : PoolAt T w O base v es) (hbase : base ≤ w.heap.size) (h8 : es.length ≤ 8) (hB : B ≤ w.heap.size) (hnow : a.now < 18446744073709551616)
    (htx : TxAt w B a.tx Ai ci Ao co) (hat : HashesAt w B Ap a.parents) (hp : a.parents.length ≤ 1000000) (hk0 : ¬ a.kind = 0) (hk1 : ¬ a.kind = 1) (hk2 : ¬ a.kind = 2) :
    Calls Tryd.prog 12 #[.pointer (some ⟨O, 0, none⟩), .agg (actCells a (.slice Ai a.tx.ins.length ci) (.slice Ao a.tx.outs.length co) (.slice Ap a.parents.length cp)).toArray] w (DoTo T w O base v es a) := by
  obtain ⟨w1, hw1⟩ : ∃ w1, w1 = w.alloc (.cells (actCells a (.slice Ai a.tx.ins.length ci) (.slice Ao a.tx.outs.length co) (.slice Ap a.parents.length cp)).toArray 39) := ⟨_, rfl⟩
  have hb1 : Below w.heap.size w w1 := by rw [hw1]; exact Joins.below_alloc1 _ _
  have hz1 : w1.heap.size = w.heap.size + 1 := by rw [hw1]; simp
  have hOl : O < w.heap.size := h.bk.lt
  have hvl := h.row.lt
  have hTO := h.tO
  have hP1 : PoolAt T w1 O base v es := h.kp' (S := fun _ => False) hb1 (fun _ _ h => h) h.tO h.tv
  obtain ⟨k0, k1, k2, k3, k4, k5, k6⟩ := act_cells (w := w1) (g := w.heap.size) (a := a) (i := .slice Ai a.tx.ins.length ci) (o := .slice Ao a.tx.outs.length co) (p := .slice Ap a.parents.length cp) (by rw [hw1]; exact Bk.new _ _ _)
  have HB1 := Lib.hid hb1
  have HC := Lib.hid (expire_any T es O base v a.now w1 hP1 (by omega) (by omega))
  clear hP1 h
  have HK0 := Lib.hid hk0
  have HK1 := Lib.hid hk1
  have HK2 := Lib.hid hk2
  clear hk0 hk1 hk2
  unfold actCells at hw1 ⊢
  go_enter Tryd.func12, Tryd.ntmps12
  go_upto_region 1 with (fail)
  rw [← hw1]
  clear hw1
  have hk0 := HK0.out
  have hk1 := HK1.out
  have hk2 := HK2.out
  go_wp2_with fail
  refine HC.out.mono ?_
  rintro e w2 ⟨vi, v', rfl, h3, h4, h5, h6⟩
  obtain ⟨A1, c1, rfl, _, _, hat1⟩ := h3.at_
  go_wp2_with fail
  go_ret3
  have e1 : doErr es a = 0 := by unfold doErr; rw [if_neg hk0]
  have e2 : doIds es a = (es.filter fun x => decide (x.fin ≤ a.now)).map Ent.id := by unfold doIds; rw [if_neg hk0, if_neg hk1, if_neg hk2]
  have e3 : doEs es a = es.filter (fun x => !decide (x.fin ≤ a.now)) := by unfold doEs; rw [if_neg hk0, if_neg hk1, if_neg hk2]
  have e4 : doW es a = [] := by unfold doW; rw [if_neg hk0, if_neg hk1]
  refine ⟨.slice A1 (es.filter fun x => decide (x.fin ≤ a.now)).length c1, .slice none 0 0, v', [], by rw [e1]; rfl, by rw [e2]; exact ⟨A1, c1, by rw [List.length_map], hat1⟩, RowW.nil _ _, fun x hx => by simp at hx, by rw [e4]; rfl, by rw [e3]; exact Tn.pool h4 (by omega) hOl hTO, fun i hi => .inr (by have := h5 i hi; omega), (Kp.of_below HB1.out).trans_of h6 (fun i _ h => .inl h)⟩
theorem do_any (T : Nat → Prop) (es : List Ent) (O base : Nat) (v : Value) (a : Act) (Ai Ao Ap : Option Addr) (ci co cp B : Nat) (w : World) (hlay : Laid w) (h : PoolAt T w O base v es) (hbase : base ≤ w.heap.size) (h8 : es.length ≤ 8) (hB : B ≤ w.heap.size) (hnow : a.now < 18446744073709551616)
    (htx : TxAt w B a.tx Ai ci Ao co) (hat : HashesAt w B Ap a.parents) (hp : a.parents.length ≤ 1000000) :
    Calls Tryd.prog 12 #[.pointer (some ⟨O, 0, none⟩), .agg (actCells a (.slice Ai a.tx.ins.length ci) (.slice Ao a.tx.outs.length co) (.slice Ap a.parents.length cp)).toArray] w (DoTo T w O base v es a) := by
  by_cases h0 : a.kind = 0
  · exact do_add T es O base v a Ai Ao Ap ci co cp B w hlay h hbase h8 hB hnow htx hat hp h0
  by_cases h1 : a.kind = 1
  · exact do_take T es O base v a Ai Ao Ap ci co cp B w hlay h hbase h8 hB hnow htx hat hp h1
  by_cases h2 : a.kind = 2
  · exact do_leave T es O base v a Ai Ao Ap ci co cp B w hlay h hbase h8 hB hnow htx hat hp h2
  · exact do_expire T es O base v a Ai Ao Ap ci co cp B w hlay h hbase h8 hB hnow htx hat hp h0 h1 h2
end Go.Proofs.YtacbibflhdmcoaaDoor.O14
/- A pool behind acts: in plain Lean and walked. -/
namespace Go.Proofs.YtacbibflhdmcoaaDoor.O14
open Go.RowKit Go.Deep T7
set_option linter.unusedVariables false
set_option linter.unusedSimpArgs false
set_option maxRecDepth 100000
set_option maxHeartbeats 2000000
attribute [local go_sem ↓] Go.wp_at_zero Go.wp_at_succ

def runEs (l : List Act) : List Ent := l.foldl doEs []
theorem runEs_snoc (l : List Act) (a : Act) : runEs (l ++ [a]) = doEs (runEs l) a := by unfold runEs; rw [List.foldl_append]; rfl
/-- what holds of all that wait -/
structure Good (es : List Ent) : Prop where
  few : es.length ≤ 8
  apart : (es.map Ent.id).Nodup
  each : ∀ e ∈ es, e.id = Txs.id e.tx ∧ Txs.check e.tx = 0 ∧ e.fin ≤ 18446744073709551615
theorem Good.nil : Good [] := ⟨by simp, by simp, by simp⟩
theorem Good.filter {es : List Ent} (h : Good es) (p : Ent → Bool) : Good (es.filter p) :=
  ⟨Nat.le_trans (List.length_filter_le _ _) h.few, h.apart.sublist (List.filter_sublist.map _), fun e he => h.each e (List.mem_filter.1 he).1⟩
theorem Good.drop {es : List Ent} (h : (es.map Ent.id).Nodup) (k : Nat) : ((es.drop k).map Ent.id).Nodup := h.sublist ((List.drop_sublist k es).map _)
theorem hasId_false {es : List Ent} {id : List UInt8} (h : hasId es id = false) : id ∉ es.map Ent.id := by
  intro hm
  obtain ⟨e, he, hi⟩ := List.mem_map.1 hm
  have := (List.any_eq_true (l := es) (p := fun x : Ent => decide (x.id = id))).2 ⟨e, he, by simpa using hi⟩
  unfold hasId at h
  rw [h] at this
  cases this
theorem addErr_zero {es : List Ent} {t : Txs.Tx} (h : addErr es t = 0) : Txs.check t = 0 ∧ hasId es (Txs.id t) = false := by
  unfold addErr at h
  split at h
  · rename_i hc
    cases hh : hasId es (Txs.id t) with
    | true => rw [hh] at h; simp at h
    | false => exact ⟨hc, rfl⟩
  · rename_i hc; exact absurd h hc
theorem Good.snoc {es : List Ent} (h : Good es) {src : Int} {t : Txs.Tx} {now : Nat} (he : addErr es t = 0) : ((es ++ [entOf src t now]).map Ent.id).Nodup ∧ ∀ e ∈ es ++ [entOf src t now], e.id = Txs.id e.tx ∧ Txs.check e.tx = 0 ∧ e.fin ≤ 18446744073709551615 := by
  obtain ⟨hc, hh⟩ := addErr_zero he
  refine ⟨?_, fun e hm => ?_⟩
  · rw [List.map_append, List.nodup_append]
    refine ⟨h.apart, by simp, fun a ha b hb => ?_⟩
    simp only [List.map_cons, List.map_nil, List.mem_singleton] at hb
    subst hb
    intro e
    rw [e] at ha
    exact hasId_false hh ha
  · rcases List.mem_append.1 hm with hm | hm
    · exact h.each e hm
    · rw [List.mem_singleton.1 hm]
      exact ⟨rfl, hc, by show min _ _ ≤ _; omega⟩
theorem Good.add {es : List Ent} (h : Good es) (src : Int) (t : Txs.Tx) (now : Nat) : Good (addEs es src t now) := by
  unfold addEs
  by_cases he : addErr es t = 0
  · obtain ⟨h1, h2⟩ := h.snoc (src := src) (now := now) he
    rw [if_pos he]
    by_cases h8 : es.length < 8
    · rw [if_pos h8]
      exact ⟨by rw [List.length_append]; simp; omega, h1, h2⟩
    · rw [if_neg h8]
      have := h.few
      exact ⟨by rw [List.length_drop, List.length_append]; simp; omega, Good.drop h1 1, fun e hm => h2 e (List.mem_of_mem_drop hm)⟩
  · rw [if_neg he]; exact h
theorem Good.do_ {es : List Ent} (h : Good es) (a : Act) : Good (doEs es a) := by
  unfold doEs
  split
  · exact h.add _ _ _
  · split
    · exact h.filter _
    · split <;> exact h.filter _
theorem good_run (l : List Act) : Good (runEs l) := by
  unfold runEs
  have : ∀ (es : List Ent), Good es → Good (l.foldl doEs es) := by
    induction l with
    | nil => intro es h; exact h
    | cons a l ih => intro es h; exact ih _ (h.do_ a)
  exact this [] .nil
/-- the blocks that a pool behind elder memory B may change, or that are elder -/
def PU (B O : Nat) (v : Value) : Nat → Prop := fun i => i < B ∨ i = O ∨ v.ownBlock = some i
theorem PU.next {B O base : Nat} {v v' : Value} {w w' : World} {es : List Ent} (h : PoolAt (Tn (PU B O v) w v') w' O base v' es) (hB : B ≤ w.heap.size) (hO : O < w.heap.size) : PoolAt (PU B O v') w' O base v' es :=
  h.less (fun i _ hi => by
    rcases hi with hi | hi | hi
    · exact .inl ⟨.inl hi, by omega⟩
    · exact .inl ⟨.inr (.inl hi), by omega⟩
    · exact .inr hi) (.inr (.inl rfl)) (fun i hi => .inr (.inr hi))
theorem grown_any (l : List Act) (A : Option Addr) (c B : Nat) (w : World) (hlay : Laid w) (h : ActsAt w B A l) (hB : B ≤ w.heap.size) (hl : l.length ≤ 1000) (hp : ∀ a ∈ l, a.parents.length ≤ 1000000) :
    Calls Tryd.prog 21 #[.slice A l.length c] w fun e w' => ∃ O v, e = .returned (.pointer (some ⟨O, 0, none⟩)) ∧ w.heap.size ≤ O ∧ PoolAt (PU w.heap.size O v) w' O w.heap.size v (runEs l) ∧ Below w.heap.size w w' := by
  have HI := Lib.hid h
  have HLY := Lib.hid hlay
  have HNEW := Lib.hid (new_any w)
  have hZA := zero_act
  generalize (#[.int .i64 0, .int .i64 0, .int .u32 0, .slice none 0 0, .slice none 0 0, .slice none 0 0, .int .u64 0] : Array Value) = za at hZA
  have HZA := Lib.hid hZA
  have HZAL := Lib.hid (show za.size = 7 by
    have := zero_act
    rw [this] at hZA
    simp only [Option.some.injEq, Value.agg.injEq] at hZA
    rw [← hZA]; rfl)
  clear hZA h hlay
  go_enter Tryd.func21, Tryd.ntmps21
  go_wp2_with fail
  refine HNEW.out.mono ?_
  rintro e w1 ⟨rfl, hbk, hb1, hz1⟩
  obtain ⟨O, hO⟩ : ∃ O, O = w.heap.size := ⟨_, rfl⟩
  rw [← hO] at hbk ⊢
  have HP1 := Lib.hid (show PoolAt (PU w.heap.size O (.slice none 0 0)) w1 O w.heap.size (.slice none 0 0) [] from ⟨hbk, RowE.nil _ _ _, by simp [Value.ownBlock], .inr (.inl rfl), fun i hi => by simp [Value.ownBlock] at hi⟩)
  have HB1 := Lib.hid hb1
  have hOl : w.heap.size ≤ O := by omega
  clear hO hbk hb1 HNEW
  go_wp2_with fail
  go_loopw [9] (fun iv wr => ∃ (k : Nat) (v : Value), iv = .int .i64 (k : Int) ∧ k ≤ l.length ∧ Hid (PoolAt (PU w.heap.size O v) wr O w.heap.size v (runEs (l.take k))) ∧ Hid (Below w.heap.size w wr)) (fun iv _ => l.length - (intOf iv).toNat)
  case atStart => exact ⟨0, _, rfl, Nat.zero_le _, Lib.hid (by rw [List.take_zero]; exact HP1.out), HB1⟩
  case round =>
    obtain ⟨k, v, rfl, hk, hP, hb⟩ := hrel
    by_cases hlt : k < l.length
    · obtain ⟨b, off, Ai, ci, Ao, co, Ap, cp, rfl, hbB, hr, hnow, htx, hcp, hmp, hat⟩ := ActsAt.range (ActsAt.below HI.out (hb.out.mono hB)) hlt
      have i1 : (0 : Int) ≤ (k : Int) := by omega
      have i2 : (k : Int) < (l.length : Int) := by omega
      have hpa := hp _ (List.getElem_mem hlt)
      have HTK := Lib.hid (List.take_succ_eq_append_getElem hlt)
      have HK1 := Lib.hid (show k + 1 ≤ l.length from hlt)
      generalize l[k] = x at *
      obtain ⟨cs, hcs⟩ : ∃ cs, cs = actCells x (.slice Ai x.tx.ins.length ci) (.slice Ao x.tx.outs.length co) (.slice Ap x.parents.length cp) := ⟨_, rfl⟩
      have HL := Lib.hid (show cs.length = 7 by rw [hcs]; rfl)
      have HONE := Lib.hid (show ∀ u ∈ cs, u.oneCell' = true by rw [hcs]; exact act_one _ _ _ _ _ _ _ _ _ _)
      rw [← hcs] at hr
      have HR := Lib.hid hr
      obtain ⟨wx, hwx⟩ : ∃ wx, wx = wr.alloc (.cells cs.toArray 39) := ⟨_, rfl⟩
      have hbx : Below wr.heap.size wr wx := by rw [hwx]; exact Joins.below_alloc1 _ _
      have HBX := Lib.hid (hb.out.trans (hbx.mono hb.out.size))
      have hPx : PoolAt (PU w.heap.size O v) wx O w.heap.size v (runEs (l.take k)) := hP.out.kp' (S := fun _ => False) hbx (fun _ _ h => h) hP.out.tO hP.out.tv
      have hbb : Below B wr wx := hbx.mono (Nat.le_trans hB hb.out.size)
      have HDO := Lib.hid (do_any _ _ O w.heap.size v x Ai Ao Ap ci co cp B wx (HLY.out.below HBX.out) hPx HBX.out.size (good_run _).few (Nat.le_trans hB HBX.out.size) hnow (htx.below hbb) (At.below hat hbb) hpa)
      have HPX := Lib.hid hPx
      have hszx : w.heap.size ≤ wx.heap.size := HBX.out.size
      obtain ⟨k0, k1, k2, k3, k4, k5, k6⟩ := act_cells (w := wx) (g := wr.heap.size) (a := x) (i := .slice Ai x.tx.ins.length ci) (o := .slice Ao x.tx.outs.length co) (p := .slice Ap x.parents.length cp) (by rw [hwx, ← hcs]; exact Bk.new _ _ _)
      unfold actCells at HDO
      clear hr hcs hbx hbb htx hat hPx
      go_upto_region 5 with (refine wpList_elem rfl rfl rfl 39 (.tmp 11) (.tmp 5) (.tmp 12) rfl rfl rfl b (off + k * 7) (by rfl) cs _ HR.out Tryd.underlying39 rfl (by rw [HL.out]; exact size_act) za HZA.out (by rw [HZAL.out, HL.out]) HONE.out (by rfl) (by rfl) ?_)
      rw [← hwx]
      clear hwx
      go_wp2_with fail
      refine HDO.out.mono ?_
      rintro e w2 ⟨vi, vw, v', qs, rfl, _, _, _, _, g1, g2, g3⟩
      have HP2 := Lib.hid (show PoolAt (PU w.heap.size O v') w2 O w.heap.size v' (runEs (l.take (k + 1))) by
        rw [HTK.out, runEs_snoc]
        exact PU.next g1 hszx HPX.out.bk.lt)
      have HB2 := Lib.hid (show Below w.heap.size w w2 from Kp.from_elder HBX.out g3 (fun i hi h => by
        rcases h with h | h
        · omega
        · have := (HPX.out.row.lt i h).1; omega))
      clear g1 g2 g3
      go_wp2_with fail
      go_roundw
      case rel => exact ⟨k + 1, v', by go_num, HK1.out, HP2, HB2⟩
      case measure => have := HK1.out; simp [intOf]; omega
    · have hkl : k = l.length := by omega
      rw [hkl, List.take_of_length_le (Nat.le_refl _)] at hP
      clear hkl
      go_wp2_with fail
      go_ret
      exact ⟨O, v, rfl, hOl, hP.out, hb.out⟩
end Go.Proofs.YtacbibflhdmcoaaDoor.O14
/- The law's simple transaction. -/
namespace Go.Proofs.YtacbibflhdmcoaaDoor.O14
open Go.RowKit Go.Deep T7
set_option linter.unusedVariables false
set_option linter.unusedSimpArgs false
set_option maxRecDepth 100000
attribute [local go_sem ↓] Go.wp_at_zero Go.wp_at_succ

def simpleTx (n : Nat) (p : List UInt8) : Txs.Tx := ⟨n, [⟨p, n % 3, []⟩], [⟨1, List.replicate 32 0⟩]⟩
theorem built_in0 (x : Txs.In) (h : x.hash.length = 32) : Tryd.prog.built 91 [(0, .agg (ptCells x).toArray)] = some (inCells x (.slice none 0 0)).toArray := by
  obtain ⟨hash, n, key⟩ := x
  exact list32 (P := fun hash => Tryd.prog.built 91 [(0, .agg (ptCells ⟨hash, n, key⟩).toArray)] = some (inCells ⟨hash, n, key⟩ (.slice none 0 0)).toArray) (fun b0 b1 b2 b3 b4 b5 b6 b7 b8 b9 b10 b11 b12 b13 b14 b15 b16 b17 b18 b19 b20 b21 b22 b23 b24 b25 b26 b27 b28 b29 b30 b31 => by kernel_rfl) hash h
theorem built_out0 : Tryd.prog.built 94 [(0, .int .u64 1)] = some (outCells ⟨1, List.replicate 32 0⟩).toArray := by kernel_rfl
set_option maxHeartbeats 2000000 in
theorem simple_any (n : Nat) (p : List UInt8) (hp : p.length = 32) (hn : n < 4294967296) (w : World) :
    Calls Tryd.prog 31 #[.int .u32 (n : Int), .agg (p.map byteV).toArray] w fun e w' => ∃ A c A' c', e = .returned (txV (simpleTx n p) A c A' c') ∧ TxNew w.heap.size w' (simpleTx n p) A c A' c' ∧ Below w.heap.size w w' := by
  obtain ⟨ia, hia⟩ : ∃ ia, ia = (p.map byteV).toArray := ⟨_, rfl⟩
  have HIS := Lib.hid (show ia.size = 32 by rw [hia]; simp [hp])
  have h3 : ((n : Int)) % 3 = ((n % 3 : Nat) : Int) := by omega
  have HBP := Lib.hid (show Tryd.prog.built 78 [(0, .agg ia), (1, .int .u32 ((n : Int) % 3))] = some (ptCells ⟨p, n % 3, []⟩).toArray by rw [hia, h3]; exact built_pt7 ⟨p, n % 3, []⟩ hp)
  have HBI := Lib.hid (built_in0 ⟨p, n % 3, []⟩ hp)
  have HBO := Lib.hid built_out0
  have HIL := Lib.hid (inCells_len (x := ⟨p, n % 3, []⟩) ⟨hp, by show n % 3 < _; omega⟩ (.slice none 0 0))
  rw [← hia]
  generalize hpa : (ptCells ⟨p, n % 3, []⟩).toArray = pa at *
  generalize hic : inCells ⟨p, n % 3, []⟩ (.slice none 0 0) = ic at *
  generalize hoc : outCells ⟨1, List.replicate 32 0⟩ = oc at *
  have HOL := Lib.hid (show oc.length = 33 by rw [← hoc]; rfl)
  have HZI := zero_in
  have HZL := Lib.hid zeroIn_len
  generalize (inCells ⟨List.replicate 32 0, 0, []⟩ (.slice none 0 0)).toArray = zi at *
  have HZO := zero_out
  have HZOL := Lib.hid zeroOut_len
  generalize (outCells ⟨0, List.replicate 32 0⟩).toArray = zo at *
  have HZI' := Lib.hid HZI
  have HZO' := Lib.hid HZO
  have HIC := Lib.hid hic
  have HOC := Lib.hid hoc
  clear HZI HZO h3 hia hpa hic hoc
  go_enter Tryd.func31, Tryd.ntmps31
  go_upto_region 1 with (fail)
  obtain ⟨w1, hw1⟩ : ∃ w1, w1 = (w.alloc (.cells ia 54)).alloc (.cells #[.int .u32 0, .slice none 0 0, .slice none 0 0] 35) := ⟨_, rfl⟩
  have HX1 := Lib.hid (show Bk w1 w.heap.size 54 ia by rw [hw1]; exact (Bk.new _ _ _).alloc _)
  go_wp2_with (first
    | (refine wpList_load_row rfl 54 (.tmp 3) rfl w.heap.size (by rfl) 54 ia (0, 0) _ ((Bk.new _ _ _).alloc _) Tryd.underlying54 rfl (by rw [HIS.out]; exact size_hash0) ?_)
    | (refine wpList_built_g (by rfl) 78 #[(0, .tmp 6), (1, .tmp 8)] rfl pa ?hb1 ?_)
    | (refine wpList_built_g (by rfl) 91 #[(0, .tmp 9)] rfl ic.toArray ?hb2 ?_)
    | (refine wpList_buildOne rfl 32 91 (.tmp 10) rfl ic.toArray (by rfl) Tryd.underlying32 (by rw [List.size_toArray, HIL.out]; exact size_in) zi HZI'.out (by rw [List.size_toArray, HIL.out]; omega) (by rw [List.size_toArray, HIL.out]; omega) ?_)
    | (refine wpList_built_g (by rfl) 94 #[(0, .const (.int .u64 1))] rfl oc.toArray ?hb3 ?_)
    | (refine wpList_buildOne rfl 33 94 (.tmp 12) rfl oc.toArray (by rfl) Tryd.underlying33 (by rw [List.size_toArray, HOL.out]; exact size_out) zo HZO'.out (by rw [List.size_toArray, HOL.out]; omega) (by rw [List.size_toArray, HOL.out]; omega) ?_))
  case hb1 => exact HBP.out
  case hb2 => exact HBI.out
  case hb3 => exact HBO.out
  obtain ⟨wz, hwz⟩ : ∃ wz, wz = ((((w.alloc (.cells ia 54)).alloc (.cells #[.int .u32 (n : Int), .slice (some ⟨w.heap.size + 1 + 1, 0, none⟩) 1 1, .slice (some ⟨w.heap.size + 1 + 1 + 1, 0, none⟩) 1 1] 35)).alloc (.cells ic.toArray 91)).alloc (.cells oc.toArray 94)) := ⟨_, rfl⟩
  have hT : Bk wz (w.heap.size + 1) 35 (txCells n (.slice (some ⟨w.heap.size + 1 + 1, 0, none⟩) 1 1) (.slice (some ⟨w.heap.size + 1 + 1 + 1, 0, none⟩) 1 1)) := by
    rw [hwz]
    have := ((Bk.new (w.alloc (.cells ia 54)) 35 (txCells n (.slice (some ⟨w.heap.size + 1 + 1, 0, none⟩) 1 1) (.slice (some ⟨w.heap.size + 1 + 1 + 1, 0, none⟩) 1 1))).alloc (.cells ic.toArray 91)).alloc (.cells oc.toArray 94)
    rw [show (w.alloc (.cells ia 54)).heap.size = w.heap.size + 1 by simp] at this
    exact this
  have hI : Bk wz (w.heap.size + 1 + 1) 91 ic.toArray := by
    rw [hwz]
    have := (Bk.new ((w.alloc (.cells ia 54)).alloc (.cells #[.int .u32 (n : Int), .slice (some ⟨w.heap.size + 1 + 1, 0, none⟩) 1 1, .slice (some ⟨w.heap.size + 1 + 1 + 1, 0, none⟩) 1 1] 35)) 91 ic.toArray).alloc (.cells oc.toArray 94)
    simpa using this
  have hO : Bk wz (w.heap.size + 1 + 1 + 1) 94 oc.toArray := by
    rw [hwz]
    have := Bk.new (((w.alloc (.cells ia 54)).alloc (.cells #[.int .u32 (n : Int), .slice (some ⟨w.heap.size + 1 + 1, 0, none⟩) 1 1, .slice (some ⟨w.heap.size + 1 + 1 + 1, 0, none⟩) 1 1] 35)).alloc (.cells ic.toArray 91)) 94 oc.toArray
    simpa using this
  have hB : Below w.heap.size w wz := by
    rw [hwz]
    exact ((((Below.refl _ _).alloc (Nat.le_refl _) _).alloc (by simp) _).alloc (by simp; omega) _).alloc (by simp; omega) _
  rw [← hwz]
  refine bodyPost_ret (results_cell_row rfl _ _ (w.heap.size + 1) 35 (txCells n (.slice (some ⟨w.heap.size + 1 + 1, 0, none⟩) 1 1) (.slice (some ⟨w.heap.size + 1 + 1 + 1, 0, none⟩) 1 1)) (0, 0) _ rfl hT Tryd.underlying35 rfl size_tx) rfl ?_
  refine ⟨_, _, _, _, rfl, ?_, hB⟩
  intro wy hy
  have hI2 := hI.kp hy (by omega)
  have hO2 := hO.kp hy (by omega)
  have kx : (⟨p, n % 3, []⟩ : Txs.In).Ok := ⟨hp, by show n % 3 < _; omega⟩
  have ky : (⟨1, List.replicate 32 0⟩ : Txs.Out).Ok := ⟨by decide, by simp⟩
  refine ⟨hn, Nat.le_refl _, by simp [maxLen], Nat.le_refl _, by simp [maxLen], ?_, ?_⟩
  · exact At.of_bk (fun x : Txs.In => inCells x (.slice none 0 0)) (fun x hx => by
      rw [List.mem_singleton.1 hx]
      exact ⟨inCells_len kx _, kx, none, 0, rfl, Nat.le_refl _, by simp [maxLen], fun i hi => by simp at hi⟩) (by rw [show (simpleTx n p).ins.flatMap (fun x : Txs.In => inCells x (.slice none 0 0)) = ic by rw [← HIC.out]; simp [simpleTx]]; exact hI2)
  · exact At.of_bk outCells (fun x hx => by
      rw [List.mem_singleton.1 hx]
      exact ⟨outCells_len ky, ky, rfl⟩) (by rw [show (simpleTx n p).outs.flatMap outCells = oc by rw [← HOC.out]; simp [simpleTx]]; exact hO2)
end Go.Proofs.YtacbibflhdmcoaaDoor.O14
/- The document's examples of the pool, in plain Lean: reckoned by the kernel. -/
namespace Go.Proofs.YtacbibflhdmcoaaDoor.O14
open T7
set_option linter.unusedVariables false
set_option maxRecDepth 100000

def aliveHash (i : Nat) : List UInt8 := UInt8.ofNat (i % 2) :: List.replicate 31 0
theorem aliveHash_len (i : Nat) : (aliveHash i).length = 32 := by simp [aliveHash]
def aliveTx (i : Nat) : Txs.Tx := simpleTx i (aliveHash i)
def aliveEnt (i : Nat) : Ent := entOf (i : Int) (aliveTx i) 5
theorem alive_ids : ((List.range 9).map fun i => Txs.id (aliveTx i)).Nodup := by decide +kernel
theorem alive_check : ∀ i, i < 9 → Txs.check (aliveTx i) = 0 := by decide +kernel
theorem alive_apart {i j : Nat} (hi : i < 9) (hj : j < 9) (h : Txs.id (aliveTx i) = Txs.id (aliveTx j)) : i = j := by
  have hp := List.pairwise_iff_getElem.1 alive_ids
  rcases Nat.lt_trichotomy i j with h1 | h1 | h1
  · exact absurd (by rw [List.getElem_map, List.getElem_map, List.getElem_range, List.getElem_range]; exact h) (hp i j (by simpa using hi) (by simpa using hj) h1)
  · exact h1
  · exact absurd (by rw [List.getElem_map, List.getElem_map, List.getElem_range, List.getElem_range]; exact h.symm) (hp j i (by simpa using hj) (by simpa using hi) h1)
theorem alive_err {k : Nat} (hk : k < 9) : addErr ((List.range k).map aliveEnt) (aliveTx k) = 0 := by
  unfold addErr
  rw [if_pos (alive_check k hk)]
  have : hasId ((List.range k).map aliveEnt) (Txs.id (aliveTx k)) = false := by
    unfold hasId
    rw [List.any_eq_false]
    intro e he
    obtain ⟨i, hi, rfl⟩ := List.mem_map.1 he
    rw [List.mem_range] at hi
    rw [decide_eq_true_iff]
    intro h
    have := alive_apart (by omega) hk h
    omega
  rw [this]; rfl
/-- those that wait behind so many -/
def aliveEs (k : Nat) : List Ent := if k ≤ 8 then (List.range k).map aliveEnt else ((List.range 9).map aliveEnt).drop 1
theorem alive_next {k : Nat} (hk : k < 9) : addErr (aliveEs k) (aliveTx k) = 0 ∧ addEs (aliveEs k) (k : Int) (aliveTx k) 5 = aliveEs (k + 1) ∧ (addGone (aliveEs k) (aliveTx k)).length = (if k < 8 then 0 else 1) := by
  have e1 : aliveEs k = (List.range k).map aliveEnt := by unfold aliveEs; rw [if_pos (by omega)]
  have he := alive_err hk
  have hl : ((List.range k).map aliveEnt).length = k := by simp
  rw [e1]
  refine ⟨he, ?_, ?_⟩
  · unfold addEs
    rw [if_pos he, hl]
    have e2 : (List.range k).map aliveEnt ++ [entOf (k : Int) (aliveTx k) 5] = (List.range (k + 1)).map aliveEnt := by
      rw [List.range_succ, List.map_append]; rfl
    by_cases h8 : k < 8
    · rw [if_pos h8, e2]; unfold aliveEs; rw [if_pos (by omega)]
    · obtain rfl : k = 8 := by omega
      rw [if_neg h8, e2]; rfl
  · unfold addGone
    rw [if_pos he, hl]
    by_cases h8 : k < 8
    · rw [if_pos h8, if_pos h8]; rfl
    · rw [if_neg h8, if_neg h8]
      obtain rfl : k = 8 := by omega
      rfl
theorem alive_len (k : Nat) (hk : k ≤ 9) : (aliveEs k).length ≤ 8 := by
  unfold aliveEs
  split <;> simp <;> omega
theorem alive_take : ((aliveEs 9).filter fun x => spends [aliveHash 1] x.tx).map Ent.src = [1, 3, 5, 7] := by decide +kernel
theorem alive_left : ((aliveEs 9).filter fun x => !spends [aliveHash 1] x.tx).length = 4 := by decide +kernel
theorem alive_gone : (((aliveEs 9).filter fun x => !spends [aliveHash 1] x.tx).filter fun x => decide (x.fin ≤ 305)).length = 4 := by decide +kernel
end Go.Proofs.YtacbibflhdmcoaaDoor.O14
/- The document's examples of the pool, walked. -/
namespace Go.Proofs.YtacbibflhdmcoaaDoor.O14
open Go.RowKit Go.Deep T7
set_option linter.unusedVariables false
set_option linter.unusedSimpArgs false
set_option maxRecDepth 100000
set_option maxHeartbeats 2000000
attribute [local go_sem ↓] Go.wp_at_zero Go.wp_at_succ

theorem built_hash1 (b : UInt8) : Tryd.prog.built 54 [(0, byteV b)] = some ((b :: List.replicate 31 0).map byteV).toArray := by kernel_rfl
theorem built_alive (k : Nat) : Tryd.prog.built 54 [(0, .int .u8 ((k : Int) % 2))] = some ((aliveHash k).map byteV).toArray := by
  have e : (.int .u8 ((k : Int) % 2) : Value) = byteV (UInt8.ofNat (k % 2)) := by
    unfold byteV
    congr 1
    have h1 : (UInt8.ofNat (k % 2)).toNat = k % 2 := by
      rw [UInt8.toNat_ofNat']; omega
    rw [h1]
    omega
  rw [e]
  exact built_hash1 _
theorem four_of {qs : List EP} (h : (qs.map (·.1)).map Ent.src = [1, 3, 5, 7]) : ∃ q0 q1 q2 q3 : EP, qs = [q0, q1, q2, q3] ∧ q0.1.src = 1 ∧ q3.1.src = 7 := by
  rcases qs with _ | ⟨q0, _ | ⟨q1, _ | ⟨q2, _ | ⟨q3, _ | ⟨q4, qs⟩⟩⟩⟩⟩ <;> simp at h
  exact ⟨q0, q1, q2, q3, rfl, h.1, h.2.2.2⟩
theorem alive_any (w : World) (hlay : Laid w) : Calls Tryd.prog 9 #[] w fun e w' => e = .returned (.bool true) ∧ Below w.heap.size w w' := by
  have HLY := Lib.hid hlay
  have HNEW := Lib.hid (new_any w)
  clear hlay
  go_enter Tryd.func9, Tryd.ntmps9
  go_wp2_with fail
  refine HNEW.out.mono ?_
  rintro e w1 ⟨rfl, hbk, hb1, hz1⟩
  obtain ⟨O, hO⟩ : ∃ O, O = w.heap.size := ⟨_, rfl⟩
  rw [← hO] at hbk ⊢
  have HP1 := Lib.hid (show PoolAt (PU w.heap.size O (.slice none 0 0)) w1 O w.heap.size (.slice none 0 0) [] from ⟨hbk, RowE.nil _ _ _, by simp [Value.ownBlock], .inr (.inl rfl), fun i hi => by simp [Value.ownBlock] at hi⟩)
  have HB1 := Lib.hid hb1
  have hOl : w.heap.size ≤ O := by omega
  clear hO hbk hb1 HNEW
  go_wp2_with fail
  go_loopw [9] (fun iv wr => ∃ (k : Nat) (v : Value), iv = .int .u32 (k : Int) ∧ k ≤ 9 ∧ Hid (PoolAt (PU w.heap.size O v) wr O w.heap.size v (aliveEs k)) ∧ Hid (Below w.heap.size w wr)) (fun iv _ => 9 - (intOf iv).toNat)
  case atStart => exact ⟨0, _, rfl, by omega, HP1, HB1⟩
  case round =>
    obtain ⟨k, v, rfl, hk, hP, hb⟩ := hrel
    by_cases hlt : k < 9
    · have i2 : (k : Int) < 9 := by omega
      have i1 : (0 : Int) ≤ (k : Int) := by omega
      have HBH := Lib.hid (built_alive k)
      have HSI := Lib.hid (simple_any k (aliveHash k) (aliveHash_len k) (by omega))
      obtain ⟨ha, hh⟩ : ∃ h, h = ((aliveHash k).map byteV).toArray := ⟨_, rfl⟩
      rw [← hh] at HBH HSI
      clear hh
      obtain ⟨h1, h2, h3⟩ := alive_next hlt
      have HADD := Lib.hid (fun W A c A' c' hl hp ht hB => add_any (PU w.heap.size O v) (aliveEs k) O w.heap.size v (k : Int) (aliveTx k) A A' c c' W.heap.size 5 W hl hp ht (Nat.le_refl _) hB (alive_len k (by omega)) (by omega))
      rw [h1, h2] at HADD
      obtain ⟨gl, hgl⟩ : ∃ gl, gl = addGone (aliveEs k) (aliveTx k) := ⟨_, rfl⟩
      rw [← hgl] at HADD h3
      rw [show simpleTx k (aliveHash k) = aliveTx k from rfl] at HSI
      unfold txV at HADD HSI
      clear hgl h1 h2
      go_upto_region 8 with (first
        | (refine wpList_built_g (by rfl) 54 #[(0, .tmp 19)] rfl ha ?hb1 ?_)
        | (go_at_call 31; refine (HSI.out _).mono ?_; rintro e w2 ⟨A, c, A', c', rfl, hnew, hb2⟩; have HNW := Lib.hid hnew; have HB2 := Lib.hid hb2; clear hnew hb2))
      case hb1 => exact HBH.out
      have hw2 : Below w.heap.size w w2 := hb.out.trans (HB2.out.mono hb.out.size)
      have HW2 := Lib.hid hw2
      have HP2 := Lib.hid (show PoolAt (PU w.heap.size O v) w2 O w.heap.size v (aliveEs k) from hP.out.kp' (S := fun _ => False) HB2.out (fun _ _ h => h) hP.out.tO hP.out.tv)
      clear hw2
      go_wp2_with fail
      refine (HADD.out w2 A c A' c' (HLY.out.below HW2.out) HP2.out HNW.out.at_ HW2.out.size).mono ?_
      rintro e w3 ⟨A1, c1, v', rfl, _, _, _, g1, g2, g3⟩
      have HP3 := Lib.hid (PU.next g1 HW2.out.size HP2.out.bk.lt)
      have HB3 := Lib.hid (show Below w.heap.size w w3 from Kp.from_elder HW2.out g3 (fun i hi h => by
        rcases h with h | h
        · omega
        · have := (HP2.out.row.lt i h).1; omega))
      clear g1 g2 g3
      by_cases h8 : k < 8
      · have hg0 : gl.length = 0 := by rw [h3, if_pos h8]
        have i8 : ¬ (k : Int) = 8 := by omega
        clear h3
        go_wp2_with fail
        go_roundw
        case rel => exact ⟨k + 1, v', by go_num, by omega, HP3, HB3⟩
        case measure => simp [intOf]; omega
      · have hg0 : gl.length = 1 := by rw [h3, if_neg h8]
        obtain rfl : k = 8 := by omega
        clear h3
        go_wp2_with fail
        go_roundw
        case rel => exact ⟨9, v', by go_num, by omega, HP3, HB3⟩
        case measure => simp [intOf]
    · obtain rfl : k = 9 := by omega
      have HBH := Lib.hid (show Tryd.prog.built 54 [(0, .int .u8 1)] = some ((aliveHash 1).map byteV).toArray from built_hash1 1)
      obtain ⟨ha, hh⟩ : ∃ h, h = (aliveHash 1).map byteV := ⟨_, rfl⟩
      have HHA := Lib.hid hh
      have HHL := Lib.hid (show ha.length = 32 by rw [hh, List.length_map]; exact aliveHash_len 1)
      rw [← hh] at HBH
      obtain ⟨zs, hzs⟩ : ∃ zs, zs = ((List.replicate 32 (0 : UInt8)).map byteV).toArray := ⟨_, rfl⟩
      have HZ := Lib.hid (show (Tryd.prog.info? 54).map (·.zero) = some (some (.agg zs)) by rw [hzs]; exact zero_hash0)
      obtain ⟨w2, hw2⟩ : ∃ w2, w2 = wr.alloc (.cells ha.toArray 54) := ⟨_, rfl⟩
      have hb2 : Below wr.heap.size wr w2 := by rw [hw2]; exact Joins.below_alloc1 _ _
      have HW2 := Lib.hid (hb.out.trans (hb2.mono hb.out.size))
      have HP2 := Lib.hid (show PoolAt (PU w.heap.size O v) w2 O w.heap.size v (aliveEs 9) from hP.out.kp' (S := fun _ => False) hb2 (fun _ _ h => h) hP.out.tO hP.out.tv)
      have HHS := Lib.hid (show HashesAt w2 w2.heap.size (some ⟨wr.heap.size, 0, none⟩) [aliveHash 1] from At.of_bk (fun l : List UInt8 => l.map byteV) (fun x hx => by
        rw [List.mem_singleton.1 hx]
        exact ⟨by rw [List.length_map]; exact aliveHash_len 1, aliveHash_len 1, rfl⟩) (by
        rw [show [aliveHash 1].flatMap (fun l : List UInt8 => l.map byteV) = ha by rw [hh]; simp, hw2]
        exact Bk.new _ _ _))
      have HTK := Lib.hid (show Calls Tryd.prog 30 #[.pointer (some ⟨O, 0, none⟩), .slice (some ⟨wr.heap.size, 0, none⟩) 1 1] w2 _ from take_any (PU w.heap.size O v) (aliveEs 9) O w.heap.size v [aliveHash 1] (some ⟨wr.heap.size, 0, none⟩) 1 w2.heap.size w2 HP2.out HW2.out.size (by have := alive_len 9 (by omega); omega) HHS.out (Nat.le_refl _) (by decide))
      clear hh hzs hb2
      go_upto_region 12 with (first
        | (refine wpList_built_g (by rfl) 54 #[(0, .const (.int .u8 1))] rfl ha.toArray ?hb1 ?_)
        | (refine wpList_buildOne rfl 36 54 (.tmp 37) rfl ha.toArray (by rfl) Tryd.underlying36 (by rw [List.size_toArray, HHL.out]; exact size_hash0) zs HZ.out (by rw [List.size_toArray, HHL.out]; omega) (by rw [List.size_toArray, HHL.out]; omega) ?_))
      case hb1 => exact HBH.out
      rw [← hw2]
      clear hw2
      refine HTK.out.mono ?_
      rintro e w3 ⟨vt, v3, qs, rfl, g1, g2, g3, g4, g5, g6⟩
      have hsrc : (qs.map (·.1)).map Ent.src = [1, 3, 5, 7] := by rw [g3]; exact alive_take
      obtain ⟨q0, q1, q2, q3, rfl, hq0, hq3⟩ : ∃ q0 q1 q2 q3 : EP, qs = [q0, q1, q2, q3] ∧ q0.1.src = 1 ∧ q3.1.src = 7 := four_of hsrc
      obtain ⟨At, ct, rfl, ht4, htm, _, hcell⟩ := own_form g1
      obtain ⟨bt, rfl, _, hbl, hc0⟩ := hcell 0 (.int .i64 1) (by rw [← hq0]; rfl)
      obtain ⟨bt', hbt, _, _, hc12⟩ := hcell 12 (.int .i64 7) (by rw [← hq3]; rfl)
      obtain rfl : bt = bt' := by injection hbt with hbt; injection hbt
      have hO3 : O < w3.heap.size := g4.bk.lt
      have hz23 : w2.heap.size ≤ w3.heap.size := g6.size
      have HW3 := Lib.hid (show Below w.heap.size w w3 from Kp.from_elder HW2.out g6 (fun i hi h => by omega))
      have HP3 := Lib.hid (PU.next g4 HW2.out.size HP2.out.bk.lt)
      have hl4 := alive_left
      obtain ⟨es, hes⟩ : ∃ es, es = (aliveEs 9).filter fun x => !spends [aliveHash 1] x.tx := ⟨_, rfl⟩
      have hg4 := alive_gone
      rw [← hes] at HP3 hl4 hg4
      have hlen : [q0, q1, q2, q3].length = 4 := rfl
      rw [hlen] at ht4 ⊢
      have HALL := Lib.hid (all_any (PU w.heap.size O v3) es O w.heap.size v3 w3 HP3.out (by omega))
      rw [hl4] at HALL
      clear hsrc hcell hbt hes g1 g2 g3 g4 g5 g6 hlen
      go_wp2_with fail
      refine HALL.out.mono ?_
      rintro e w4 ⟨A4, c4, rfl, _, hb4⟩
      have HW4 := Lib.hid (HW3.out.trans (hb4.mono HW3.out.size))
      have HP4 := Lib.hid (show PoolAt (PU w.heap.size O v3) w4 O w.heap.size v3 es from HP3.out.kp' (S := fun _ => False) hb4 (fun _ _ h => h) HP3.out.tO HP3.out.tv)
      have HEXP := Lib.hid (expire_any (PU w.heap.size O v3) es O w.heap.size v3 305 w4 HP4.out HW4.out.size (by omega))
      have hz4 := HW4.out.size
      clear hb4
      go_wp2_with fail
      refine HEXP.out.mono ?_
      rintro e w5 ⟨vi, v5, rfl, k1, k2, k3, k4⟩
      obtain ⟨A5, c5, rfl, _⟩ := k1.at_
      have hl5 : ((es.filter fun x => decide (x.fin ≤ 305)).map Ent.id).length = 4 := by rw [List.length_map]; exact hg4
      rw [hl5]
      have HW5 := Lib.hid (show Below w.heap.size w w5 from Kp.from_elder HW4.out k4 (fun i hi h => by omega))
      clear k1 k2 k3 k4 hl5 hg4 hl4
      go_wp2_with fail
      go_ret
      exact ⟨rfl, HW5.out⟩
end Go.Proofs.YtacbibflhdmcoaaDoor.O14
