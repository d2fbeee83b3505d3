/- Add, where it lets one wait. -/
import Derived.Test.YtacbibflhdmcoaaDoorOrphB
import Derived.Test.YtacbibflhdmcoaaDoorOrders
import Derived.Test.YtacbibflhdmcoaaDoorTxBuilt
namespace Go.Proofs.YtacbibflhdmcoaaDoor.O14
open Go.RowKit Go.Deep T7
set_option linter.unusedVariables false
set_option linter.unusedSimpArgs false
set_option maxRecDepth 100000
set_option maxHeartbeats 4000000
attribute [local go_sem ↓] Go.wp_at_zero Go.wp_at_succ

theorem later_nat (now : Nat) : later (now : Int) 300 = ((min (now + 300) 18446744073709551615 : Nat) : Int) := by unfold later; omega
theorem built_wait (s : Int) (v : Nat) (A1 A2 : Option Addr) (n c n' c' : Nat) : Tryd.prog.built 52 [(0, .int .i64 s), (1, .agg #[.int .u32 (v : Int), .slice A1 n c, .slice A2 n' c'])] = some #[.int .i64 s, .int .u32 (v : Int), .slice A1 n c, .slice A2 n' c'] := by kernel_rfl
theorem built_ent (e : Ent) (A1 A2 : Option Addr) (n c n' c' : Nat) (h : e.id.length = 32) : Tryd.prog.built 96 [(0, .agg #[.int .i64 e.src, .int .u32 (e.tx.version : Int), .slice A1 n c, .slice A2 n' c']), (1, .agg (e.id.map byteV).toArray), (2, .int .u64 (e.fin : Int))] = some (entCells e (.slice A1 n c) (.slice A2 n' c')).toArray := by
  obtain ⟨src, tx, id, fin⟩ := e
  exact list32 (P := fun id => Tryd.prog.built 96 [(0, .agg #[.int .i64 src, .int .u32 (tx.version : Int), .slice A1 n c, .slice A2 n' c']), (1, .agg (id.map byteV).toArray), (2, .int .u64 (fin : Int))] = some (entCells ⟨src, tx, id, fin⟩ (.slice A1 n c) (.slice A2 n' c')).toArray) (fun b0 b1 b2 b3 b4 b5 b6 b7 b8 b9 b10 b11 b12 b13 b14 b15 b16 b17 b18 b19 b20 b21 b22 b23 b24 b25 b26 b27 b28 b29 b30 b31 => by kernel_rfl) id h
theorem first_id {qs : List EP} {es : List Ent} {x : Ent} (h : qs.map (·.1) = es ++ [x]) (he : es.length ≠ 0) (hq : 0 < qs.length) : (es.take 1).map Ent.id = [qs[0].1.id] := by
  match qs, es, h with
  | q :: qs, e :: es, h =>
    simp only [List.map_cons, List.cons_append, List.cons.injEq] at h
    simp [h.1]
  | [], _, _ => simp at hq
  | _, [], _ => simp at he
theorem add_pool {T : Nat → Prop} {w w6 w8 w9 w10 : World} {O base m cV c9 c1 c2 : Nat} {AV A9 A1 A2 : Option Addr} {ps : List EP} {t : Txs.Tx} {o : Obj} {e : Ent} {cx : List Value} (HB6 : Below w.heap.size w w6) (HPP : PoolP T w6 O base (.slice AV m cV) ps) (hOw : O < w.heap.size)
    (hvw : ∀ i, (Value.slice AV m cV).ownBlock = some i → i < w.heap.size) (HB8 : Below w6.heap.size w6 w8) (HN8 : TxNew w6.heap.size w8 t A1 c1 A2 c2) (HRow : w9.ownsRow base 96 37 (.slice A9 (m + 1) c9) (m + 1) (ps.flatMap entPair ++ cx))
    (HG : (w8.alloc o).grownBy w9 (Value.slice AV m cV).ownBlock) (HAT : (Value.slice A9 (m + 1) c9).ownBlock = (Value.slice AV m cV).ownBlock ∨ (Value.slice A9 (m + 1) c9).ownBlock = some (w8.alloc o).heap.size)
    (HK10 : Kp (fun i => i = O) w9 w10) (HO10 : Bk w10 O 82 #[.slice A9 (m + 1) c9]) (hm : m = ps.length) (he : e.Ok) (htx : e.tx = t) (hcx : cx = entCells e (.slice A1 t.ins.length c1) (.slice A2 t.outs.length c2)) :
    PoolP (Tn T w (.slice A9 (m + 1) c9)) w10 O base (.slice A9 (m + 1) c9) (ps ++ [(e, .slice A1 t.ins.length c1, .slice A2 t.outs.length c2)]) ∧
    ((Value.slice A9 (m + 1) c9).ownBlock = (Value.slice AV m cV).ownBlock ∨ ∃ g, (Value.slice A9 (m + 1) c9).ownBlock = some g ∧ w.heap.size ≤ g) ∧ Kp (fun i => i = O ∨ (Value.slice AV m cV).ownBlock = some i) w w10 := by
  have s6 := HB6.size
  have s8 := HB8.size
  have sa : (w8.alloc o).heap.size = w8.heap.size + 1 := by simp
  have k89 : Kp (fun i => (Value.slice AV m cV).ownBlock = some i) w8 w9 := ((Kp.refl _ _).alloc o).trans ((Kp.refl _ _).grown HG (fun k hk _ => hk))
  have k8 : Kp (fun i => i = O ∨ (Value.slice AV m cV).ownBlock = some i) w8 w10 := (k89.mono fun _ _ h => .inr h).trans (HK10.mono fun _ _ h => .inl h)
  have k6 : Kp (fun i => i = O ∨ (Value.slice AV m cV).ownBlock = some i) w6 w10 := (Kp.of_below HB8).trans k8
  have kw : Kp (fun i => i = O ∨ (Value.slice AV m cV).ownBlock = some i) w w10 := (Kp.of_below HB6).trans k6
  have hne : (Value.slice A9 (m + 1) c9).ownBlock ≠ some O := by
    intro h
    rcases HAT with h' | h'
    · exact HPP.ne (h'.symm.trans h)
    · have := Option.some.inj (h'.symm.trans h); omega
  have hold : ∀ i, i < w8.heap.size → Tn T w (.slice A9 (m + 1) c9) i → i < w.heap.size ∧ T i := by
    intro i hi h
    rcases h with h | h
    · exact ⟨h.2, h.1⟩
    · rcases HAT with h' | h'
      · have := h'.symm.trans h; exact ⟨hvw i this, HPP.tv i this⟩
      · have := Option.some.inj (h'.symm.trans h); omega
  refine ⟨⟨HO10, ?_, ?_, hne, .inl ⟨HPP.tO, hOw⟩, fun i hi => .inr hi⟩, ?_, kw⟩
  · have := own_kpo HRow HK10 (fun i hi e => hne (e ▸ hi))
    rw [hm] at this ⊢
    exact RowP.push (by rw [hcx, ← htx] at this; rw [← htx]; exact this)
  · intro p hp
    rcases List.mem_append.1 hp with h | h
    · exact (HPP.all p h).step k6 (fun i _ h => h.elim (fun e => e ▸ HPP.tO) (HPP.tv i)) (fun i hi h => (hold i (by omega) h).2)
    · rw [List.mem_singleton.1 h]
      refine ⟨he, ?_⟩
      show TxPers _ w10 e.tx _ _
      rw [htx]
      exact (TxPers.of_new (T := fun i => i < w6.heap.size) HN8 (fun i _ h => h)).step k8 (fun i hi h => h.elim (fun e => by omega) (fun h => by have := hvw i h; omega)) (fun i hi h => by have := (hold i hi h).1; omega)
  · rcases HAT with h | h
    · exact .inl h
    · exact .inr ⟨_, h, by omega⟩
theorem add_ok (T : Nat → Prop) (es : List Ent) (O base : Nat) (v : Value) (src : Int) (t : Txs.Tx) (A A' : Option Addr) (c c' B : Nat) (now : Nat) (w : World) (hlay : Laid w) (h : PoolAt T w O base v es) (ht : TxAt w B t A c A' c') (hB : B ≤ w.heap.size) (hbase : base ≤ w.heap.size) (hc : Txs.check t = 0)
    (hh : hasId es (Txs.id t) = false) (h8 : es.length ≤ 8) (hnow : now < 18446744073709551616) :
    Calls Tryd.prog 25 #[.pointer (some ⟨O, 0, none⟩), .int .i64 src, txV t A c A' c', .int .u64 (now : Int)] w
      (AddTo T w O base v (if es.length < 8 then es ++ [entOf src t now] else (es ++ [entOf src t now]).drop 1) (if es.length < 8 then [] else (es.take 1).map Ent.id) 0) := by
  have hn : es.length ≤ 1000 := by omega
  obtain ⟨af, haf⟩ : ∃ af, af = (if es.length < 8 then es ++ [entOf src t now] else (es ++ [entOf src t now]).drop 1) := ⟨_, rfl⟩
  obtain ⟨gn, hgn⟩ : ∃ gn, gn = (if es.length < 8 then [] else (es.take 1).map Ent.id) := ⟨_, rfl⟩
  rw [← haf, ← hgn]
  have HAF := Lib.hid haf
  have HGN := Lib.hid hgn
  clear haf hgn
  have HFO := Lib.hid (Txs.check_ok hc).1
  have HP := Lib.hid h
  have HC := Lib.hid (fun W h1 h2 => hc ▸ check7_any t A A' c c' B W h1 h2)
  have hic := Txs.idErr_of hc
  have HI := Lib.hid (fun W (hl : Laid W) h1 h2 => hic ▸ id_any t A A' c c' B W hl h1 h2)
  have HT := Lib.hid ht
  have HLY := Lib.hid hlay
  obtain ⟨id, hid'⟩ : ∃ id, id = Txs.id t := ⟨_, rfl⟩
  have HIL := Lib.hid (show id.length = 32 by rw [hid']; exact id_len t)
  have HII := Lib.hid hid'
  rw [← hid'] at HI hh
  obtain ⟨ia, hia⟩ : ∃ ia, ia = bytesArr id := ⟨_, rfl⟩
  have HIA := Lib.hid hia
  have HIS := Lib.hid (show ia.size = 32 by rw [hia]; simp [bytesArr, HIL.out])
  have HI1 := Lib.hid (show ia.all (·.oneCell') = true by rw [hia]; simp [bytesArr, Value.oneCell', byteV])
  rw [← hia] at HI
  have HHAS := Lib.hid (show ∀ W, PoolAt T W O base v es → Calls Tryd.prog 23 #[.pointer (some ⟨O, 0, none⟩), .agg ia] W fun e w' => e = .returned (.bool false) ∧ Below W.heap.size W w' from fun W hp => by
    have := has_any T es O base v id HIL.out W hp hn
    rw [show (es.any fun x => decide (x.id = id)) = false from hh] at this
    rw [hia]
    exact this)
  obtain ⟨zs, hzs⟩ : ∃ zs, zs = bytesArr (List.replicate 32 (0 : UInt8)) := ⟨_, rfl⟩
  have HZ := Lib.hid (show (Tryd.prog.info? 54).map (·.zero) = some (some (.agg zs)) by rw [hzs]; exact zero_hash)
  have HZL := Lib.hid (show zs.size = 32 by rw [hzs]; simp [bytesArr])
  clear h ht hc hic hlay hid' hia hh hzs
  unfold txV at HC HI ⊢
  go_enter Tryd.func25, Tryd.ntmps25
  go_wp2_with fail
  refine (HC.out _ (HT.out.below ((Joins.below_alloc1 w _).mono hB)) (by simp; omega)).mono ?_
  rintro e w3 ⟨rfl, hb3⟩
  have HB3 := Lib.hid ((Joins.below_alloc1 w (.cells #[.int .u32 (t.version : Int), .slice A t.ins.length c, .slice A' t.outs.length c'] 35)).trans (hb3.mono (by simp)))
  have HK3 := Lib.hid (Bk.below (Bk.new w 35 #[.int .u32 (t.version : Int), .slice A t.ins.length c, .slice A' t.outs.length c']) hb3 (by simp))
  have k0 : w3.cell? ⟨w.heap.size, 0, none⟩ = some (.int .u32 (t.version : Int)) := (HK3.out.cell 0).trans rfl
  have k1 : w3.cell? ⟨w.heap.size, 1, none⟩ = some (.slice A t.ins.length c) := (HK3.out.cell 1).trans rfl
  have k2 : w3.cell? ⟨w.heap.size, 2, none⟩ = some (.slice A' t.outs.length c') := (HK3.out.cell 2).trans rfl
  have hz3 : w.heap.size + 1 ≤ w3.heap.size := by have := hb3.size; simpa using this
  clear hb3
  go_wp2_with fail
  refine (HI.out _ (HLY.out.below HB3.out) (HT.out.below (HB3.out.mono hB)) (by omega)).mono ?_
  rintro e w4 ⟨rfl, hb4⟩
  have HB4 := Lib.hid (HB3.out.trans (hb4.mono (by omega)))
  have HK4 := Lib.hid (HK3.out.below hb4 (by omega))
  have hz4 : w.heap.size + 1 ≤ w4.heap.size := by have := hb4.size; omega
  clear hb4 k0 k1 k2 HK3 HC HI
  go_upto_region 7 with (first
    | (refine wpList_allocOf rfl 54 rfl zs HZ.out ?_)
    | (refine wpList_store_row rfl 54 (.tmp 11) (.tmp 24) rfl w4.heap.size ia (by rfl) (by rfl) 54 zs ?hg (by rw [HIS.out]; exact size_hash) (by rw [HIS.out]; exact HZL.out) HI1.out ?_))
  case hg => exact Bk.new _ _ _
  obtain ⟨w5, hw5⟩ : ∃ w5, w5 = (w4.alloc (.cells zs 54)).setRow w4.heap.size ia := ⟨_, rfl⟩
  have HH5 := Lib.hid (show Bk w5 w4.heap.size 54 ia by rw [hw5]; exact setRow_heap _ _ _ _ _ _ (Bk.new w4 _ zs))
  have hb45 : Below w4.heap.size w4 w5 := by rw [hw5]; exact below_setRow ((Below.refl _ _).alloc (Nat.le_refl _) _) (Nat.le_refl _) _
  have hz5 : w5.heap.size = w4.heap.size + 1 := by rw [hw5]; simp [World.setRow]
  have HB5 := Lib.hid (HB4.out.trans (hb45.mono (by omega)))
  have HK5 := Lib.hid (HK4.out.below hb45 (by omega))
  obtain ⟨H, hH⟩ : ∃ H, H = w4.heap.size := ⟨_, rfl⟩
  rw [← hw5]
  rw [← hH] at HH5 hz5 hz4 ⊢
  clear hw5 hb45 HK4 hH
  go_wp2_with (refine wpList_load_row rfl 54 (.tmp 11) rfl H (by rfl) 54 ia (0, 0) _ HH5.out Tryd.underlying54 rfl (by rw [HIS.out]; exact size_hash) ?_)
  have HP5 := Lib.hid (HP.out.kp' (S := fun _ => False) HB5.out (T' := T) (fun _ _ h => h) HP.out.tO HP.out.tv)
  refine (HHAS.out _ HP5.out).mono ?_
  rintro e w6 ⟨rfl, hb6⟩
  have HB6 := Lib.hid (HB5.out.trans (hb6.mono (by omega)))
  have hz6 : w5.heap.size ≤ w6.heap.size := hb6.size
  have HK6 := Lib.hid (HK5.out.below hb6 (by omega))
  have HH6 := Lib.hid (HH5.out.below hb6 (by omega))
  have HP6 := Lib.hid (HP.out.kp' (S := fun _ => False) HB6.out (T' := T) (fun _ _ h => h) HP.out.tO HP.out.tv)
  clear hb6 HK5 HH5 HP5 HB5 HB4 HB3 HHAS
  go_upto_region 9 with (fail)
  obtain ⟨ps, hps, hpp⟩ := HP6.out.pairs
  have HPS := Lib.hid hps
  have HPP := Lib.hid hpp
  obtain ⟨m, hm⟩ : ∃ m, m = ps.length := ⟨_, rfl⟩
  have hme : m = es.length := by rw [hm, ← hps]; simp
  obtain ⟨AV, cV, hv, hvc, hvm, _⟩ := hpp.row.range hpp.all
  rw [← hm] at hv
  subst hv
  have HM := Lib.hid hm
  have HME := Lib.hid hme
  have hm8 : m ≤ 8 := by omega
  clear hps hpp hm hme
  have HX : Hid (w6.rangeAt w.heap.size 0 [.int .u32 (t.version : Int), .slice A t.ins.length c, .slice A' t.outs.length c']) := Lib.hid (bk_range HK6.out)
  have HXH : Hid (w6.rangeAt H 0 (id.map byteV)) := Lib.hid (bk_range (by have := HH6.out; rw [HIA.out] at this; exact this))
  have cO : w6.cell? ⟨O, 0, none⟩ = some (.slice AV m cV) := (HPP.out.bk.cell 0).trans rfl
  have HW6 := Lib.hid HIA.out
  rw [HIA.out]
  have HOWN := Lib.hid (own_any t A A' c c' B)
  unfold txV at HOWN
  have HL32 := Lib.hid (show (id.map byteV).length = 32 by rw [List.length_map]; exact HIL.out)
  obtain ⟨ix, hix⟩ : ∃ ix, ix = id.map byteV := ⟨_, rfl⟩
  have HIX := Lib.hid hix
  rw [← hix] at HXH HL32
  clear hix
  have HR6 := Lib.hid (show w6.ownsRow base 96 37 (.slice AV m cV) m (ps.flatMap entPair) by have := HPP.out.row; unfold RowP at this; rwa [← HM.out] at this)
  have HNO := Lib.hid HPP.out.ne
  have hrlw := HP.out.row.lt
  have HNX := Lib.hid (show (Value.slice AV m cV).ownBlock ≠ some w.heap.size from fun e => by have := (hrlw _ e).2; omega)
  have HNH := Lib.hid (show (Value.slice AV m cV).ownBlock ≠ some H from fun e => by have := (hrlw _ e).2; omega)
  have HRLW := Lib.hid hrlw
  have HOW := Lib.hid HP.out.bk.lt
  have HTOK := Lib.hid HT.out.ok
  clear hrlw
  obtain ⟨fin, hfin⟩ : ∃ fin, fin = min (now + 300) 18446744073709551615 := ⟨_, rfl⟩
  have HFIN := Lib.hid hfin
  have HLT := Lib.hid (show ∀ q W, W.cell? ⟨q, 0, none⟩ = some (.int .u64 300) → Calls Tryd.prog 44 #[.int .u64 (now : Int), .slice (some ⟨q, 0, none⟩) 1 1] W fun r w' => r = .returned (.int .u64 (fin : Int)) ∧ W = w' from fun q W hc => by
    have := later1 (now : Int) 300 q W (by omega) (by omega) (by omega) (by omega) hc
    rwa [later_nat now, ← hfin] at this)
  clear hfin
  obtain ⟨ie, hi, hz0, hz1, hz2⟩ := info_parts ent_info
  have Ii := Lib.hid hi
  have Iz := Lib.hid hz0
  have Iz1 := Lib.hid hz1
  have Iz2 := Lib.hid hz2
  clear hi hz0 hz1 hz2
  have hZL := zeroEnt_len
  have hZE := zero_ent
  generalize (entCells ⟨0, Txs.none, List.replicate 32 0, 0⟩ (.slice none 0 0) (.slice none 0 0)).toArray = ze at hZL Iz hZE
  have HZEL := Lib.hid hZL
  have HIZ := Lib.hid hZE
  clear hZL hZE
  obtain ⟨n9, hn9⟩ : ∃ n9, n9 = m + 1 := ⟨_, rfl⟩
  go_cut [] (fun wx => ∃ (A9 : Option Addr) (c9 : Nat) (qs : List EP), Hid (PoolP (Tn T w (.slice A9 n9 c9)) wx O base (.slice A9 n9 c9) qs ∧ ((Value.slice A9 n9 c9).ownBlock = (Value.slice AV m cV).ownBlock ∨ ∃ g, (Value.slice A9 n9 c9).ownBlock = some g ∧ w.heap.size ≤ g) ∧ Kp (fun i => i = O ∨ (Value.slice AV m cV).ownBlock = some i) w wx) ∧ Hid (qs.map (·.1) = es ++ [entOf src t now]) ∧ qs.length = n9)
  case first =>
    refine wp_region_L [(4, O, 0, [.slice AV m cV]), (6, w.heap.size, 0, [.int .u32 (t.version : Int), .slice A t.ins.length c, .slice A' t.outs.length c']), (9, H, 0, ix)] (by kernel_rfl) ?_
    refine wpAnyL_pure (i := 0) (v := ?_) rfl (by kernel_rfl) (by kernel_rfl) (by kernel_rfl) (fun _ _ _ h => h) (Or.inl ⟨by rfl, ?_⟩) ?_
    rotate_left
    (intro w' _; go_simp <;> with_reducible rfl)
    simp only [Act.put, List.setIfInBounds_toArray, List.set_cons_zero, List.set_cons_succ, List.getElem_toArray, List.getElem_cons_zero, List.getElem_cons_succ]
    refine wpAnyL_pure (i := 1) (v := ?_) rfl (by kernel_rfl) (by kernel_rfl) (by kernel_rfl) (fun _ _ _ h => h) (Or.inl ⟨by rfl, ?_⟩) ?_
    rotate_left
    (intro w' _; go_simp <;> with_reducible rfl)
    simp only [Act.put, List.setIfInBounds_toArray, List.set_cons_zero, List.set_cons_succ, List.getElem_toArray, List.getElem_cons_zero, List.getElem_cons_succ]
    refine wpAnyL_pure (i := 2) (v := ?_) rfl (by kernel_rfl) (by kernel_rfl) (by kernel_rfl) (fun _ _ _ h => h) (Or.inl ⟨by rfl, ?_⟩) ?_
    rotate_left
    (intro w' _; go_simp <;> with_reducible rfl)
    simp only [Act.put, List.setIfInBounds_toArray, List.set_cons_zero, List.set_cons_succ, List.getElem_toArray, List.getElem_cons_zero, List.getElem_cons_succ]
    refine wpAnyL_pure (i := 3) (v := ?_) rfl (by kernel_rfl) (by kernel_rfl) (by kernel_rfl) (fun _ _ _ h => h) (Or.inl ⟨by rfl, ?_⟩) ?_
    rotate_left
    (intro w' _; go_simp <;> with_reducible rfl)
    simp only [Act.put, List.setIfInBounds_toArray, List.set_cons_zero, List.set_cons_succ, List.getElem_toArray, List.getElem_cons_zero, List.getElem_cons_succ]
    refine wpAnyL_read (i := 4) (v := .slice AV m cV) O 0 [.slice AV m cV] (.head _) (range_one cO) rfl (by kernel_rfl) (by kernel_rfl) (by kernel_rfl) (fun _ _ _ h => h) (Or.inl ⟨by rfl, fun w' hSw => ?_⟩) ?_
    (have hq := cell_one hSw; go_simp)
    simp only [Act.put, List.setIfInBounds_toArray, List.set_cons_zero, List.set_cons_succ, List.getElem_toArray, List.getElem_cons_zero, List.getElem_cons_succ]
    refine wpAnyL_pure (i := 5) (v := ?_) rfl (by kernel_rfl) (by kernel_rfl) (by kernel_rfl) (fun _ _ _ h => h) (Or.inl ⟨by rfl, ?_⟩) ?_
    rotate_left
    (intro w' _; go_simp <;> with_reducible rfl)
    simp only [Act.put, List.setIfInBounds_toArray, List.set_cons_zero, List.set_cons_succ, List.getElem_toArray, List.getElem_cons_zero, List.getElem_cons_succ]
    refine wpAnyL_load (i := 6) w.heap.size 0 [.int .u32 (t.version : Int), .slice A t.ins.length c, .slice A' t.outs.length c'] (.tail _ (.head _)) HX.out rfl (by kernel_rfl) (by kernel_rfl) (by kernel_rfl) (fun _ _ _ h => h) (by rfl) 35 (.tmp 6) rfl (by rfl) _ Tryd.underlying35 rfl size_tx ?_
    simp only [Act.put, List.setIfInBounds_toArray, List.set_cons_zero, List.set_cons_succ, List.getElem_toArray, List.getElem_cons_zero, List.getElem_cons_succ]
    refine wpAnyL_load (i := 9) H 0 ix (.tail _ (.tail _ (.head _))) HXH.out rfl (by kernel_rfl) (by kernel_rfl) (by kernel_rfl) (fun _ _ _ h => h) (by rfl) 54 (.tmp 11) rfl (by rfl) _ Tryd.underlying54 rfl (by rw [HL32.out]; exact size_hash0) ?_
    simp only [Act.put, List.setIfInBounds_toArray, List.set_cons_zero, List.set_cons_succ, List.getElem_toArray, List.getElem_cons_zero, List.getElem_cons_succ]
    refine wpAnyL_pure (i := 10) (v := ?_) rfl (by kernel_rfl) (by kernel_rfl) (by kernel_rfl) (fun _ _ _ h => h) (Or.inl ⟨by rfl, ?_⟩) ?_
    rotate_left
    (intro w' _; go_simp <;> with_reducible rfl)
    simp only [Act.put, List.setIfInBounds_toArray, List.set_cons_zero, List.set_cons_succ, List.getElem_toArray, List.getElem_cons_zero, List.getElem_cons_succ]
    refine wpAnyL_ready (rs := [7, 11]) (by kernel_rfl) (by simp) ?_
    refine (AllReadyL.cons rfl (fun K hK => ?_) (AllReadyL.cons rfl (fun K hK => ?_) AllReadyL.nil))
    rotate_left
    go_simp
    refine hK.out _ _ (Keeps.below (Joins.below_alloc1 _ _)) ?_
    clear hK K
    try simp only [Act.put, List.setIfInBounds_toArray, List.set_cons_zero, List.set_cons_succ, List.getElem_toArray, List.getElem_cons_zero, List.getElem_cons_succ]
    refine wpAnyL_ready (rs := [7]) (by kernel_rfl) (by simp) ?_
    refine (AllReadyL.cons rfl (fun K hK => ?_) AllReadyL.nil)
    go_simp
    refine (HOWN.out _ (HT.out.below ((HB6.out.drew.alloc HB6.out.size _).mono hB)) (by simp; omega) HFO.out).mono ?_
    rintro e w8 ⟨A1, c1, A2, c2, rfl, hnew, hb7⟩
    go_wp2_with fail
    refine hK.out _ _ (Keeps.below hb7) ?_
    clear hK K
    try simp only [Act.put, List.setIfInBounds_toArray, List.set_cons_zero, List.set_cons_succ, List.getElem_toArray, List.getElem_cons_zero, List.getElem_cons_succ]
    refine wpAnyL_pure (i := 8) (v := .agg #[.int .i64 src, .int .u32 (t.version : Int), .slice A1 t.ins.length c1, .slice A2 t.outs.length c2]) rfl (by kernel_rfl) (by kernel_rfl) (by kernel_rfl) (fun _ _ _ h => h) (yieldsIf_build (by rfl) 52 _ rfl _ (by simpa [Act.eval] using built_wait src t.version A1 A2 t.ins.length c1 t.outs.length c2)) ?_
    simp only [Act.put, List.setIfInBounds_toArray, List.set_cons_zero, List.set_cons_succ, List.getElem_toArray, List.getElem_cons_zero, List.getElem_cons_succ]
    obtain ⟨q, hq⟩ : ∃ q, q = w6.heap.size := ⟨_, rfl⟩
    have HQ := Lib.hid (show Bk w8 q 37 #[.int .u64 300] by
      rw [hq]
      exact (Bk.new w6.drew 37 #[.int .u64 300]).below hb7 (by simp))
    have HN8 := Lib.hid (show TxNew w6.heap.size w8 t A1 c1 A2 c2 from hnew.mono (by simp))
    have HB8 := Lib.hid (show Below w6.heap.size w6 w8 from (((Below.refl _ w6).drew).alloc (Nat.le_refl _) _).trans (hb7.mono (by simp)))
    rw [← hq]
    clear hq hnew hb7
    rotate_left
    go_simp
    refine (HOWN.out _ (HT.out.below (HB6.out.drew.mono hB)) (by simp; omega) HFO.out).mono ?_
    rintro e w7 ⟨A1, c1, A2, c2, rfl, hnew, hb7⟩
    go_wp2_with fail
    refine hK.out _ _ (Keeps.below hb7) ?_
    clear hK K
    try simp only [Act.put, List.setIfInBounds_toArray, List.set_cons_zero, List.set_cons_succ, List.getElem_toArray, List.getElem_cons_zero, List.getElem_cons_succ]
    refine wpAnyL_pure (i := 8) (v := .agg #[.int .i64 src, .int .u32 (t.version : Int), .slice A1 t.ins.length c1, .slice A2 t.outs.length c2]) rfl (by kernel_rfl) (by kernel_rfl) (by kernel_rfl) (fun _ _ _ h => h) (yieldsIf_build (by rfl) 52 _ rfl _ (by simpa [Act.eval] using built_wait src t.version A1 A2 t.ins.length c1 t.outs.length c2)) ?_
    simp only [Act.put, List.setIfInBounds_toArray, List.set_cons_zero, List.set_cons_succ, List.getElem_toArray, List.getElem_cons_zero, List.getElem_cons_succ]
    refine wpAnyL_ready (rs := [11]) (by kernel_rfl) (by simp) ?_
    refine (AllReadyL.cons rfl (fun K hK => ?_) AllReadyL.nil)
    go_simp
    refine hK.out _ _ (Keeps.below (Joins.below_alloc1 _ _)) ?_
    clear hK K
    try simp only [Act.put, List.setIfInBounds_toArray, List.set_cons_zero, List.set_cons_succ, List.getElem_toArray, List.getElem_cons_zero, List.getElem_cons_succ]
    obtain ⟨w8, hw8⟩ : ∃ w8, w8 = w7.alloc (.cells #[.int .u64 300] 37) := ⟨_, rfl⟩
    obtain ⟨q, hq⟩ : ∃ q, q = w7.heap.size := ⟨_, rfl⟩
    have HQ := Lib.hid (show Bk w8 q 37 #[.int .u64 300] by rw [hw8, hq]; exact Bk.new _ _ _)
    have HN8 := Lib.hid (show TxNew w6.heap.size w8 t A1 c1 A2 c2 by rw [hw8]; exact hnew.kp (S := fun _ => False) ((Kp.refl _ _).alloc _) (fun _ _ h => h.elim))
    have hb67 : Below w6.heap.size w6 w7 := ((Below.refl _ w6).drew).trans hb7
    have HB8 := Lib.hid (show Below w6.heap.size w6 w8 by rw [hw8]; exact hb67.alloc hb67.size _)
    rw [← hw8, ← hq]
    clear hw8 hq hnew hb7 hb67
    all_goals
      refine wpAnyL_ready (rs := [12]) (by kernel_rfl) (by simp) ?_
      refine (AllReadyL.cons rfl (fun K hK => ?_) AllReadyL.nil)
      go_simp
      refine (HLT.out q w8 ((HQ.out.cell 0).trans rfl)).mono ?_
      rintro e w9 ⟨rfl, rfl⟩
      go_wp2_with fail
      refine hK.out _ _ (Keeps.refl _ _) ?_
      clear hK K
      try simp only [Act.put, List.setIfInBounds_toArray, List.set_cons_zero, List.set_cons_succ, List.getElem_toArray, List.getElem_cons_zero, List.getElem_cons_succ]
      obtain ⟨cx, hcx⟩ : ∃ cx, cx = entCells ⟨src, t, id, fin⟩ (.slice A1 t.ins.length c1) (.slice A2 t.outs.length c2) := ⟨_, rfl⟩
      have HCX := Lib.hid hcx
      have HB13 := Lib.hid (show Tryd.prog.built 96 [(0, .agg #[.int .i64 src, .int .u32 (t.version : Int), .slice A1 t.ins.length c1, .slice A2 t.outs.length c2]), (1, .agg ix.toArray), (2, .int .u64 (fin : Int))] = some cx.toArray by
        rw [hcx, HIX.out]
        exact built_ent ⟨src, t, id, fin⟩ A1 A2 t.ins.length c1 t.outs.length c2 HIL.out)
      have HCL := Lib.hid (show cx.length = 37 by rw [hcx]; exact entCells_len HIL.out _ _)
      have HC1 := Lib.hid (show ∀ u ∈ cx, u.oneCell' = true by rw [hcx]; exact entCells_one _ _ _ _ _ _ _)
      clear hcx
      refine wpAnyL_pure (i := 13) (v := .agg cx.toArray) rfl (by kernel_rfl) (by kernel_rfl) (by kernel_rfl) (fun _ _ _ h => h) (yieldsIf_build (by rfl) 96 _ rfl _ (by simpa [Act.eval] using HB13.out)) ?_
      simp only [Act.put, List.setIfInBounds_toArray, List.set_cons_zero, List.set_cons_succ, List.getElem_toArray, List.getElem_cons_zero, List.getElem_cons_succ]
      refine wpAnyL_ready (rs := [14]) (by kernel_rfl) (by simp) ?_
      refine (AllReadyL.cons rfl (fun K hK => ?_) AllReadyL.nil)
      refine step_buildOne (by rfl) 80 96 (.tmp 42) rfl cx.toArray (by rfl) Tryd.underlying80 (by simp only [List.size_toArray, HCL.out]; exact size_ent) ze HIZ.out (by simp only [List.size_toArray, HCL.out]; omega) (by simp only [List.size_toArray, HCL.out]; omega) ?_
      refine hK.out _ _ (Keeps.below (Joins.below_alloc1 _ _)) ?_
      clear hK K
      try simp only [Act.put, List.setIfInBounds_toArray, List.set_cons_zero, List.set_cons_succ, List.getElem_toArray, List.getElem_cons_zero, List.getElem_cons_succ]
      refine wpAnyL_ready (rs := [15]) (by kernel_rfl) (by simp) ?_
      refine (AllReadyL.cons rfl (fun K hK => ?_) AllReadyL.nil)
      have hb8z := HB8.out.size
      refine step_app _ rfl (.tmp 33) (.tmp 43) _ rfl base 96 ie _ 37 104 Tryd.underlying80 Ii.out Iz.out Iz1.out Iz2.out HZEL.out (by decide) (.slice AV m cV) m _ rfl (own_below (own_below HR6.out HB8.out) (Joins.below_alloc1 _ _)) (some ⟨w8.heap.size, 0, none⟩) 1 1 cx rfl (by rw [HCL.out]) (Src.new _ _ _) HC1.out (by unfold maxLen; omega) (by omega) (by simp; omega) ?_
      intro v9 w9 hrow9 hg9 hat9
      refine hK.out _ _ (Keeps.kp (Kp.mono (T := fun i => (Value.slice AV m cV).ownBlock = some i) (Kp.refl _ _ |>.grown hg9 (fun k hk _ => hk)) (fun _ _ h => h)) (by
        intro p hp _
        simp only [List.mem_cons, List.not_mem_nil, or_false] at hp
        rcases hp with rfl | rfl | rfl
        · exact HNO.out
        · exact HNX.out
        · exact HNH.out)) ?_
      clear hK K
      try simp only [Act.put, List.setIfInBounds_toArray, List.set_cons_zero, List.set_cons_succ, List.getElem_toArray, List.getElem_cons_zero, List.getElem_cons_succ]
      have HG9 := Lib.hid ((Grw.of_below (Joins.below_alloc1 w8 (.cells cx.toArray 96)) _).trans (Grw.of_app hg9 hat9))
      have HO8 : Bk w8 O 82 #[.slice AV m cV] := HPP.out.bk.below HB8.out HPP.out.bk.lt
      have HO9 := Lib.hid ((HG9.out.bk HO8 HNO.out).1)
      have c9 : w9.cell? ⟨O, 0, none⟩ = some (.slice AV m cV) := (HO9.out.cell 0).trans rfl
      have f9 := HO9.out.frozen 0
      have hrow9' := hrow9
      obtain ⟨A9, c9', rfl, hm9, hm9', _⟩ := own_form hrow9'
      refine wpAnyL_pure (i := 16) (v := ?_) rfl (by kernel_rfl) (by kernel_rfl) (by kernel_rfl) (fun _ _ _ h => h) (Or.inl ⟨by rfl, ?_⟩) ?_
      rotate_left
      · (intro w' _; go_simp <;> with_reducible rfl)
      simp only [Act.put, List.setIfInBounds_toArray, List.set_cons_zero, List.set_cons_succ, List.getElem_toArray, List.getElem_cons_zero, List.getElem_cons_succ]
      refine wpAnyL_pure (i := 17) (v := ?_) rfl (by kernel_rfl) (by kernel_rfl) (by kernel_rfl) (fun _ _ _ h => h) (Or.inl ⟨by rfl, ?_⟩) ?_
      rotate_left
      · (intro w' _; go_simp <;> with_reducible rfl)
      simp only [Act.put, List.setIfInBounds_toArray, List.set_cons_zero, List.set_cons_succ, List.getElem_toArray, List.getElem_cons_zero, List.getElem_cons_succ]
      refine wpAnyL_ready (rs := [18]) (by kernel_rfl) (by simp) ?_
      refine (AllReadyL.cons rfl (fun K hK => ?_) AllReadyL.nil)
      go_simp
      refine hK.out _ _ (Keeps.last (by kernel_rfl) _ _) ?_
      clear hK K
      try simp only [Act.put, List.setIfInBounds_toArray, List.set_cons_zero, List.set_cons_succ, List.getElem_toArray, List.getElem_cons_zero, List.getElem_cons_succ]
      refine wpAnyL_done (by kernel_rfl) ?_ _
      have HROW := Lib.hid hrow9
      have HG := Lib.hid hg9
      have HAT := Lib.hid hat9
      clear hrow9 hrow9' hg9 hat9
      obtain ⟨w10, hw10⟩ : ∃ w10, w10 = w9.setCell ⟨O, 0, none⟩ (.slice A9 (m + 1) c9') := ⟨_, rfl⟩
      have hO10 : Bk w10 O 82 #[.slice A9 (m + 1) c9'] := by rw [hw10]; exact HO9.out.set 0 _
      have HO10 := Lib.hid hO10
      have c10 : w10.cell? ⟨O, 0, none⟩ = some (.slice A9 (m + 1) c9') := (hO10.cell 0).trans rfl
      have HK10 := Lib.hid (show Kp (fun i => i = O) w9 w10 by rw [hw10]; exact kp_cell1 _ _ _ _)
      rw [← hw10]
      clear hw10 hO10 c9 f9 HO9
      have HADD := Lib.hid (add_pool (e := ⟨src, t, id, fin⟩) HB6.out HPP.out HOW.out (fun i hi => (HRLW.out i hi).2) HB8.out HN8.out HROW.out HG.out HAT.out HK10.out HO10.out HM.out (by rw [HII.out, HFIN.out]; exact entOf_ok (src := src) (now := now) HTOK.out) rfl HCX.out)
      have HPE := Lib.hid (show (ps ++ [((⟨src, t, id, fin⟩ : Ent), (Value.slice A1 t.ins.length c1), (Value.slice A2 t.outs.length c2))]).map (·.1) = es ++ [entOf src t now] by
        rw [List.map_append, HPS.out, HII.out, HFIN.out]; rfl)
      go_wp2_with fail
      go_meet
      subst hn9
      exact ⟨A9, c9', _, HADD, HPE, by rw [List.length_append, HM.out]; rfl⟩
  case rest =>
    obtain ⟨A9, c9', qs, HADD, HPE, hql⟩ := hcut
    have HQL := Lib.hid hql
    have HO10 := Lib.hid HADD.out.1.bk
    have c10 : wc.cell? ⟨O, 0, none⟩ = some (.slice A9 n9 c9') := (HO10.out.cell 0).trans rfl
    clear hql HH6 HX HXH cO HOWN
    by_cases h8' : m < 8
    · have HE1 := Lib.hid (show af = es ++ [entOf src t now] by rw [HAF.out, if_pos (by rw [← HME.out]; exact h8')])
      have HE2 := Lib.hid (show gn = [] by rw [HGN.out, if_pos (by rw [← HME.out]; exact h8')])
      have i8 : (n9 : Int) ≤ 8 := by omega
      clear hn9
      go_wp2_with fail
      go_ret2
      have := HADD.out
      rw [HE1.out, HE2.out]
      exact ⟨none, 0, _, rfl, Nat.le_refl _, by unfold maxLen; omega, (fun i hi => by simp at hi), HPE.out ▸ this.1.at_, this.2.1, this.2.2⟩
    · have HE1 := Lib.hid (show af = (es ++ [entOf src t now]).drop 1 by rw [HAF.out, if_neg (by rw [← HME.out]; exact h8')])
      have HE2 := Lib.hid (show gn = (es.take 1).map Ent.id by rw [HGN.out, if_neg (by rw [← HME.out]; exact h8')])
      obtain rfl : n9 = 9 := by omega
      clear hn9
      obtain ⟨hpool, howns, hkw⟩ := HADD.out
      obtain ⟨Ag, cg, hvg, hcg1, hcg2, hrg⟩ := hpool.row.range hpool.all
      obtain ⟨g, hgA, hgb, hgl, hr0⟩ := hrg 0 (by rw [HQL.out]; omega)
      rw [HQL.out] at hvg hcg1
      injection hvg with hvg1 _ hvg2
      subst hvg2
      rw [hgA] at hvg1
      subst hvg1
      have HE0 := Lib.hid (show wc.rangeAt g 4 _ from by have := ent_id hr0; rwa [show 0 * 37 + 4 = 4 from rfl] at this)
      have hok0 : (qs[0]'(by rw [HQL.out]; omega)).1.id.length = 32 := (hpool.all _ (List.getElem_mem _)).1.1
      have HE3 := Lib.hid (show gn = [(qs[0]'(by rw [HQL.out]; omega)).1.id] by
        rw [HE2.out, first_id HPE.out (by rw [← HME.out]; omega) (by rw [HQL.out]; omega)])
      have L0 := Lib.hid (show ((qs[0]'(by rw [HQL.out]; omega)).1.id.map byteV).length = 32 by rw [List.length_map]; exact hok0)
      have HPO0 := Lib.hid (all_one (oneCell_bytes (qs[0]'(by rw [HQL.out]; omega)).1.id))
      have HOK0 := Lib.hid hok0
      have HPOOL := Lib.hid hpool
      have HOWNS := Lib.hid howns
      have HKW := Lib.hid hkw
      generalize (qs[0]'(by rw [HQL.out]; omega)).1.id = id0 at HE0 hok0 HE3 L0 HPO0 HOK0
      obtain ⟨i0, hi0⟩ : ∃ i0, i0 = (id0.map byteV) := ⟨_, rfl⟩
      have HI0 := Lib.hid hi0
      unfold entPair at hr0
      rw [← hi0] at HE0 L0 HPO0
      clear hi0 hr0 hpool howns hkw hrg hok0
      have HDEL := Lib.hid (del_any (Tn T w (.slice (some ⟨g, 0, none⟩) 9 c9')) qs g c9' base)
      rw [HQL.out] at HDEL
      have HTH0 := Lib.hid (show (wc.alloc (.cells zs 54)).there wc.heap.size 0 i0.toArray.size from by
        have hzz : zs = zs.toList.toArray := by simp
        have hb := Bk.new wc 54 zs
        rw [hzz] at hb
        have := bk_there hb 0 i0.toArray.size (by rw [List.size_toArray, L0.out, Array.length_toList, HZL.out]; omega)
        rw [← hzz] at this
        exact this)
      go_upto_region 13 with (first
        | (refine wpList_load_mid rfl 54 (.tmp 58) rfl g 4 (by rfl) i0 _ HE0.out Tryd.underlying54 rfl (by rw [L0.out]; exact size_hash0) ?_)
        | (refine wpList_allocOf rfl 54 rfl zs HZ.out ?_)
        | (refine wpList_store_mid rfl 54 (.tmp 13) (.tmp 59) rfl wc.heap.size 0 i0.toArray (by rfl) (by rfl) HTH0.out (by rw [List.size_toArray, L0.out]; exact size_hash0) HPO0.out ?_))
      obtain ⟨w11, hw11⟩ : ∃ w11, w11 = (wc.alloc (.cells zs 54)).setCells wc.heap.size 0 i0.toArray.toList := ⟨_, rfl⟩
      have hB11 : Below wc.heap.size wc w11 := by rw [hw11]; exact below_setCells (Nat.le_refl _) _ _ _ ((Below.refl _ _).alloc (Nat.le_refl _) _)
      have hX11 : Bk w11 wc.heap.size 54 i0.toArray := by
        have hzz : zs = zs.toList.toArray := by simp
        have hb := Bk.new wc 54 zs
        rw [hzz] at hb
        have := bk_setCells i0 0 _ _ hb (by rw [L0.out, Array.length_toList, HZL.out]; omega)
        rw [← hzz, List.take_zero, List.nil_append, List.drop_of_length_le (by rw [L0.out, Array.length_toList, HZL.out]; omega), List.append_nil] at this
        rw [hw11, List.toList_toArray]
        exact this
      have hzc : O < wc.heap.size := HO10.out.lt
      have hz11 : wc.heap.size < w11.heap.size := hX11.lt
      have HX11 := Lib.hid hX11
      have HO11 := Lib.hid (HO10.out.below hB11 hzc)
      have HB11 := Lib.hid hB11
      have HROW11 := Lib.hid (HPOOL.out.row.kp (Kp.of_below (S := fun _ => False) hB11) (fun _ _ h => h))
      have HALL11 := Lib.hid (fun p hp => (HPOOL.out.all p hp).step (T' := Tn T w (.slice (some ⟨g, 0, none⟩) 9 c9')) (S := fun _ => False) (Kp.of_below hB11) (fun _ _ h => h.elim) (fun _ _ h => h))
      have c11 : w11.cell? ⟨O, 0, none⟩ = some (.slice (some ⟨g, 0, none⟩) 9 c9') := (HO11.out.cell 0).trans rfl
      have hgO : g ≠ O := fun e => HPOOL.out.ne (by rw [e]; rfl)
      rw [← hw11]
      clear hw11 hB11 hX11 c10
      go_wp2_with fail
      refine (HDEL.out w11 HROW11.out HALL11.out (by omega) (by omega)).mono ?_
      rintro e w12 ⟨rfl, hrow12, hk12⟩
      have HO12 := Lib.hid (HO11.out.kp hk12 (fun e => hgO e.symm))
      have HX12 := Lib.hid (HX11.out.kp hk12 (fun e => by omega))
      have HROW12 := Lib.hid hrow12
      have HK12 := Lib.hid hk12
      have c12 : w12.cell? ⟨O, 0, none⟩ = some (.slice (some ⟨g, 0, none⟩) 9 c9') := (HO12.out.cell 0).trans rfl
      have f12 := HO12.out.frozen 0
      have hz12 := hk12.size
      clear c11 hrow12 hk12
      go_upto_region 14 with (fail)
      obtain ⟨w13, hw13⟩ : ∃ w13, w13 = w12.setCell ⟨O, 0, none⟩ (.slice (some ⟨g, 0, none⟩) 8 c9') := ⟨_, rfl⟩
      have HO13 := Lib.hid (show Bk w13 O 82 #[.slice (some ⟨g, 0, none⟩) 8 c9'] by rw [hw13]; exact HO12.out.set 0 _)
      have HK13 := Lib.hid (show Kp (fun i => i = O) w12 w13 by rw [hw13]; exact kp_cell1 _ _ _ _)
      have HX13 := Lib.hid (HX12.out.kp HK13.out (by omega))
      have hz13 := HK13.out.size
      rw [← hw13]
      clear hw13 c12 f12 HO12 HX12
      go_wp2_with (first
        | (refine wpList_load_row rfl 54 (.tmp 13) rfl wc.heap.size (by rfl) 54 i0.toArray (0, 0) _ HX13.out Tryd.underlying54 rfl (by rw [List.size_toArray, L0.out]; exact size_hash0) ?_)
        | (refine wpList_buildOne rfl 36 54 (.tmp 68) rfl i0.toArray (by rfl) Tryd.underlying36 (by rw [List.size_toArray, L0.out]; exact size_hash0) zs HZ.out (by rw [List.size_toArray, L0.out]; omega) (by rw [List.size_toArray, L0.out]; omega) ?_))
      go_ret2
      rw [HE1.out, HE3.out]
      have k14 : Kp (fun i => i = O ∨ i = g) wc (w13.alloc (.cells i0.toArray 54)) :=
        (((Kp.of_below HB11.out).trans (HK12.out.mono fun _ _ h => .inr h)).trans (HK13.out.mono fun _ _ h => .inl h)).alloc _
      have hown8 : (Value.slice (some ⟨g, 0, none⟩) 8 c9').ownBlock = some g := rfl
      have hown9 : (Value.slice (some ⟨g, 0, none⟩) 9 c9').ownBlock = some g := rfl
      have hTn : ∀ i, Tn T w (.slice (some ⟨g, 0, none⟩) 8 c9') i → Tn T w (.slice (some ⟨g, 0, none⟩) 9 c9') i := fun i h => h
      refine ⟨some ⟨w13.heap.size, 0, none⟩, 1, .slice (some ⟨g, 0, none⟩) 8 c9', rfl, Nat.le_refl _, by unfold maxLen; omega, ?_, ?_, HOWNS.out, ?_⟩
      · exact At.of_bk (fun l : List UInt8 => l.map byteV) (fun x hx => by
          rw [List.mem_singleton.1 hx]
          exact ⟨by rw [List.length_map]; exact HOK0.out, HOK0.out, rfl⟩) (by
          rw [show [id0].flatMap (fun l : List UInt8 => l.map byteV) = i0 by rw [HI0.out]; simp]
          exact Bk.new _ _ _)
      · have hp : PoolP (Tn T w (.slice (some ⟨g, 0, none⟩) 8 c9')) (w13.alloc (.cells i0.toArray 54)) O base (.slice (some ⟨g, 0, none⟩) 8 c9') (qs.drop 1) :=
          ⟨HO13.out.alloc _, (HROW12.out.kp HK13.out (fun i hi e => hgO (by rw [hown8] at hi; injection hi with hi; rw [hi, e]))).kp ((Kp.refl (fun _ => False) _).alloc _) (fun _ _ h => h),
            fun p hp => (HPOOL.out.all p (List.mem_of_mem_drop hp)).step k14 (fun i _ h => h.elim (fun e => e ▸ HPOOL.out.tO) (fun e => HPOOL.out.tv i (by rw [hown9, e]))) (fun _ _ h => hTn _ h), HPOOL.out.ne, HPOOL.out.tO, HPOOL.out.tv⟩
        have := hp.at_
        rw [List.map_drop, HPE.out] at this
        exact this
      · refine HKW.out.trans_of k14 (fun i hi h => ?_)
        rcases h with h | h
        · exact .inl h
        · rcases HOWNS.out with e | ⟨g', e, hg'⟩
          · exact .inr (by rw [← e, hown9, h])
          · rw [hown9] at e
            injection e with e
            omega
theorem add_any (T : Nat → Prop) (es : List Ent) (O base : Nat) (v : Value) (src : Int) (t : Txs.Tx) (A A' : Option Addr) (c c' B : Nat) (now : Nat) (w : World) (hlay : Laid w) (h : PoolAt T w O base v es) (ht : TxAt w B t A c A' c') (hB : B ≤ w.heap.size) (hbase : base ≤ w.heap.size)
    (h8 : es.length ≤ 8) (hnow : now < 18446744073709551616) :
    Calls Tryd.prog 25 #[.pointer (some ⟨O, 0, none⟩), .int .i64 src, txV t A c A' c', .int .u64 (now : Int)] w (AddTo T w O base v (addEs es src t now) (addGone es t) (addErr es t)) := by
  by_cases hc : Txs.check t = 0
  · cases hh : hasId es (Txs.id t) with
    | true =>
      have e1 : addErr es t = 10 := by unfold addErr; rw [if_pos hc, hh]; rfl
      have e2 : addEs es src t now = es := by unfold addEs; rw [e1]; rfl
      have e3 : addGone es t = [] := by unfold addGone; rw [e1]; rfl
      rw [e1, e2, e3]
      exact add_there T es O base v src t A A' c c' B now w hlay h ht hB hc hh (by omega)
    | false =>
      have e1 : addErr es t = 0 := by unfold addErr; rw [if_pos hc, hh]; rfl
      have e2 : addEs es src t now = if es.length < 8 then es ++ [entOf src t now] else (es ++ [entOf src t now]).drop 1 := by unfold addEs; rw [e1]; rfl
      have e3 : addGone es t = if es.length < 8 then [] else (es.take 1).map Ent.id := by unfold addGone; rw [e1]; rfl
      rw [e1, e2, e3]
      exact add_ok T es O base v src t A A' c c' B now w hlay h ht hB hbase hc hh h8 hnow
  · have e1 : addErr es t = Txs.check t := by unfold addErr; rw [if_neg hc]
    have e2 : addEs es src t now = es := by unfold addEs; rw [e1, if_neg hc]
    have e3 : addGone es t = [] := by unfold addGone; rw [e1, if_neg hc]
    rw [e1, e2, e3]
    exact add_bad T es O base v src t A A' c c' B now w h ht hB hc
end Go.Proofs.YtacbibflhdmcoaaDoor.O14
