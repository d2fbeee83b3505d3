/- OrphanComes: the walk. -/
import Derived.Test.YtacbibflhdmcoaaDoorOrphanAdds
import Derived.Test.YtacbibflhdmcoaaDoorOrphanLeaves
import Derived.Test.YtacbibflhdmcoaaDoorTxSame2
namespace Go.Proofs.YtacbibflhdmcoaaDoor
open Go.RowKit Go.Deep T7 O14 Go.ChangeShapes Go.WideShapes Go.ChangeAt
set_option linter.unusedVariables false
set_option linter.unusedSimpArgs false
set_option maxRecDepth 100000
set_option maxHeartbeats 4000000
attribute [local go_sem ↓] Go.wp_at_zero Go.wp_at_succ

section
variable {P : Program} {ops : Array Oper} {o : Oper} {a : Go.Act} {w : World} {K : Go.Act → World → Prop} {Q : Exit → Go.Act → World → Prop} {E : Prop}
theorem step_allocOf (hw : Region.wanted o (yielded ops a.tmps) = true) (t : TypeId) (ho : o.op = .alloc t) (cs : Array Value) (hz : (P.info? t).map (·.zero) = some (some (.agg cs)))
    (h : K (a.put o.dst (.pointer (some ⟨w.heap.size, 0, none⟩))) (w.alloc (.cells cs t))) : if Region.wanted o (yielded ops a.tmps) = true then Oper.wp P o a w K Q else E := by
  rw [if_pos hw]
  unfold Oper.wp execOp
  simp only [ho, Sem.run_bind, run_alloc_of w hz, Result.andThen_ok]
  exact h
theorem step_storeRow (hw : Region.wanted o (yielded ops a.tmps) = true) (ty : TypeId) (x y : Operand) (ho : o.op = .store ty x y) (g : Nat) (cells : Array Value) (hx : a.eval x = .pointer (some ⟨g, 0, none⟩)) (hy : a.eval y = .agg cells)
    (t : TypeId) (old : Array Value) (hg : w.heap[g]? = some (.cells old t (0, 0))) (hi : (P.info? ty).map (·.size) = some cells.size) (hold : old.size = cells.size) (h1 : cells.all (·.oneCell') = true)
    (h : K (a.put o.dst undef) (w.setRow g cells)) : if Region.wanted o (yielded ops a.tmps) = true then Oper.wp P o a w K Q else E := by
  rw [if_pos hw]
  exact wp_store_row ty x y ho g cells hx hy t old hg hi hold h1 h
end
section
variable {P : Program} {ops : Array Oper} {rest : List Oper} {o : Oper} {a : Go.Act} {w : World} {Q : Exit → Go.Act → World → Prop}
theorem wpList_load_mid_g (hw : Region.wanted o (yielded ops a.tmps) = true) (ty : TypeId) (x : Operand) (ho : o.op = .load ty x) (b off : Nat) (hx : a.eval x = .pointer (some ⟨b, off, none⟩)) (cs : List Value) (d : TypeDesc) (hc : w.rangeAt b off cs)
    (hu : P.underlying ty = some d) (hd : d.isRow = true) (hi : (P.info? ty).map (·.size) = some cs.length) (h : wpList P ops Q rest (a.put o.dst (.agg cs.toArray)) w) : wpList P ops Q (o :: rest) a w :=
  wpList_wanted hw fun _ hK => wp_load_mid ty x ho b off hx cs d hc hu hd hi (hK _ _ h)
theorem wpList_buildOne_g (hw : Region.wanted o (yielded ops a.tmps) = true) (t e : TypeId) (x : Operand) (ho : o.op = .buildSlice t 1 #[(0, x)])
    (cells : Array Value) (hx : a.eval x = .agg cells) (hu : P.underlying t = some (.slice e)) (hi : (P.info? e).map (·.size) = some cells.size) (zs : Array Value) (hz : (P.info? e).map (·.zero) = some (some (.agg zs))) (hpos : 0 < cells.size) (hsmall : cells.size ≤ 1000)
    (h : wpList P ops Q rest (a.put o.dst (.slice (some ⟨w.heap.size, 0, none⟩) 1 1)) (w.alloc (.cells cells e))) : wpList P ops Q (o :: rest) a w :=
  wpList_wanted hw fun _ hK => wp_buildOne t e x ho cells hx hu hi zs hz hpos hsmall (hK _ _ h)
end
theorem id_last {F : List Ent} {pre : List Ent} {e0 : Ent} (hF : F = pre ++ [e0]) (hn : (F.map Ent.id).Nodup) {i : Nat} (hi : i < F.length) : F[i].id = e0.id ↔ i + 1 = F.length := by
  subst hF
  have hl : (pre ++ [e0]).length = pre.length + 1 := by simp
  have hlast : ((pre ++ [e0])[pre.length]'(by omega)) = e0 := by simp
  have hpw := List.pairwise_iff_getElem.1 hn
  constructor
  · intro h
    rcases Nat.lt_or_ge i pre.length with h1 | h1
    · exfalso
      refine hpw i pre.length (by rw [List.length_map]; omega) (by rw [List.length_map]; omega) h1 ?_
      rw [List.getElem_map, List.getElem_map, hlast]
      exact h
    · omega
  · intro h
    have : i = pre.length := by omega
    subst this
    rw [hlast]
theorem id_inj {l : List Ent} (hn : (l.map Ent.id).Nodup) {a b : Ent} (ha : a ∈ l) (hb : b ∈ l) (h : a.id = b.id) : a = b := by
  obtain ⟨i, hi, rfl⟩ := List.mem_iff_getElem.1 ha
  obtain ⟨j, hj, rfl⟩ := List.mem_iff_getElem.1 hb
  have hpw := List.pairwise_iff_getElem.1 hn
  rcases Nat.lt_trichotomy i j with h1 | h1 | h1
  · exact absurd (by rw [List.getElem_map, List.getElem_map]; exact h) (hpw i j (by rw [List.length_map]; exact hi) (by rw [List.length_map]; exact hj) h1)
  · subst h1; rfl
  · exact absurd (by rw [List.getElem_map, List.getElem_map]; exact h.symm) (hpw j i (by rw [List.length_map]; exact hj) (by rw [List.length_map]; exact hi) h1)
theorem spends_one (p : List UInt8) (t : Txs.Tx) : spends [p] t = t.ins.any fun x => decide (x.hash = p) := by
  unfold spends
  congr 1
  funext x
  simp only [List.any_cons, List.any_nil, Bool.or_false]
  exact decide_eq_decide.2 eq_comm
theorem comes_open {H : Type} {enc : TypeId × Value → H} {W : World} {v : Value} {d : DataW H} {p : List MemPlace} (hv : Value.okWide Tryd.prog W .any 0 73 v) (h : DataW.Trod enc Tryd.prog W 0 (fun _ => true) true 73 v d p) :
    ∃ (A : Option Addr) (c : Nat) (l : List O14.Act) (pt : List UInt8) (n : Nat) (src : Int), v = .agg ((.slice A l.length c : Value) :: (pt.map byteV ++ [.int .u32 (n : Int), .int .i64 src])).toArray ∧ (l.length ≤ c ∧ c ≤ maxLen ∧ ActsAt W W.heap.size A l) ∧ pt.length = 32 ∧ n < 4294967296 := by
  unfold Value.okWide at hv
  rw [Tryd.underlying73] at hv
  obtain ⟨cs, rfl, hsz, _⟩ := hv
  obtain ⟨fuel, hf⟩ := h
  obtain ⟨y0, y1, y2, y3, m, _, hl, h0, h1, h2, h3⟩ := Joins.trod_struct4 Tryd.underlying73 hf
  have c1 : Tryd.prog.cellsOf 22 = 1 := by kernel_rfl
  have c32 : Tryd.prog.cellsOf 54 = 32 := by kernel_rfl
  have cu : Tryd.prog.cellsOf 31 = 1 := by kernel_rfl
  have ci : Tryd.prog.cellsOf 3 = 1 := by kernel_rfl
  have cc : Tryd.prog.cellsOf 73 = 35 := by kernel_rfl
  simp only [c1, c32, cu, ci, List.drop_zero, Value.cells] at h0 h1 h2 h3
  rw [cc] at hl
  simp only [Value.cells, Array.length_toList] at hl
  obtain ⟨xs⟩ := cs
  match xs, hl with
  | v0 :: rest, hl =>
    have hl34 : rest.length = 34 := by simpa using hl
    simp only [List.take_succ_cons, List.take_zero] at h0
    simp only [List.drop_succ_cons, List.drop_zero] at h1 h2 h3
    obtain ⟨A, len, c, l, rfl, hll, hlc, hlm, hat⟩ := open_at_of (IsAct W W.heap.size) 7 (by omega) Tryd.underlying22 (by kernel_rfl) h0 isAct_open
    subst hll
    obtain ⟨pt, hp1, hp2⟩ := T7.hash_open h1
    obtain ⟨k2, e2, _, w2⟩ := DataW.trod_int Tryd.underlying31 h2
    obtain ⟨k3, e3, _, w3⟩ := DataW.trod_int Tryd.underlying3 h3
    obtain ⟨a2, b2⟩ := wf_u32 w2
    have er : rest = rest.take 32 ++ (rest.drop 32) := (List.take_append_drop 32 rest).symm
    have er2 : rest.drop 32 = (rest.drop 32).take 1 ++ (rest.drop 33).take 1 := by
      rw [List.take_of_length_le (l := rest.drop 33) (by simp; omega)]
      have := (List.take_append_drop 1 (rest.drop 32)).symm
      rwa [List.drop_drop] at this
    refine ⟨A, c, l, pt, k2.toNat, k3, ?_, ⟨hlc, hlm, hat⟩, hp2, by omega⟩
    rw [show ((k2.toNat : Nat) : Int) = k2 by omega]
    congr 1
    rw [er, er2, hp1, e2, e3]
    simp
theorem simple_check (n : Nat) (p : List UInt8) : Txs.check (simpleTx n p) = 0 := by
  unfold Txs.check simpleTx Txs.form Txs.money Txs.apart Txs.pts Txs.total
  simp [Txs.mostMoney]
theorem simple_spends (n : Nat) (p : List UInt8) : spends [p] (simpleTx n p) = true := by
  unfold spends simpleTx
  simp
theorem simple_form (n : Nat) (p : List UInt8) : Txs.form (simpleTx n p) = true := (Txs.check_ok (simple_check n p)).1
theorem orphanComes_walk (w : World) (hlay : Laid w) (A : Option Addr) (c : Nat) (l : List O14.Act) (pt : List UInt8) (n : Nat) (src : Int) (hlc : l.length ≤ c ∧ c ≤ maxLen ∧ ActsAt w w.heap.size A l) (hpt : pt.length = 32) (hn : n < 4294967296) :
    Calls Tryd.prog 8 #[.agg ((.slice A l.length c : Value) :: (pt.map byteV ++ [.int .u32 (n : Int), .int .i64 src])).toArray] w fun e w' => e = .returned (.bool true) ∧ Below w.heap.size w w' := by
  obtain ⟨hc, hm, hat⟩ := hlc
  have HLY := Lib.hid hlay
  have HAT := Lib.hid hat
  have HPT := Lib.hid hpt
  obtain ⟨xp, hxp⟩ : ∃ xp, xp = pt.map byteV := ⟨_, rfl⟩
  have HXP := Lib.hid hxp
  have HXL := Lib.hid (show xp.length = 32 by rw [hxp, List.length_map]; exact hpt)
  have HXO := Lib.hid (show ∀ u ∈ xp, u.oneCell' = true by rw [hxp]; exact oneCell_bytes _)
  rw [← hxp]
  obtain ⟨cs, hcs⟩ : ∃ cs : List Value, cs = .slice A l.length c :: (xp ++ [.int .u32 (n : Int), .int .i64 src]) := ⟨_, rfl⟩
  have HCS := Lib.hid hcs
  rw [← hcs]
  obtain ⟨w1, hw1⟩ : ∃ w1, w1 = w.alloc (.cells cs.toArray 73) := ⟨_, rfl⟩
  have HB1 := Lib.hid (show Below w.heap.size w w1 by rw [hw1]; exact Joins.below_alloc1 _ _)
  have HX1 := Lib.hid (show Bk w1 w.heap.size 73 cs.toArray by rw [hw1]; exact Bk.new _ _ _)
  have hz1 : w.heap.size < w1.heap.size := HX1.out.lt
  have HG := Lib.hid (fun W hb => great_any l A c w.heap.size W (HAT.out.below hb) hb.size hc hm)
  obtain ⟨gb, hgb⟩ : ∃ gb, gb = greatB l := ⟨_, rfl⟩
  rw [← hgb] at HG
  have HGB := Lib.hid hgb
  obtain ⟨zs, hzs⟩ : ∃ zs, zs = ((List.replicate 32 (0 : UInt8)).map byteV).toArray := ⟨_, rfl⟩
  have HZ := Lib.hid (show (Tryd.prog.info? 54).map (·.zero) = some (some (.agg zs)) by rw [hzs]; exact zero_hash0)
  have HZL := Lib.hid (show zs.size = 32 by rw [hzs]; simp)
  clear hlay hat hpt hxp hcs hgb hzs
  go_enter Tryd.func8, Tryd.ntmps8
  go_upto_region 1 with (fail)
  rw [← hw1]
  clear hw1
  go_wp2_with fail
  refine (alive_any w1 (HLY.out.below HB1.out)).mono ?_
  rintro e w2 ⟨rfl, hb2⟩
  have HB2 := Lib.hid (HB1.out.trans (hb2.mono HB1.out.size))
  have HX2 := Lib.hid (HX1.out.below hb2 hz1)
  have hz2 : w.heap.size < w2.heap.size := HX2.out.lt
  clear hb2
  go_upto_region 3 with (fail)
  have x0 : w2.cell? ⟨w.heap.size, 0, none⟩ = some (.slice A l.length c) := by
    rw [HX2.out.cell 0, HCS.out]; rfl
  have x33 : w2.cell? ⟨w.heap.size, 33, none⟩ = some (.int .u32 (n : Int)) := by
    rw [HX2.out.cell 33, HCS.out]
    simp only [List.getElem?_toArray, List.getElem?_cons_succ]
    rw [List.getElem?_append_right (by rw [HXL.out]; omega), HXL.out]; rfl
  have x34 : w2.cell? ⟨w.heap.size, 34, none⟩ = some (.int .i64 src) := by
    rw [HX2.out.cell 34, HCS.out]
    simp only [List.getElem?_toArray, List.getElem?_cons_succ]
    rw [List.getElem?_append_right (by rw [HXL.out]; omega), HXL.out]; rfl
  have HXT := Lib.hid (show w2.rangeAt w.heap.size 1 xp from fun j u hu => by
    have hj := (List.getElem?_eq_some_iff.1 hu).1
    rw [HX2.out.cell (1 + j), HCS.out, Nat.add_comm]
    simp only [List.getElem?_toArray, List.getElem?_cons_succ]
    rw [List.getElem?_append_left hj]
    exact hu)
  refine wp_region_L [(1, w.heap.size, 0, [.slice A l.length c]), (3, w.heap.size, 1, xp), (5, w.heap.size, 33, [.int .u32 (n : Int)]), (7, w.heap.size, 34, [.int .i64 src])] (by kernel_rfl) ?_
  refine wpAnyL_pure (i := 0) (v := ?_) rfl (by kernel_rfl) (by kernel_rfl) (by kernel_rfl) (fun _ _ _ h => h) (Or.inl ⟨by rfl, ?_⟩) ?_
  rotate_left
  · (intro w' _; go_simp <;> with_reducible rfl)
  simp only [Act.put, List.setIfInBounds_toArray, List.set_cons_zero, List.set_cons_succ, List.getElem_toArray, List.getElem_cons_zero, List.getElem_cons_succ]
  refine wpAnyL_read (i := 1) (v := (.slice A l.length c)) w.heap.size 0 [(.slice A l.length c)] (.head _) (range_one x0) rfl (by kernel_rfl) (by kernel_rfl) (by kernel_rfl) (fun _ _ _ h => h) (Or.inl ⟨by rfl, fun w' hSw => ?_⟩) ?_
  · (have hq := cell_one hSw; go_simp)
  simp only [Act.put, List.setIfInBounds_toArray, List.set_cons_zero, List.set_cons_succ, List.getElem_toArray, List.getElem_cons_zero, List.getElem_cons_succ]
  refine wpAnyL_pure (i := 2) (v := ?_) rfl (by kernel_rfl) (by kernel_rfl) (by kernel_rfl) (fun _ _ _ h => h) (Or.inl ⟨by rfl, ?_⟩) ?_
  rotate_left
  · (intro w' _; go_simp <;> with_reducible rfl)
  simp only [Act.put, List.setIfInBounds_toArray, List.set_cons_zero, List.set_cons_succ, List.getElem_toArray, List.getElem_cons_zero, List.getElem_cons_succ]
  refine wpAnyL_load (i := 3) w.heap.size 1 xp (.tail _ (.head _)) HXT.out rfl (by kernel_rfl) (by kernel_rfl) (by kernel_rfl) (fun _ _ _ h => h) (by rfl) 54 (.tmp 27) rfl (by rfl) _ Tryd.underlying54 rfl (by rw [HXL.out]; exact size_hash0) ?_
  simp only [Act.put, List.setIfInBounds_toArray, List.set_cons_zero, List.set_cons_succ, List.getElem_toArray, List.getElem_cons_zero, List.getElem_cons_succ]
  refine wpAnyL_pure (i := 4) (v := ?_) rfl (by kernel_rfl) (by kernel_rfl) (by kernel_rfl) (fun _ _ _ h => h) (Or.inl ⟨by rfl, ?_⟩) ?_
  rotate_left
  · (intro w' _; go_simp <;> with_reducible rfl)
  simp only [Act.put, List.setIfInBounds_toArray, List.set_cons_zero, List.set_cons_succ, List.getElem_toArray, List.getElem_cons_zero, List.getElem_cons_succ]
  refine wpAnyL_read (i := 5) (v := (.int .u32 (n : Int))) w.heap.size 33 [(.int .u32 (n : Int))] (.tail _ (.tail _ (.head _))) (range_one x33) rfl (by kernel_rfl) (by kernel_rfl) (by kernel_rfl) (fun _ _ _ h => h) (Or.inl ⟨by rfl, fun w' hSw => ?_⟩) ?_
  · (have hq := cell_one hSw; go_simp)
  simp only [Act.put, List.setIfInBounds_toArray, List.set_cons_zero, List.set_cons_succ, List.getElem_toArray, List.getElem_cons_zero, List.getElem_cons_succ]
  refine wpAnyL_pure (i := 6) (v := ?_) rfl (by kernel_rfl) (by kernel_rfl) (by kernel_rfl) (fun _ _ _ h => h) (Or.inl ⟨by rfl, ?_⟩) ?_
  rotate_left
  · (intro w' _; go_simp <;> with_reducible rfl)
  simp only [Act.put, List.setIfInBounds_toArray, List.set_cons_zero, List.set_cons_succ, List.getElem_toArray, List.getElem_cons_zero, List.getElem_cons_succ]
  refine wpAnyL_read (i := 7) (v := (.int .i64 src)) w.heap.size 34 [(.int .i64 src)] (.tail _ (.tail _ (.tail _ (.head _)))) (range_one x34) rfl (by kernel_rfl) (by kernel_rfl) (by kernel_rfl) (fun _ _ _ h => h) (Or.inl ⟨by rfl, fun w' hSw => ?_⟩) ?_
  · (have hq := cell_one hSw; go_simp)
  simp only [Act.put, List.setIfInBounds_toArray, List.set_cons_zero, List.set_cons_succ, List.getElem_toArray, List.getElem_cons_zero, List.getElem_cons_succ]
  refine wpAnyL_ready (rs := [8]) (by kernel_rfl) (by simp) ?_
  refine (AllReadyL.cons rfl (fun K hK => ?_) AllReadyL.nil)
  refine step_allocOf (by rfl) 54 rfl zs HZ.out ?_
  refine hK.out _ _ (Keeps.below (Joins.below_alloc1 _ _)) ?_
  clear hK K
  try simp only [Act.put, List.setIfInBounds_toArray, List.set_cons_zero, List.set_cons_succ, List.getElem_toArray, List.getElem_cons_zero, List.getElem_cons_succ]
  refine wpAnyL_pure (i := 9) (v := ?_) rfl (by kernel_rfl) (by kernel_rfl) (by kernel_rfl) (fun _ _ _ h => h) (Or.inl ⟨by rfl, ?_⟩) ?_
  rotate_left
  · (intro w' _; go_simp <;> with_reducible rfl)
  simp only [Act.put, List.setIfInBounds_toArray, List.set_cons_zero, List.set_cons_succ, List.getElem_toArray, List.getElem_cons_zero, List.getElem_cons_succ]
  refine wpAnyL_ready (rs := [10]) (by kernel_rfl) (by simp) ?_
  refine (AllReadyL.cons rfl (fun K hK => ?_) AllReadyL.nil)
  refine step_storeRow (by rfl) 54 (.tmp 4) (.tmp 28) rfl w2.drew.heap.size xp.toArray (by rfl) (by rfl) 54 zs (Bk.new _ _ _) (by rw [List.size_toArray, HXL.out]; exact size_hash) (by have h1 := HXL.out; have h2 := HZL.out; simp [h1, h2]) (all_oneCell_toArray HXO.out) ?_
  refine hK.out _ _ (Keeps.kp (Kp.setRow7 (S := fun i => i = w2.drew.heap.size) (Kp.refl _ _) (fun _ => rfl) _) (fun p hp _ e => by have hs : w2.drew.heap.size = w2.heap.size := rfl; simp only [List.mem_cons, List.not_mem_nil, or_false] at hp; rcases hp with rfl | rfl | rfl | rfl <;> simp only at e <;> omega)) ?_
  clear hK K
  try simp only [Act.put, List.setIfInBounds_toArray, List.set_cons_zero, List.set_cons_succ, List.getElem_toArray, List.getElem_cons_zero, List.getElem_cons_succ]
  refine wpAnyL_pure (i := 11) (v := ?_) rfl (by kernel_rfl) (by kernel_rfl) (by kernel_rfl) (fun _ _ _ h => h) (Or.inl ⟨by rfl, ?_⟩) ?_
  rotate_left
  · (intro w' _; go_simp <;> with_reducible rfl)
  simp only [Act.put, List.setIfInBounds_toArray, List.set_cons_zero, List.set_cons_succ, List.getElem_toArray, List.getElem_cons_zero, List.getElem_cons_succ]
  refine wpAnyL_pure (i := 12) (v := ?_) rfl (by kernel_rfl) (by kernel_rfl) (by kernel_rfl) (fun _ _ _ h => h) (Or.inl ⟨by rfl, ?_⟩) ?_
  rotate_left
  · (intro w' _; go_simp <;> with_reducible rfl)
  simp only [Act.put, List.setIfInBounds_toArray, List.set_cons_zero, List.set_cons_succ, List.getElem_toArray, List.getElem_cons_zero, List.getElem_cons_succ]
  refine wpAnyL_done (by kernel_rfl) ?_ _
  go_upto_region 4 with (fail)
  obtain ⟨q4, hq4⟩ : ∃ q, q = w2.heap.size := ⟨_, rfl⟩
  obtain ⟨w3, hw3⟩ : ∃ w3, w3 = (w2.drew.alloc (.cells zs 54)).setRow w2.drew.heap.size xp.toArray := ⟨_, rfl⟩
  have hb23 : Below w2.heap.size w2 w3 := by rw [hw3]; exact below_setRow (((Below.refl _ w2).drew).alloc (Nat.le_refl _) _) (Nat.le_refl _) _
  have HB3 := Lib.hid (HB2.out.trans (hb23.mono HB2.out.size))
  have HT3 := Lib.hid (show Bk w3 q4 54 xp.toArray by rw [hw3, hq4]; exact setRow_heap _ _ _ _ _ _ (Bk.new w2.drew _ zs))
  rw [← hw3]
  rw [show w2.drew.heap.size = q4 from hq4.symm]
  clear hw3 hb23 x0 x33 x34 HXT HX1 HX2
  go_wp2_with fail
  refine (HG.out w3 HB3.out).mono ?_
  rintro e w4 ⟨rfl, hb4⟩
  have HB4 := Lib.hid (HB3.out.trans (hb4.mono HB3.out.size))
  have HT4 := Lib.hid (HT3.out.below hb4 HT3.out.lt)
  have hz4 : q4 < w4.heap.size := HT4.out.lt
  have hq4w : w.heap.size ≤ q4 := by omega
  clear hb4 hq4
  cases gb with
  | true =>
    clear HGB
    go_wp2_with fail
    go_ret
    exact ⟨rfl, HB4.out⟩
  | false =>
  obtain ⟨hl1, hpa⟩ := greatB_false HGB.out.symm
  clear HGB
  go_wp2_with fail
  refine (grown_any l A c w.heap.size w4 (HLY.out.below HB4.out) (HAT.out.below HB4.out) HB4.out.size hl1 hpa).mono ?_
  rintro e w5 ⟨O, v, rfl, hO, hP, hb5⟩
  have HB5 := Lib.hid (HB4.out.trans (hb5.mono HB4.out.size))
  have HT5 := Lib.hid (HT4.out.below hb5 HT4.out.lt)
  have hgood := good_run l
  obtain ⟨es, hes⟩ : ∃ es, es = runEs l := ⟨_, rfl⟩
  rw [← hes] at hP hgood
  have h8 := hgood.few
  generalize PU w4.heap.size O v = T0 at hP
  have HP5 := Lib.hid hP
  have HGD := Lib.hid hgood
  have hO5 : O < w5.heap.size := HP5.out.bk.lt
  have hv5 := HP5.out.row.lt
  have hz5 := hb5.size
  clear hb5 hP hgood hes
  obtain ⟨tx, htx⟩ : ∃ tx, tx = simpleTx n pt := ⟨_, rfl⟩
  have HSI := Lib.hid (simple_any n pt HPT.out hn w5)
  rw [← htx, ← HXP.out] at HSI
  unfold txV at HSI
  have hchk : Txs.check tx = 0 := by rw [htx]; exact simple_check n pt
  have HCHK := Lib.hid hchk
  have HSPN := Lib.hid (show spends [pt] tx = true by rw [htx]; exact simple_spends n pt)
  have HTXD := Lib.hid htx
  clear htx hchk
  go_wp2_with (refine wpList_load_row rfl 54 (.tmp 4) rfl q4 (by rfl) 54 xp.toArray (0, 0) _ HT5.out Tryd.underlying54 rfl (by rw [List.size_toArray, HXL.out]; exact size_hash0) ?_)
  refine HSI.out.mono ?_
  rintro e w6 ⟨A1, c1, A2, c2, rfl, hnew, hb6⟩
  have HB6 := Lib.hid (HB5.out.trans (hb6.mono HB5.out.size))
  have HT6 := Lib.hid (HT5.out.below hb6 HT5.out.lt)
  have HP6 := Lib.hid (show PoolAt T0 w6 O w4.heap.size v es from HP5.out.kp' (S := fun _ => False) hb6 (fun _ _ h => h) HP5.out.tO HP5.out.tv)
  have HNEW := Lib.hid hnew
  have hz6 := hb6.size
  clear hb6 hnew HSI HP5
  go_upto_region 8 with (fail)
  obtain ⟨q8, hq8⟩ : ∃ q, q = w6.heap.size := ⟨_, rfl⟩
  obtain ⟨w7, hw7⟩ : ∃ w7, w7 = w6.alloc (.cells #[.int .u32 (tx.version : Int), .slice A1 tx.ins.length c1, .slice A2 tx.outs.length c2] 35) := ⟨_, rfl⟩
  have hb7 : Below w6.heap.size w6 w7 := by rw [hw7]; exact Joins.below_alloc1 _ _
  have HB7 := Lib.hid (HB6.out.trans (hb7.mono HB6.out.size))
  have HT7 := Lib.hid (HT6.out.below hb7 HT6.out.lt)
  have HX7 := Lib.hid (show Bk w7 q8 35 #[.int .u32 (tx.version : Int), .slice A1 tx.ins.length c1, .slice A2 tx.outs.length c2] by rw [hw7, hq8]; exact Bk.new _ _ _)
  have HP7 := Lib.hid (show PoolAt T0 w7 O w4.heap.size v es from HP6.out.kp' (S := fun _ => False) hb7 (fun _ _ h => h) HP6.out.tO HP6.out.tv)
  have HK7 := Lib.hid (show Kp (fun i => i < w5.heap.size) w6 w7 from Kp.of_below hb7)
  rw [← hw7, ← hq8]
  have hz7 := hb7.size
  have hz78 : q8 < w7.heap.size := HX7.out.lt
  have hq8' : w6.heap.size ≤ q8 := by omega
  clear hw7 hb7 HP6 hq8
  have HID := Lib.hid (fun W (hb : Below w.heap.size w W) (hk : Kp (fun i => i < w5.heap.size) w6 W) => id_any tx A1 A2 c1 c2 W.heap.size W (HLY.out.below hb) (HNEW.out W hk) (Nat.le_refl _))
  unfold txV at HID
  obtain ⟨id, hid'⟩ : ∃ id, id = Txs.id tx := ⟨_, rfl⟩
  have HIL := Lib.hid (show id.length = 32 by rw [hid']; exact id_len tx)
  have HII := Lib.hid hid'
  rw [← hid'] at HID
  rw [Txs.idErr_of HCHK.out] at HID
  obtain ⟨ia, hia⟩ : ∃ ia, ia = bytesArr id := ⟨_, rfl⟩
  have HIA := Lib.hid hia
  have HIS := Lib.hid (show ia.size = 32 by rw [hia]; simp [bytesArr, HIL.out])
  have HI1 := Lib.hid (show ia.all (·.oneCell') = true by rw [hia]; simp [bytesArr, Value.oneCell', byteV])
  rw [← hia] at HID
  clear hid' hia
  obtain ⟨t0, t1, t2⟩ := tx3 HX7.out
  go_wp2_with fail
  refine (HID.out w7 HB7.out HK7.out).mono ?_
  rintro e w8 ⟨rfl, hb8⟩
  have HB8 := Lib.hid (HB7.out.trans (hb8.mono HB7.out.size))
  have HT8 := Lib.hid (HT7.out.below hb8 HT7.out.lt)
  have HX8 := Lib.hid (HX7.out.below hb8 HX7.out.lt)
  have HP8 := Lib.hid (show PoolAt T0 w8 O w4.heap.size v es from HP7.out.kp' (S := fun _ => False) hb8 (fun _ _ h => h) HP7.out.tO HP7.out.tv)
  have HK8 := Lib.hid (show Kp (fun i => i < w5.heap.size) w6 w8 from HK7.out.trans (Kp.of_below hb8))
  have hz8 := hb8.size
  clear hb8 t0 t1 t2 HT7 HX7 HP7 HK7 HID
  go_upto_region 9 with (first
    | (refine wpList_allocOf rfl 54 rfl zs HZ.out ?_)
    | (refine wpList_store_row rfl 54 (.tmp 9) (.tmp 43) rfl w8.heap.size ia (by rfl) (by rfl) 54 zs ?hg (by rw [HIS.out]; exact size_hash) (by rw [HIS.out]; exact HZL.out) HI1.out ?_))
  case hg => exact Bk.new _ _ _
  obtain ⟨q9, hq9⟩ : ∃ q, q = w8.heap.size := ⟨_, rfl⟩
  obtain ⟨w9, hw9⟩ : ∃ w9, w9 = (w8.alloc (.cells zs 54)).setRow w8.heap.size ia := ⟨_, rfl⟩
  have hb9 : Below w8.heap.size w8 w9 := by rw [hw9]; exact below_setRow ((Below.refl _ _).alloc (Nat.le_refl _) _) (Nat.le_refl _) _
  have HY9 := Lib.hid (show Bk w9 q9 54 ia by rw [hw9, hq9]; exact setRow_heap _ _ _ _ _ _ (Bk.new w8 _ zs))
  have HB9 := Lib.hid (HB8.out.trans (hb9.mono HB8.out.size))
  have HT9 := Lib.hid (HT8.out.below hb9 HT8.out.lt)
  have HX9 := Lib.hid (HX8.out.below hb9 HX8.out.lt)
  have HP9 := Lib.hid (show PoolAt T0 w9 O w4.heap.size v es from HP8.out.kp' (S := fun _ => False) hb9 (fun _ _ h => h) HP8.out.tO HP8.out.tv)
  have HK9 := Lib.hid (show Kp (fun i => i < w5.heap.size) w6 w9 from HK8.out.trans (Kp.of_below hb9))
  rw [← hw9, ← hq9]
  have hz9 := hb9.size
  have hz99 : q9 < w9.heap.size := HY9.out.lt
  have hq98 : q8 < q9 := by omega
  clear hw9 hb9 HT8 HX8 HP8 HK8 hq9
  have HHAS := Lib.hid (show Calls Tryd.prog 23 #[.pointer (some ⟨O, 0, none⟩), .agg ia] w9 fun e w' => e = .returned (.bool (hasId es id)) ∧ Below w9.heap.size w9 w' by
    have := has_any T0 es O w4.heap.size v id HIL.out w9 HP9.out (by omega)
    rw [HIA.out]
    exact this)
  obtain ⟨hh, hhh⟩ : ∃ hh, hh = hasId es id := ⟨_, rfl⟩
  rw [← hhh] at HHAS
  have HHH := Lib.hid hhh
  clear hhh
  go_wp2_with (refine wpList_load_row rfl 54 (.tmp 9) rfl q9 (by rfl) 54 ia (0, 0) _ HY9.out Tryd.underlying54 rfl (by rw [HIS.out]; exact size_hash0) ?_)
  refine HHAS.out.mono ?_
  rintro e w10 ⟨rfl, hb10⟩
  have HB10 := Lib.hid (HB9.out.trans (hb10.mono HB9.out.size))
  have HT10 := Lib.hid (HT9.out.below hb10 HT9.out.lt)
  have HX10 := Lib.hid (HX9.out.below hb10 HX9.out.lt)
  have HY10 := Lib.hid (HY9.out.below hb10 HY9.out.lt)
  have HP10 := Lib.hid (show PoolAt T0 w10 O w4.heap.size v es from HP9.out.kp' (S := fun _ => False) hb10 (fun _ _ h => h) HP9.out.tO HP9.out.tv)
  have HK10 := Lib.hid (show Kp (fun i => i < w5.heap.size) w6 w10 from HK9.out.trans (Kp.of_below hb10))
  have hz10 := hb10.size
  clear hb10 HT9 HX9 HP9 HK9 HY9 HHAS
  cases hh with
  | true =>
    clear HHH
    go_wp2_with fail
    go_ret
    exact ⟨rfl, HB10.out⟩
  | false =>
  have herr : addErr es tx = 0 := by unfold addErr; rw [if_pos HCHK.out, ← HII.out, ← HHH.out]; rfl
  have HADD := Lib.hid (show Calls Tryd.prog 25 #[.pointer (some ⟨O, 0, none⟩), .int .i64 src, txV tx A1 c1 A2 c2, .int .u64 0] w10 (AddTo T0 w10 O w4.heap.size v (addEs es src tx 0) (addGone es tx) (addErr es tx)) from O14.add_any T0 es O w4.heap.size v src tx A1 A2 c1 c2 w10.heap.size 0 w10 (HLY.out.below HB10.out) HP10.out (HNEW.out w10 HK10.out) (Nat.le_refl _) (by omega) h8 (by omega))
  rw [herr] at HADD
  unfold txV at HADD
  obtain ⟨es2, hes2⟩ : ∃ es2, es2 = addEs es src tx 0 := ⟨_, rfl⟩
  rw [← hes2] at HADD
  have hgood2 : O14.Good es2 := by rw [hes2]; exact HGD.out.add _ _ _
  have HE0 := Lib.hid (show ∃ pre, es2 = pre ++ [entOf src tx 0] from by
    rw [hes2]
    unfold addEs
    rw [if_pos herr]
    split
    · exact ⟨es, rfl⟩
    · exact ⟨es.drop 1, by rw [List.drop_append_of_le_length (by omega)]⟩)
  have HGD2 := Lib.hid hgood2
  have h82 := hgood2.few
  clear hes2 hgood2 herr HHH HGD
  generalize addGone es tx = gn at HADD
  obtain ⟨t0, t1, t2⟩ := tx3 HX10.out
  go_wp2_with fail
  refine HADD.out.mono ?_
  rintro e w11 ⟨Ag, cg, v', rfl, _, _, _, hP11, hown, hk11⟩
  generalize Tn T0 w10 v' = T1 at hP11
  have hS : ∀ i, (i = O ∨ v.ownBlock = some i) → i < w5.heap.size ∧ w4.heap.size ≤ i := fun i hi => by
    rcases hi with e | e
    · exact ⟨by omega, by omega⟩
    · exact ⟨(hv5 i e).2, (hv5 i e).1⟩
  have HP11 := Lib.hid hP11
  have HB11 := Lib.hid (show Below w.heap.size w w11 from Kp.from_elder HB10.out hk11 (fun i hi e => by have := (hS i e).2; omega))
  have HT11 := Lib.hid (HT10.out.kp hk11 (fun e => by have := (hS _ e).2; omega))
  have HX11 := Lib.hid (HX10.out.kp hk11 (fun e => by have := (hS _ e).1; omega))
  have HY11 := Lib.hid (HY10.out.kp hk11 (fun e => by have := (hS _ e).1; omega))
  have HK11 := Lib.hid (show Kp (fun i => i < w5.heap.size) w6 w11 from HK10.out.trans_of hk11 (fun i _ e => (hS i e).1))
  have hz11 := hk11.size
  clear hP11 hown hk11 t0 t1 t2 HT10 HX10 HY10 HP10 HK10 HADD
  go_wp2_with fail
  obtain ⟨sp, hsp⟩ : ∃ sp : Ent → Bool, sp = fun x => spends [pt] x.tx := ⟨_, rfl⟩
  obtain ⟨F, hF⟩ : ∃ F, F = es2.filter sp := ⟨_, rfl⟩
  obtain ⟨N, hN⟩ : ∃ N, N = es2.filter fun x => !sp x := ⟨_, rfl⟩
  have hsum := filter_sum es2 sp
  rw [← hF, ← hN] at hsum
  have HSP := Lib.hid hsp
  have HF := Lib.hid hF
  have HN := Lib.hid hN
  have HGF := Lib.hid (show O14.Good F by rw [hF]; exact HGD2.out.filter sp)
  have HNL := Lib.hid (show N.filter sp = [] by rw [hN]; exact filter_none es2 sp)
  obtain ⟨pre, hpre⟩ : ∃ pre, F = pre ++ [entOf src tx 0] := by
    obtain ⟨pre, hp⟩ := HE0.out
    refine ⟨pre.filter sp, ?_⟩
    rw [hF, hp, List.filter_append]
    congr 1
    rw [List.filter_cons, if_pos (by rw [hsp]; exact HSPN.out)]
    rfl
  have HPRE := Lib.hid hpre
  obtain ⟨nq, hnq⟩ : ∃ nq, nq = F.length := ⟨_, rfl⟩
  obtain ⟨nl, hnl⟩ : ∃ nl, nl = N.length := ⟨_, rfl⟩
  have HNQ := Lib.hid hnq
  have HNLL := Lib.hid hnl
  have hnq1 : 1 ≤ nq := by rw [hnq, hpre]; simp
  have hn8 : nq + nl ≤ 8 := by omega
  have HLEN := Lib.hid (show es2.length = nq + nl by omega)
  have HALL := Lib.hid (fun (T : Nat → Prop) (es : List Ent) (v : Value) (W : World) (h : PoolAt T W O w4.heap.size v es) (hn : es.length ≤ 1000) => all_any T es O w4.heap.size v W h hn)
  have HND2 := Lib.hid HGD2.out.apart
  clear hsp hF hN hsum hpre hnq hnl h82 HE0 HGD2
  refine (HALL.out T1 es2 v' w11 HP11.out (by rw [HLEN.out]; omega)).mono ?_
  rintro e w12 ⟨A12, c12, rfl, _, hb12⟩
  rw [HLEN.out]
  have HB12 := Lib.hid (HB11.out.trans (hb12.mono HB11.out.size))
  have HT12 := Lib.hid (HT11.out.below hb12 HT11.out.lt)
  have HX12 := Lib.hid (HX11.out.below hb12 HX11.out.lt)
  have HY12 := Lib.hid (HY11.out.below hb12 HY11.out.lt)
  have HK12 := Lib.hid (show Kp (fun i => i < w5.heap.size) w6 w12 from HK11.out.trans (Kp.of_below hb12))
  have HP12 := Lib.hid (show PoolAt T1 w12 O w4.heap.size v' es2 from HP11.out.kp' (S := fun _ => False) hb12 (fun _ _ h => h) HP11.out.tO HP11.out.tv)
  have hz12 := hb12.size
  clear hb12 HT11 HX11 HY11 HK11 HP11
  obtain ⟨w13, hw13⟩ : ∃ w13, w13 = w12.alloc (.cells xp.toArray 54) := ⟨_, rfl⟩
  have hb13 : Below w12.heap.size w12 w13 := by rw [hw13]; exact Joins.below_alloc1 _ _
  have HB13 := Lib.hid (HB12.out.trans (hb13.mono HB12.out.size))
  have HT13 := Lib.hid (HT12.out.below hb13 HT12.out.lt)
  have HX13 := Lib.hid (HX12.out.below hb13 HX12.out.lt)
  have HY13 := Lib.hid (HY12.out.below hb13 HY12.out.lt)
  have HK13 := Lib.hid (show Kp (fun i => i < w5.heap.size) w6 w13 from HK12.out.trans (Kp.of_below hb13))
  have HP13 := Lib.hid (show PoolAt T1 w13 O w4.heap.size v' es2 from HP12.out.kp' (S := fun _ => False) hb13 (fun _ _ h => h) HP12.out.tO HP12.out.tv)
  have hz13 := hb13.size
  have HOF := Lib.hid (fun (W : World) (q : Nat) (hbk : Bk W q 54 xp.toArray) => show HashesAt W W.heap.size (some ⟨q, 0, none⟩) [pt] from ids_of_bk (fun x hx => by rw [List.mem_singleton.1 hx]; exact HPT.out) (by
    rw [show [pt].flatMap (fun x : List UInt8 => x.map byteV) = xp by rw [HXP.out]; simp]
    exact hbk))
  have HTK := Lib.hid (fun (T : Nat → Prop) (es : List Ent) (v : Value) (W : World) (q : Nat) (h : PoolAt T W O w4.heap.size v es) (hb : w4.heap.size ≤ W.heap.size) (hn : es.length ≤ 1000) (hq : Bk W q 54 xp.toArray) => show Calls Tryd.prog 30 #[.pointer (some ⟨O, 0, none⟩), .slice (some ⟨q, 0, none⟩) 1 1] W (TakeTo T W O w4.heap.size es sp) by
    rw [HSP.out]
    exact take_any T es O w4.heap.size v [pt] (some ⟨q, 0, none⟩) 1 W.heap.size W h hb hn (HOF.out W q hq) (Nat.le_refl _) (by show 1 ≤ 1000000; omega))
  have HT1 := Lib.hid (HTK.out T1 es2 v' w13 w12.heap.size HP13.out (by omega) (by rw [HLEN.out]; omega) (by rw [hw13]; exact Bk.new _ _ _))
  have HT12B := HT12.out
  clear hb13 HT12 HX12 HY12 HK12 HP12
  go_wp2_with (first
    | (refine wpList_load_row rfl 54 (.tmp 4) rfl q4 (by rfl) 54 xp.toArray (0, 0) _ HT12B Tryd.underlying54 rfl (by rw [List.size_toArray, HXL.out]; exact size_hash0) ?_)
    | (refine wpList_buildOne rfl 36 54 (.tmp 65) rfl xp.toArray (by rfl) Tryd.underlying36 (by rw [List.size_toArray, HXL.out]; exact size_hash0) zs HZ.out (by rw [List.size_toArray, HXL.out]; omega) (by rw [List.size_toArray, HXL.out]; omega) ?_))
  rw [← hw13]
  clear hw13
  refine HT1.out.mono ?_
  rintro e w14 ⟨vt, v14, qs, rfl, g1, g2, g3, g4, g5, g6⟩
  rw [← HF.out] at g3
  rw [← HN.out] at g4
  have hqn : qs.length = nq := by rw [HNQ.out, ← g3, List.length_map]
  obtain ⟨At_, ct, hvt, hqc, _, _, hcell⟩ := own_form g1
  subst hvt
  have hz14 := g6.size
  have HP14 := Lib.hid g4
  have HPO := Lib.hid g2
  have HQS := Lib.hid g3
  have HB14 := Lib.hid (show Below w.heap.size w w14 from Kp.from_elder HB13.out g6 (fun i hi e => by omega))
  have HT14 := Lib.hid (HT13.out.kp g6 (by omega))
  have HX14 := Lib.hid (HX13.out.kp g6 (by omega))
  have HY14 := Lib.hid (HY13.out.kp g6 (by omega))
  have HK14 := Lib.hid (show Kp (fun i => i < w5.heap.size) w6 w14 from HK13.out.trans_of g6 (fun i _ e => by omega))
  generalize Tn T1 w13 v14 = T14 at HP14 HPO
  have HW4 := Lib.hid (show ∀ x ∈ qs, (waitPair x).length = 4 from fun x _ => rfl)
  have HROW := Lib.hid (show ∀ i (hi : i < qs.length), ∃ b, At_ = some ⟨b, 0, none⟩ ∧ b < w14.heap.size ∧ w14.rangeAt b (i * 4) (waitPair qs[i]) from fun i hi => by
    have h0 : (qs.flatMap waitPair)[i * 4 + 0]? = (waitPair qs[i])[0]? := flatMap_index (f := waitPair) (k := 4) qs (fun x hx => HW4.out x hx) i hi 0 (by omega)
    obtain ⟨b, hA, _, hlt, _⟩ := hcell (i * 4 + 0) _ (h0.trans rfl)
    refine ⟨b, hA, hlt, fun j u hu => ?_⟩
    have hj := (List.getElem?_eq_some_iff.1 hu).1
    have := flatMap_index (f := waitPair) (k := 4) qs (fun x hx => HW4.out x hx) i hi j hj
    obtain ⟨b', hA', _, _, hcj⟩ := hcell (i * 4 + j) u (this.trans hu)
    rw [hA] at hA'
    injection hA' with hA'
    injection hA' with hA' _
    subst hA'
    exact hcj)
  rw [hqn]
  rw [hqn] at hqc
  have HQN := Lib.hid hqn
  clear g1 g2 g3 g4 g5 g6 hcell HT13 HX13 HY13 HK13 HP13 HT1 HT12B hqn
  have hsub : (nq : Int) + (nl : Int) - (nq : Int) = (nl : Int) := by omega
  have hnq0 : ¬ (nq : Int) = 0 := by omega
  have HAL2 := Lib.hid (HALL.out T14 N v14 w14 HP14.out (by rw [← HNLL.out]; omega))
  rw [← HNLL.out] at HAL2
  go_wp2_with fail
  refine HAL2.out.mono ?_
  rintro e w15 ⟨A15, c15, rfl, _, hb15⟩
  have HB15 := Lib.hid (HB14.out.trans (hb15.mono HB14.out.size))
  have HBL15 := Lib.hid hb15
  have hz15 := hb15.size
  clear hb15 HAL2
  go_wp2_with fail
  have HPZ := zero_pt
  have HPZL := Lib.hid (show (ptCells ⟨List.replicate 32 0, 0, []⟩).toArray.size = 33 by simp [ptCells])
  generalize (ptCells ⟨List.replicate 32 0, 0, []⟩).toArray = zp at HPZ HPZL
  have HZP := Lib.hid HPZ
  have hZW := zero_wait
  generalize (#[.int .i64 0, .int .u32 0, .slice none 0 0, .slice none 0 0] : Array Value) = zw at hZW
  have HZW := Lib.hid hZW
  have HZWL := Lib.hid (show zw.size = 4 by
    have := zero_wait
    rw [this] at hZW
    simp only [Option.some.injEq, Value.agg.injEq] at hZW
    rw [← hZW]; rfl)
  clear HPZ hZW hsub
  go_loopw [83] (fun iv wr => ∃ i : Nat, iv = .int .i64 (i : Int) ∧ i ≤ nq ∧ Hid (Below w14.heap.size w14 wr)) (fun iv _ => nq - (intOf iv).toNat)
  case atStart => exact ⟨0, rfl, Nat.zero_le _, HBL15⟩
  case round =>
    obtain ⟨i, rfl, hi, hb⟩ := hrel
    have hzr := hb.out.size
    by_cases hlt : i < nq
    · have hlt1 : i < qs.length := by rw [HQN.out]; exact hlt
      obtain ⟨bw, rfl, hbw, hrw⟩ := HROW.out i hlt1
      have hpo : PairOk T14 w14 qs[i] := HPO.out _ (List.getElem_mem hlt1)
      have hltF : i < F.length := by rw [← HNQ.out]; exact hlt
      have hF1 : qs[i].1 = F[i] := by
        have := HQS.out
        subst this
        rw [List.getElem_map]
      have HIDI := Lib.hid (show qs[i].1.id = Txs.id qs[i].1.tx by rw [hF1]; exact (HGF.out.each _ (List.getElem_mem hltF)).1)
      have HSPI := Lib.hid (show spends [pt] qs[i].1.tx = true by
        rw [hF1]
        have hall : ∀ e ∈ F, sp e = true := by rw [HF.out]; exact fun e he => (List.mem_filter.1 he).2
        have := hall _ (List.getElem_mem hltF)
        rw [HSP.out] at this
        exact this)
      have hck : Txs.check qs[i].1.tx = 0 := by rw [hF1]; exact (HGF.out.each _ (List.getElem_mem hltF)).2.1
      have hil : qs[i].1.tx.ins.length ≤ 8 := (Txs.form_iff.1 (Txs.check_ok hck).1).2.1
      have HER := Lib.hid (Txs.idErr_of hck)
      have HLST := Lib.hid (show decide (qs[i].1.id = id) = decide (i + 1 = nq) by
        rw [decide_eq_decide, hF1, HNQ.out, HII.out]
        exact id_last HPRE.out HGF.out.apart hltF)
      have HNOT := Lib.hid (show (N.any fun x => decide (x.id = qs[i].1.id)) = false by
        rw [hF1, List.any_eq_false]
        intro e he
        rw [decide_eq_true_iff]
        intro hid
        have h1 : ∀ e ∈ F, e ∈ es2 ∧ sp e = true := by rw [HF.out]; exact fun e he => List.mem_filter.1 he
        have h2 : ∀ e ∈ N, e ∈ es2 ∧ (!sp e) = true := by rw [HN.out]; exact fun e he => List.mem_filter.1 he
        have h3 := h1 _ (List.getElem_mem hltF)
        have h4 := h2 e he
        have := id_inj HND2.out h4.1 h3.1 hid
        rw [this, h3.2] at h4
        cases h4.2)
      have i1 : (0 : Int) ≤ (i : Int) := by omega
      have i2 : (i : Int) < (nq : Int) := by omega
      generalize qs[i] = x at *
      obtain ⟨⟨hxl, hxf, hxok⟩, Ai, ci, Ao, co, hxi, hxo, htx⟩ := hpo
      obtain ⟨cs4, hcs4⟩ : ∃ cs, cs = waitPair x := ⟨_, rfl⟩
      have HL4 := Lib.hid (show cs4.length = 4 by rw [hcs4]; rfl)
      have hcs4' : cs4 = [.int .i64 x.1.src, .int .u32 (x.1.tx.version : Int), .slice Ai x.1.tx.ins.length ci, .slice Ao x.1.tx.outs.length co] := by rw [hcs4]; unfold waitPair; rw [hxi, hxo]
      have HO4 := Lib.hid (show ∀ u ∈ cs4, u.oneCell' = true by
        rw [hcs4']
        intro u hu
        simp only [List.mem_cons, List.not_mem_nil, or_false] at hu
        rcases hu with rfl | rfl | rfl | rfl <;> rfl)
      rw [← hcs4] at hrw
      have HR4 := Lib.hid (rangeAt_below hrw hb.out hbw)
      obtain ⟨wx, hwx⟩ : ∃ wx, wx = wr.alloc (.cells cs4.toArray 52) := ⟨_, rfl⟩
      have HX16 := Lib.hid (show Bk wx wr.heap.size 52 #[.int .i64 x.1.src, .int .u32 (x.1.tx.version : Int), .slice Ai x.1.tx.ins.length ci, .slice Ao x.1.tx.outs.length co] by rw [hwx, hcs4']; exact Bk.new _ _ _)
      have HBX := Lib.hid (show Below w14.heap.size w14 wx by rw [hwx]; exact hb.out.alloc hb.out.size _)
      have HTXI := Lib.hid (fun W (hW : Below w14.heap.size w14 W) => htx W (Kp.of_below hW))
      obtain ⟨q16, hq16⟩ : ∃ q, q = wr.heap.size := ⟨_, rfl⟩
      rw [← hq16] at HX16
      obtain ⟨tv, htv⟩ : ∃ tv, tv = x.1.tx := ⟨_, rfl⟩
      rw [← htv] at HX16 HTXI HIDI HSPI HER hil
      have HPTS := Lib.hid (fun W (hW : Below w14.heap.size w14 W) => points_any tv Ai Ao ci co W.heap.size W (HTXI.out W hW) (Nat.le_refl _) (by omega))
      have HIDX := Lib.hid (fun W (hb : Below w.heap.size w W) (hW : Below w14.heap.size w14 W) => id_any tv Ai Ao ci co W.heap.size W (HLY.out.below hb) (HTXI.out W hW) (Nat.le_refl _))
      unfold txV at HPTS HIDX
      rw [HER.out] at HIDX
      have HXL2 := Lib.hid hxl
      have hbwx : w14.heap.size ≤ wx.heap.size := HBX.out.size
      have hq16w : q16 < wx.heap.size := HX16.out.lt
      have hq16g : w14.heap.size ≤ q16 := by omega
      clear hrw hF1 hck hxf hxok hxi hxo htx hcs4 hcs4' htv
      go_upto_region 21 with (refine wpList_elem2 rfl rfl rfl rfl 52 (.tmp 86) (.tmp 16) (.tmp 87) (.tmp 85) rfl rfl rfl rfl bw (i * 4) (by rfl) cs4 _ HR4.out Tryd.underlying52 rfl (by rw [HL4.out]; exact size_wait) zw HZW.out (by rw [HZWL.out, HL4.out]) HO4.out (.int .i64 (i : Int)) (by rfl) (by rfl) (by rfl) ?_)
      rw [← hwx, ← hq16]
      clear hwx hq16
      have y1 : wx.cell? ⟨q16, 1, none⟩ = some (.int .u32 (tv.version : Int)) := (HX16.out.cell 1).trans rfl
      have y2 : wx.cell? ⟨q16, 2, none⟩ = some (.slice Ai tv.ins.length ci) := (HX16.out.cell 2).trans rfl
      have y3 : wx.cell? ⟨q16, 3, none⟩ = some (.slice Ao tv.outs.length co) := (HX16.out.cell 3).trans rfl
      go_wp2_with fail
      refine (HPTS.out wx HBX.out).mono ?_
      rintro e wp ⟨Ap, cp, rfl, _, _, hpts, hbp⟩
      have HBP := Lib.hid (HBX.out.trans (hbp.mono HBX.out.size))
      have HX16P := Lib.hid (HX16.out.below hbp HX16.out.lt)
      have HTSP := Lib.hid hpts
      have hzp := hbp.size
      clear hbp hpts y1 y2 y3 HX16 HPTS
      go_wp2_with fail
      obtain ⟨ni, hni⟩ : ∃ ni, ni = tv.ins.length := ⟨_, rfl⟩
      have HNI := Lib.hid hni
      rw [← hni] at hil ⊢
      have HSPB := Lib.hid (show (tv.ins.any fun x => decide (x.hash = pt)) = true by rw [← spends_one]; exact HSPI.out)
      have HTXP := Lib.hid (HT14.out.below HBP.out HT14.out.lt)
      clear hni HSPI
      go_loopw [17, 92] (fun sv iv wr => ∃ (m : Nat) (b : Bool), iv = .int .i64 (m : Int) ∧ m ≤ ni ∧ sv = .bool b ∧ Hid (b = ((tv.ins.take m).any fun x => decide (x.hash = pt))) ∧ Hid (Below wp.heap.size wp wr)) (fun _ iv _ => ni - (intOf iv).toNat)
      case atStart => exact ⟨0, false, rfl, Nat.zero_le _, rfl, Lib.hid (by simp), Lib.hid (Below.refl _ _)⟩
      case round =>
        obtain ⟨m, bb, rfl, hm, rfl, hbd, hb2⟩ := hrel
        have hzr2 := hb2.out.size
        by_cases hlm : m < ni
        · have hlm1 : m < tv.ins.length := by rw [← HNI.out]; exact hlm
          obtain ⟨bp, op, rfl, hbpB, hrp, hokp⟩ := PtsAt.range (At.below HTSP.out hb2.out) hlm1
          have m1 : (0 : Int) ≤ (m : Int) := by omega
          have m2 : (m : Int) < (ni : Int) := by omega
          have HM1 := Lib.hid (show ((tv.ins.take (m + 1)).any fun x => decide (x.hash = pt)) = (bb || decide (tv.ins[m].hash = pt)) by
            rw [List.take_succ_eq_append_getElem hlm1, List.any_append, ← hbd.out]
            simp)
          generalize tv.ins[m] = y at *
          have HRP := Lib.hid hrp
          have HLP := Lib.hid (ptCells_len hokp)
          have HOP := Lib.hid (ptCells_one y)
          obtain ⟨hs, hhs⟩ : ∃ hs, hs = y.hash.map byteV := ⟨_, rfl⟩
          have HHSL := Lib.hid (show hs.length = 32 by rw [hhs, List.length_map]; exact hokp.1)
          have HPC := Lib.hid (show ptCells y = hs ++ [.int .u32 (y.n : Int)] by rw [hhs]; rfl)
          generalize ptCells y = pc at *
          obtain ⟨wy, hwy⟩ : ∃ wy, wy = wr.alloc (.cells pc.toArray 78) := ⟨_, rfl⟩
          have HHR := Lib.hid (show wy.rangeAt wr.heap.size 0 hs from range_head (by have := bk_range (Bk.new wr 78 pc.toArray); rw [← hwy, HPC.out] at this; exact this))
          have HBY := Lib.hid (show Below wp.heap.size wp wy by rw [hwy]; exact hb2.out.alloc hb2.out.size _)
          have HTY := Lib.hid (HTXP.out.below HBY.out HTXP.out.lt)
          obtain ⟨d, hd⟩ : ∃ d, d = decide (y.hash = pt) := ⟨_, rfl⟩
          have HEQ : ∀ W, (binOp .eql 54 (.agg hs.toArray) (.agg xp.toArray)).run Tryd.prog W = .ok (.bool d) W := fun W => by
            have := run_eq_hash W y.hash pt hokp.1 HPT.out
            rw [← hhs, ← HXP.out, ← hd] at this
            exact this
          rw [← hd] at HM1
          have hlm' : m + 1 ≤ ni := hlm
          clear hrp hokp hhs hd
          go_upto_region 25 with (refine wpList_elem rfl rfl rfl 78 (.tmp 94) (.tmp 19) (.tmp 95) rfl rfl rfl bp (op + m * 33) (by rfl) pc _ HRP.out Tryd.underlying78 rfl (by rw [HLP.out]; exact size_pt) zp HZP.out (by rw [HPZL.out, HLP.out]) HOP.out (by rfl) (by rfl) ?_)
          rw [← hwy]
          clear hwy
          cases bb with
          | true =>
            go_wp2_with fail
            go_roundw
            case rel => exact ⟨m + 1, true, by go_num, by omega, rfl, Lib.hid (by rw [HM1.out]; rfl), HBY⟩
            case measure => simp [intOf]; omega
          | false =>
            go_wp2_with (first
              | (refine wpList_load_mid_g (by rfl) 54 (.tmp 98) rfl wr.heap.size 0 (by rfl) hs _ HHR.out Tryd.underlying54 rfl (by rw [HHSL.out]; exact size_hash0) ?_)
              | (refine wpList_load_row_g (by rfl) 54 (.tmp 4) rfl q4 (by rfl) 54 xp.toArray (0, 0) _ HTY.out Tryd.underlying54 rfl (by rw [List.size_toArray, HXL.out]; exact size_hash0) ?_))
            go_roundw
            case rel => exact ⟨m + 1, d, by go_num, by omega, rfl, Lib.hid (by rw [HM1.out]; rfl), HBY⟩
            case measure => simp [intOf]; omega
        · obtain rfl : m = ni := by omega
          have hbt : bb = true := by
            rw [hbd.out, HNI.out, List.take_of_length_le (Nat.le_refl _)]
            exact HSPB.out
          subst hbt
          have HX16R := Lib.hid (HX16P.out.below hb2.out HX16P.out.lt)
          have HBR := Lib.hid (HBP.out.trans (hb2.out.mono HBP.out.size))
          have HBW := Lib.hid (HB14.out.trans (HBR.out.mono HB14.out.size))
          have y1 : wr.cell? ⟨q16, 1, none⟩ = some (.int .u32 (tv.version : Int)) := (HX16R.out.cell 1).trans rfl
          have y2 : wr.cell? ⟨q16, 2, none⟩ = some (.slice Ai tv.ins.length ci) := (HX16R.out.cell 2).trans rfl
          have y3 : wr.cell? ⟨q16, 3, none⟩ = some (.slice Ao tv.outs.length co) := (HX16R.out.cell 3).trans rfl
          have HIDY := Lib.hid (HIDX.out wr HBW.out HBR.out)
          clear hbd HIDX HTSP HSPB
          obtain ⟨ix, hix⟩ : ∃ ix, ix = bytesArr (Txs.id tv) := ⟨_, rfl⟩
          have HIXX := Lib.hid (show ix = (x.1.id.map byteV).toArray by rw [hix, ← HIDI.out]; rfl)
          have HIXS := Lib.hid (show ix.size = 32 by rw [HIXX.out]; simp [HXL2.out])
          have HIX1 := Lib.hid (show ix.all (·.oneCell') = true by rw [hix]; simp [bytesArr, Value.oneCell', byteV])
          rw [← hix] at HIDY
          clear hix
          go_wp2_with fail
          refine HIDY.out.mono ?_
          rintro e wi ⟨rfl, hbi⟩
          have HBI := Lib.hid (HBR.out.trans (hbi.mono HBR.out.size))
          have HBIW := Lib.hid (HBW.out.trans (hbi.mono HBW.out.size))
          clear hbi y1 y2 y3 HIDY HX16R
          go_upto_region 28 with (first
            | (refine wpList_allocOf rfl 54 rfl zs HZ.out ?_)
            | (refine wpList_store_row rfl 54 (.tmp 20) (.tmp 108) rfl wi.heap.size ix (by rfl) (by rfl) 54 zs ?hg2 (by rw [HIXS.out]; exact size_hash) (by rw [HIXS.out]; exact HZL.out) HIX1.out ?_))
          case hg2 => exact Bk.new _ _ _
          obtain ⟨wj, hwj⟩ : ∃ wj, wj = (wi.alloc (.cells zs 54)).setRow wi.heap.size ix := ⟨_, rfl⟩
          have hbj : Below wi.heap.size wi wj := by rw [hwj]; exact below_setRow ((Below.refl _ _).alloc (Nat.le_refl _) _) (Nat.le_refl _) _
          obtain ⟨q20, hq20⟩ : ∃ q, q = wi.heap.size := ⟨_, rfl⟩
          have HJ20 := Lib.hid (show Bk wj q20 54 ix by rw [hwj, hq20]; exact setRow_heap _ _ _ _ _ _ (Bk.new wi _ zs))
          have HBJ := Lib.hid (HBI.out.trans (hbj.mono HBI.out.size))
          have HBJW := Lib.hid (HBIW.out.trans (hbj.mono HBIW.out.size))
          have HJ9 := Lib.hid (HY14.out.below HBJ.out HY14.out.lt)
          rw [← hwj, ← hq20]
          clear hwj hbj hq20
          have HHN := Lib.hid (show Calls Tryd.prog 23 #[.pointer (some ⟨O, 0, none⟩), .agg ix] wj fun e w' => e = .returned (.bool false) ∧ Below wj.heap.size wj w' by
            have := has_any T14 N O w4.heap.size v14 x.1.id HXL2.out wj (HP14.out.kp' (T' := T14) (S := fun _ => False) HBJ.out (fun _ _ h => h) HP14.out.tO HP14.out.tv) (by rw [← HNLL.out]; omega)
            rw [HNOT.out] at this
            rw [HIXX.out]
            exact this)
          go_wp2_with (refine wpList_load_row_g (by rfl) 54 (.tmp 20) rfl q20 (by rfl) 54 ix (0, 0) _ HJ20.out Tryd.underlying54 rfl (by rw [HIXS.out]; exact size_hash0) ?_)
          refine HHN.out.mono ?_
          rintro e wk ⟨rfl, hbk⟩
          have HK20 := Lib.hid (HJ20.out.below hbk HJ20.out.lt)
          have HK9' := Lib.hid (HJ9.out.below hbk HJ9.out.lt)
          have HBK := Lib.hid (HBJ.out.trans (hbk.mono HBJ.out.size))
          clear hbk HHN
          have HEQ0 : ∀ W, (binOp .eql 54 (.agg ix) (.agg ia)).run Tryd.prog W = .ok (.bool (decide (i + 1 = nq))) W := fun W => by
            have := run_eq_hash W x.1.id id HXL2.out HIL.out
            rw [HLST.out] at this
            rw [HIXX.out, HIA.out]
            exact this
          by_cases hla : i + 1 = nq
          · have HEQ : ∀ W, (binOp .eql 54 (.agg ix) (.agg ia)).run Tryd.prog W = .ok (.bool true) W := fun W => by
              rw [HEQ0 W, decide_eq_true hla]
            have il : (i : Int) = (nq : Int) - 1 := by omega
            clear HEQ0
            go_wp2_with (first
              | (refine wpList_load_row_g (by rfl) 54 (.tmp 20) rfl q20 (by rfl) 54 ix (0, 0) _ HK20.out Tryd.underlying54 rfl (by rw [HIXS.out]; exact size_hash0) ?_)
              | (refine wpList_load_row_g (by rfl) 54 (.tmp 9) rfl q9 (by rfl) 54 ia (0, 0) _ HK9'.out Tryd.underlying54 rfl (by rw [HIS.out]; exact size_hash0) ?_))
            go_roundw
            case rel => exact ⟨i + 1, by go_num, by omega, HBK⟩
            case measure => simp [intOf]; omega
          · have HEQ : ∀ W, (binOp .eql 54 (.agg ix) (.agg ia)).run Tryd.prog W = .ok (.bool false) W := fun W => by
              rw [HEQ0 W, decide_eq_false hla]
            have il : ¬ (i : Int) = (nq : Int) - 1 := by omega
            clear HEQ0
            go_wp2_with (first
              | (refine wpList_load_row_g (by rfl) 54 (.tmp 20) rfl q20 (by rfl) 54 ix (0, 0) _ HK20.out Tryd.underlying54 rfl (by rw [HIXS.out]; exact size_hash0) ?_)
              | (refine wpList_load_row_g (by rfl) 54 (.tmp 9) rfl q9 (by rfl) 54 ia (0, 0) _ HK9'.out Tryd.underlying54 rfl (by rw [HIS.out]; exact size_hash0) ?_))
            go_roundw
            case rel => exact ⟨i + 1, by go_num, by omega, HBK⟩
            case measure => simp [intOf]; omega
    · obtain rfl : i = nq := by omega
      have hb15 := hb
      obtain ⟨n1, hn1⟩ : ∃ n1, i = n1 + 1 := ⟨i - 1, by omega⟩
      subst hn1
      have hlt1 : n1 < qs.length := by rw [HQN.out]; omega
      obtain ⟨bw, rfl, hbw, hrw⟩ := HROW.out n1 hlt1
      have hpo : PairOk T14 w14 qs[n1] := HPO.out _ (List.getElem_mem hlt1)
      have hltF : n1 < F.length := by rw [← HNQ.out]; omega
      have hF1 : qs[n1].1 = entOf src tx 0 := by
        have h1 : qs[n1].1 = F[n1] := by
          have := HQS.out
          subst this
          rw [List.getElem_map]
        rw [h1]
        have h2 := HPRE.out
        have h3 : n1 = pre.length := by
          have h4 := HNQ.out
          rw [h2] at h4
          simp at h4
          omega
        subst h3
        have : F[pre.length] = (pre ++ [entOf src tx 0])[pre.length]'(by simp) := by congr 1
        rw [this]
        simp
      generalize qs[n1] = x at *
      obtain ⟨_, Ai, ci, Ao, co, hxi, hxo, htx⟩ := hpo
      rw [hF1] at hxi hxo htx
      obtain ⟨cs4, hcs4⟩ : ∃ cs, cs = waitPair x := ⟨_, rfl⟩
      have HL4 := Lib.hid (show cs4.length = 4 by rw [hcs4]; rfl)
      have hcs4' : cs4 = [.int .i64 src, .int .u32 (tx.version : Int), .slice Ai tx.ins.length ci, .slice Ao tx.outs.length co] := by rw [hcs4]; unfold waitPair; rw [hxi, hxo, hF1]; rfl
      have HO4 := Lib.hid (show ∀ u ∈ cs4, u.oneCell' = true by
        rw [hcs4']
        intro u hu
        simp only [List.mem_cons, List.not_mem_nil, or_false] at hu
        rcases hu with rfl | rfl | rfl | rfl <;> rfl)
      rw [← hcs4] at hrw
      have HR4 := Lib.hid (rangeAt_below hrw hb.out hbw)
      have hzr := hb.out.size
      obtain ⟨wx, hwx⟩ : ∃ wx, wx = wr.alloc (.cells cs4.toArray 52) := ⟨_, rfl⟩
      have HXL2 := Lib.hid (show Bk wx wr.heap.size 52 #[.int .i64 src, .int .u32 (tx.version : Int), .slice Ai tx.ins.length ci, .slice Ao tx.outs.length co] by rw [hwx, hcs4']; exact Bk.new _ _ _)
      have HBX := Lib.hid (show Below w14.heap.size w14 wx by rw [hwx]; exact hb.out.alloc hb.out.size _)
      have HBXW := Lib.hid (HB14.out.trans (HBX.out.mono HB14.out.size))
      have HSAME := Lib.hid (same7_any tx tx Ai Ao A1 A2 ci co c1 c2 wx.heap.size wx.heap.size wx (htx wx (Kp.of_below HBX.out)) (HNEW.out wx (HK14.out.trans (Kp.of_below HBX.out))) (Nat.le_refl _) (Nat.le_refl _))
      rw [decide_eq_true rfl] at HSAME
      unfold txV at HSAME
      have HX8X := Lib.hid (HX14.out.below HBX.out HX14.out.lt)
      have HT4X := Lib.hid (HT14.out.below HBX.out HT14.out.lt)
      obtain ⟨q22, hq22⟩ : ∃ q, q = wr.heap.size := ⟨_, rfl⟩
      rw [← hq22] at HXL2
      have i1 : (0 : Int) ≤ (n1 : Int) := by omega
      have i2 : (n1 : Int) < (n1 : Int) + 1 := by omega
      have hs1 : (n1 : Int) + 1 - 1 = (n1 : Int) := by omega
      clear hrw hF1 hxi hxo htx hcs4 hcs4'
      go_upto_region 32 with (refine wpList_elem rfl rfl rfl 52 (.tmp 133) (.tmp 22) (.tmp 134) rfl rfl rfl bw (n1 * 4) (by rfl) cs4 _ HR4.out Tryd.underlying52 rfl (by rw [HL4.out]; exact size_wait) zw HZW.out (by rw [HZWL.out, HL4.out]) HO4.out (by rfl) (by rfl) ?_)
      rw [← hwx, ← hq22]
      clear hwx hq22
      have y0 : wx.cell? ⟨q22, 0, none⟩ = some (.int .i64 src) := (HXL2.out.cell 0).trans rfl
      have y1 : wx.cell? ⟨q22, 1, none⟩ = some (.int .u32 (tx.version : Int)) := (HXL2.out.cell 1).trans rfl
      have y2 : wx.cell? ⟨q22, 2, none⟩ = some (.slice Ai tx.ins.length ci) := (HXL2.out.cell 2).trans rfl
      have y3 : wx.cell? ⟨q22, 3, none⟩ = some (.slice Ao tx.outs.length co) := (HXL2.out.cell 3).trans rfl
      obtain ⟨t0, t1, t2⟩ := tx3 HX8X.out
      go_wp2_with fail
      refine HSAME.out.mono ?_
      rintro e ws ⟨rfl, hbs⟩
      have HBS := Lib.hid (HBX.out.trans (hbs.mono HBX.out.size))
      have HBSW := Lib.hid (HBXW.out.trans (hbs.mono HBXW.out.size))
      have HT4S := Lib.hid (HT4X.out.below hbs HT4X.out.lt)
      have hzs := HBS.out.size
      clear hbs y0 y1 y2 y3 t0 t1 t2 HSAME
      obtain ⟨wt, hwt⟩ : ∃ wt, wt = ws.alloc (.cells xp.toArray 54) := ⟨_, rfl⟩
      have hbt : Below ws.heap.size ws wt := by rw [hwt]; exact Joins.below_alloc1 _ _
      have HBT := Lib.hid (HBS.out.trans (hbt.mono HBS.out.size))
      have HBTW := Lib.hid (HBSW.out.trans (hbt.mono HBSW.out.size))
      have HT2 := Lib.hid (HTK.out T14 N v14 wt ws.heap.size (HP14.out.kp' (T' := T14) (S := fun _ => False) HBT.out (fun _ _ h => h) HP14.out.tO HP14.out.tv) (by have := HBT.out.size; omega) (by rw [← HNLL.out]; omega) (by rw [hwt]; exact Bk.new _ _ _))
      clear hbt
      go_wp2_with (first
        | (refine wpList_load_row_g (by rfl) 54 (.tmp 4) rfl q4 (by rfl) 54 xp.toArray (0, 0) _ HT4S.out Tryd.underlying54 rfl (by rw [List.size_toArray, HXL.out]; exact size_hash0) ?_)
        | (refine wpList_buildOne_g (by rfl) 36 54 (.tmp 147) rfl xp.toArray (by rfl) Tryd.underlying36 (by rw [List.size_toArray, HXL.out]; exact size_hash0) zs HZ.out (by rw [List.size_toArray, HXL.out]; omega) (by rw [List.size_toArray, HXL.out]; omega) ?_))
      rw [← hwt]
      clear hwt
      refine HT2.out.mono ?_
      rintro e wu ⟨vu, v16, qz, rfl, k1, k2, k3, k4, k5, k6⟩
      rw [HNL.out] at k3
      have hqz : qz = [] := by cases qz with
        | nil => rfl
        | cons a l => simp at k3
      subst hqz
      obtain ⟨Au, cu, hvu, _⟩ := own_form k1
      subst hvu
      rw [List.length_nil]
      have HEND := Lib.hid (show Below w.heap.size w wu from Kp.from_elder HBTW.out k6 (fun i hi e => by omega))
      clear k1 k2 k3 k4 k5 k6 HT2
      go_wp2_with fail
      go_ret
      exact ⟨rfl, HEND.out⟩
end Go.Proofs.YtacbibflhdmcoaaDoor
