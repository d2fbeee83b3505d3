/- OrphC, merged: OrphDo, OrphGrown, OrphSimple, OrphAliveP, OrphAlive. -/
import Derived.Test.YtacbibflhdmcoaaDoorOrphA
import Derived.Test.YtacbibflhdmcoaaDoorOrphB
import Derived.Test.YtacbibflhdmcoaaDoorOrphAdd
import Derived.Test.YtacbibflhdmcoaaDoorTxBuilt
import Derived.Test.YtacbibflhdmcoaaDoorTxGuard
/- An act of the law's script. -/
namespace Go.Proofs.YtacbibflhdmcoaaDoor.O14
open Go.RowKit Go.Deep T7
set_option linter.unusedVariables false
set_option linter.unusedSimpArgs false
set_option maxRecDepth 100000
set_option maxHeartbeats 2000000
attribute [local go_sem ↓] Go.wp_at_zero Go.wp_at_succ

def doEs (es : List Ent) (a : Act) : List Ent :=
  if a.kind = 0 then addEs es a.src a.tx a.now else if a.kind = 1 then es.filter (fun x => !spends a.parents x.tx) else if a.kind = 2 then es.filter (fun x => !decide (x.src = a.src)) else es.filter (fun x => !decide (x.fin ≤ a.now))
def doIds (es : List Ent) (a : Act) : List (List UInt8) :=
  if a.kind = 0 then addGone es a.tx else if a.kind = 1 then [] else if a.kind = 2 then (es.filter fun x => decide (x.src = a.src)).map Ent.id else (es.filter fun x => decide (x.fin ≤ a.now)).map Ent.id
def doErr (es : List Ent) (a : Act) : Int := if a.kind = 0 then addErr es a.tx else 0
def doW (es : List Ent) (a : Act) : List Ent := if a.kind = 0 then [] else if a.kind = 1 then es.filter (fun x => spends a.parents x.tx) else []
def DoTo (T : Nat → Prop) (w : World) (O base : Nat) (v : Value) (es : List Ent) (a : Act) (e : Ending) (w' : World) : Prop :=
  ∃ vi vw v' qs, e = .returned (.tuple #[vi, vw, .int .i64 (doErr es a)]) ∧ (∃ A1 c1, vi = .slice A1 (doIds es a).length c1 ∧ HashesAt w' w'.heap.size A1 (doIds es a)) ∧ RowW w' w.heap.size vw qs ∧ (∀ x ∈ qs, PairOk (Tn T w v') w' x) ∧ qs.map (·.1) = doW es a ∧
    PoolAt (Tn T w v') w' O base v' (doEs es a) ∧ (∀ i, v'.ownBlock = some i → v.ownBlock = some i ∨ w.heap.size ≤ i) ∧ Kp (fun i => i = O ∨ v.ownBlock = some i) w w'
theorem PoolAt.less {T T' : Nat → Prop} {w : World} {O base : Nat} {v : Value} {es : List Ent} (h : PoolAt T w O base v es) (ht : ∀ i, i < w.heap.size → T' i → T i) (hT : T' O) (hT2 : ∀ i, v.ownBlock = some i → T' i) : PoolAt T' w O base v es :=
  h.kp (Kp.refl (fun _ => False) w) (fun h => h) (fun _ _ h => h) (fun _ _ h => h.elim) ht hT hT2
theorem Tn.pool {T : Nat → Prop} {w W w' : World} {O base : Nat} {v : Value} {es : List Ent} (h : PoolAt (Tn T W v) w' O base v es) (hs : w.heap.size ≤ W.heap.size) (hO : O < w.heap.size) (hT : T O) : PoolAt (Tn T w v) w' O base v es :=
  h.less (fun i _ h => h.up hs) (.inl ⟨hT, hO⟩) (fun i hi => .inr hi)
theorem RowW.nil (w : World) (base : Nat) : RowW w base (.slice none 0 0) [] := World.ownsRow_nil _ _ _ _
theorem nilIds (w : World) (l : List (List UInt8)) (h : l = []) : ∃ A1 c1, Value.slice none 0 0 = .slice A1 l.length c1 ∧ HashesAt w w.heap.size A1 l := by subst h; exact ⟨none, 0, rfl, fun i hi => by simp at hi⟩
theorem do_add (T : Nat → Prop) (es : List Ent) (O base : Nat) (v : Value) (a : Act) (Ai Ao Ap : Option Addr) (ci co cp B : Nat) (w : World) (hlay : Laid w) (h : PoolAt T w O base v es) (hbase : base ≤ w.heap.size) (h8 : es.length ≤ 8) (hB : B ≤ w.heap.size) (hnow : a.now < 18446744073709551616)
    (htx : TxAt w B a.tx Ai ci Ao co) (hat : HashesAt w B Ap a.parents) (hp : a.parents.length ≤ 1000000) (hk : a.kind = 0) :
    Calls Tryd.prog 12 #[.pointer (some ⟨O, 0, none⟩), .agg (actCells a (.slice Ai a.tx.ins.length ci) (.slice Ao a.tx.outs.length co) (.slice Ap a.parents.length cp)).toArray] w (DoTo T w O base v es a) := by
  obtain ⟨w1, hw1⟩ : ∃ w1, w1 = w.alloc (.cells (actCells a (.slice Ai a.tx.ins.length ci) (.slice Ao a.tx.outs.length co) (.slice Ap a.parents.length cp)).toArray 39) := ⟨_, rfl⟩
  have hb1 : Below w.heap.size w w1 := by rw [hw1]; exact Joins.below_alloc1 _ _
  have hz1 : w1.heap.size = w.heap.size + 1 := by rw [hw1]; simp
  have hOl : O < w.heap.size := h.bk.lt
  have hvl := h.row.lt
  have hTO := h.tO
  have hP1 : PoolAt T w1 O base v es := h.kp' (S := fun _ => False) hb1 (fun _ _ h => h) h.tO h.tv
  obtain ⟨k0, k1, k2, k3, k4, k5, k6⟩ := act_cells (w := w1) (g := w.heap.size) (a := a) (i := .slice Ai a.tx.ins.length ci) (o := .slice Ao a.tx.outs.length co) (p := .slice Ap a.parents.length cp) (by rw [hw1]; exact Bk.new _ _ _)
  have HB1 := Lib.hid hb1
  have HC := Lib.hid (add_any T es O base v a.src a.tx Ai Ao ci co B a.now w1 (hlay.below hb1) hP1 (htx.below (hb1.mono hB)) (by omega) (by omega) h8 hnow)
  clear hP1 h
  unfold txV at HC
  have HK := Lib.hid hk
  clear hk
  unfold actCells at hw1 ⊢
  go_enter Tryd.func12, Tryd.ntmps12
  go_upto_region 1 with (fail)
  rw [← hw1]
  clear hw1
  have hk := HK.out
  go_wp2_with fail
  refine HC.out.mono ?_
  rintro e w2 ⟨A1, c1, v', rfl, h1, h2, h3, h4, h5, h6⟩
  go_wp2_with fail
  go_ret3
  have e1 : doErr es a = addErr es a.tx := by unfold doErr; rw [if_pos hk]
  have e2 : doIds es a = addGone es a.tx := by unfold doIds; rw [if_pos hk]
  have e3 : doEs es a = addEs es a.src a.tx a.now := by unfold doEs; rw [if_pos hk]
  have e4 : doW es a = [] := by unfold doW; rw [if_pos hk]
  refine ⟨.slice A1 (addGone es a.tx).length c1, .slice none 0 0, v', [], by rw [e1]; rfl, by rw [e2]; exact ⟨A1, c1, rfl, h3⟩, RowW.nil _ _, fun x hx => by simp at hx, by rw [e4]; rfl, by rw [e3]; exact Tn.pool h4 (by omega) hOl hTO, fun i hi => h5.elim (fun e => .inl (e ▸ hi)) (fun ⟨g, h, h'⟩ => .inr (by have := Option.some.inj (h.symm.trans hi); omega)), (Kp.of_below HB1.out).trans_of h6 (fun i _ h => h)⟩
theorem do_take (T : Nat → Prop) (es : List Ent) (O base : Nat) (v : Value) (a : Act) (Ai Ao Ap : Option Addr) (ci co cp B : Nat) (w : World) (hlay : Laid w) (h : PoolAt T w O base v es) (hbase : base ≤ w.heap.size) (h8 : es.length ≤ 8) (hB : B ≤ w.heap.size) (hnow : a.now < 18446744073709551616)
    (htx : TxAt w B a.tx Ai ci Ao co) (hat : HashesAt w B Ap a.parents) (hp : a.parents.length ≤ 1000000) (hk : a.kind = 1) :
    Calls Tryd.prog 12 #[.pointer (some ⟨O, 0, none⟩), .agg (actCells a (.slice Ai a.tx.ins.length ci) (.slice Ao a.tx.outs.length co) (.slice Ap a.parents.length cp)).toArray] w (DoTo T w O base v es a) := by
  obtain ⟨w1, hw1⟩ : ∃ w1, w1 = w.alloc (.cells (actCells a (.slice Ai a.tx.ins.length ci) (.slice Ao a.tx.outs.length co) (.slice Ap a.parents.length cp)).toArray 39) := ⟨_, rfl⟩
  have hb1 : Below w.heap.size w w1 := by rw [hw1]; exact Joins.below_alloc1 _ _
  have hz1 : w1.heap.size = w.heap.size + 1 := by rw [hw1]; simp
  have hOl : O < w.heap.size := h.bk.lt
  have hvl := h.row.lt
  have hTO := h.tO
  have hP1 : PoolAt T w1 O base v es := h.kp' (S := fun _ => False) hb1 (fun _ _ h => h) h.tO h.tv
  obtain ⟨k0, k1, k2, k3, k4, k5, k6⟩ := act_cells (w := w1) (g := w.heap.size) (a := a) (i := .slice Ai a.tx.ins.length ci) (o := .slice Ao a.tx.outs.length co) (p := .slice Ap a.parents.length cp) (by rw [hw1]; exact Bk.new _ _ _)
  have HB1 := Lib.hid hb1
  have hk0 : ¬ a.kind = 0 := by omega
  have HC := Lib.hid (take_any T es O base v a.parents Ap cp B w1 hP1 (by omega) (by omega) (At.below hat (hb1.mono hB)) (by omega) hp)
  clear hP1 h
  have HK := Lib.hid hk
  have HK0 := Lib.hid hk0
  clear hk hk0
  unfold actCells at hw1 ⊢
  go_enter Tryd.func12, Tryd.ntmps12
  go_upto_region 1 with (fail)
  rw [← hw1]
  clear hw1
  have hk := HK.out
  have hk0 := HK0.out
  go_wp2_with fail
  refine HC.out.mono ?_
  rintro e w2 ⟨vt, v', qs, rfl, h1, h2, h3, h4, h5, h6⟩
  go_wp2_with fail
  go_ret3
  have e1 : doErr es a = 0 := by unfold doErr; rw [if_neg hk0]
  have e2 : doIds es a = [] := by unfold doIds; rw [if_neg hk0, if_pos hk]
  have e3 : doEs es a = es.filter (fun x => !spends a.parents x.tx) := by unfold doEs; rw [if_neg hk0, if_pos hk]
  have e4 : doW es a = es.filter (fun x => spends a.parents x.tx) := by unfold doW; rw [if_neg hk0, if_pos hk]
  refine ⟨.slice none 0 0, vt, v', qs, by rw [e1]; rfl, nilIds _ _ e2, own_mono h1 (by omega), fun x hx => (h2 x hx).step (S := fun _ => False) (Kp.refl _ _) (fun _ _ h => h.elim) (fun i _ h => h.up (by omega)), by rw [e4]; exact h3, by rw [e3]; exact Tn.pool h4 (by omega) hOl hTO, fun i hi => .inr (by have := h5 i hi; omega), (Kp.of_below HB1.out).trans_of h6 (fun i _ h => .inl h)⟩
theorem do_leave (T : Nat → Prop) (es : List Ent) (O base : Nat) (v : Value) (a : Act) (Ai Ao Ap : Option Addr) (ci co cp B : Nat) (w : World) (hlay : Laid w) (h : PoolAt T w O base v es) (hbase : base ≤ w.heap.size) (h8 : es.length ≤ 8) (hB : B ≤ w.heap.size) (hnow : a.now < 18446744073709551616)
    (htx : TxAt w B a.tx Ai ci Ao co) (hat : HashesAt w B Ap a.parents) (hp : a.parents.length ≤ 1000000) (hk : a.kind = 2) :
    Calls Tryd.prog 12 #[.pointer (some ⟨O, 0, none⟩), .agg (actCells a (.slice Ai a.tx.ins.length ci) (.slice Ao a.tx.outs.length co) (.slice Ap a.parents.length cp)).toArray] w (DoTo T w O base v es a) := by
  obtain ⟨w1, hw1⟩ : ∃ w1, w1 = w.alloc (.cells (actCells a (.slice Ai a.tx.ins.length ci) (.slice Ao a.tx.outs.length co) (.slice Ap a.parents.length cp)).toArray 39) := ⟨_, rfl⟩
  have hb1 : Below w.heap.size w w1 := by rw [hw1]; exact Joins.below_alloc1 _ _
  have hz1 : w1.heap.size = w.heap.size + 1 := by rw [hw1]; simp
  have hOl : O < w.heap.size := h.bk.lt
  have hvl := h.row.lt
  have hTO := h.tO
  have hP1 : PoolAt T w1 O base v es := h.kp' (S := fun _ => False) hb1 (fun _ _ h => h) h.tO h.tv
  obtain ⟨k0, k1, k2, k3, k4, k5, k6⟩ := act_cells (w := w1) (g := w.heap.size) (a := a) (i := .slice Ai a.tx.ins.length ci) (o := .slice Ao a.tx.outs.length co) (p := .slice Ap a.parents.length cp) (by rw [hw1]; exact Bk.new _ _ _)
  have HB1 := Lib.hid hb1
  have hk0 : ¬ a.kind = 0 := by omega
  have hk1 : ¬ a.kind = 1 := by omega
  have HC := Lib.hid (leave_any T es O base v a.src w1 hP1 (by omega) (by omega))
  clear hP1 h
  have HK := Lib.hid hk
  have HK0 := Lib.hid hk0
  have HK1 := Lib.hid hk1
  clear hk hk0 hk1
  unfold actCells at hw1 ⊢
  go_enter Tryd.func12, Tryd.ntmps12
  go_upto_region 1 with (fail)
  rw [← hw1]
  clear hw1
  have hk := HK.out
  have hk0 := HK0.out
  have hk1 := HK1.out
  go_wp2_with fail
  refine HC.out.mono ?_
  rintro e w2 ⟨vi, v', rfl, h3, h4, h5, h6⟩
  obtain ⟨A1, c1, rfl, _, _, hat1⟩ := h3.at_
  go_wp2_with fail
  go_ret3
  have e1 : doErr es a = 0 := by unfold doErr; rw [if_neg hk0]
  have e2 : doIds es a = (es.filter fun x => decide (x.src = a.src)).map Ent.id := by unfold doIds; rw [if_neg hk0, if_neg hk1, if_pos hk]
  have e3 : doEs es a = es.filter (fun x => !decide (x.src = a.src)) := by unfold doEs; rw [if_neg hk0, if_neg hk1, if_pos hk]
  have e4 : doW es a = [] := by unfold doW; rw [if_neg hk0, if_neg hk1]
  refine ⟨.slice A1 (es.filter fun x => decide (x.src = a.src)).length c1, .slice none 0 0, v', [], by rw [e1]; rfl, by rw [e2]; exact ⟨A1, c1, by rw [List.length_map], hat1⟩, RowW.nil _ _, fun x hx => by simp at hx, by rw [e4]; rfl, by rw [e3]; exact Tn.pool h4 (by omega) hOl hTO, fun i hi => .inr (by have := h5 i hi; omega), (Kp.of_below HB1.out).trans_of h6 (fun i _ h => .inl h)⟩
theorem do_expire (T : Nat → Prop) (es : List Ent) (O base : Nat) (v : Value) (a : Act) (Ai Ao Ap : Option Addr) (ci co cp B : Nat) (w : World) (hlay : Laid w) (h : PoolAt T w O base v es) (hbase : base ≤ w.heap.size) (h8 : es.length ≤ 8) (hB : B ≤ w.heap.size) (hnow : a.now < 18446744073709551616)
    (htx : TxAt w B a.tx Ai ci Ao co) (hat : HashesAt w B Ap a.parents) (hp : a.parents.length ≤ 1000000) (hk0 : ¬ a.kind = 0) (hk1 : ¬ a.kind = 1) (hk2 : ¬ a.kind = 2) :
    Calls Tryd.prog 12 #[.pointer (some ⟨O, 0, none⟩), .agg (actCells a (.slice Ai a.tx.ins.length ci) (.slice Ao a.tx.outs.length co) (.slice Ap a.parents.length cp)).toArray] w (DoTo T w O base v es a) := by
  obtain ⟨w1, hw1⟩ : ∃ w1, w1 = w.alloc (.cells (actCells a (.slice Ai a.tx.ins.length ci) (.slice Ao a.tx.outs.length co) (.slice Ap a.parents.length cp)).toArray 39) := ⟨_, rfl⟩
  have hb1 : Below w.heap.size w w1 := by rw [hw1]; exact Joins.below_alloc1 _ _
  have hz1 : w1.heap.size = w.heap.size + 1 := by rw [hw1]; simp
  have hOl : O < w.heap.size := h.bk.lt
  have hvl := h.row.lt
  have hTO := h.tO
  have hP1 : PoolAt T w1 O base v es := h.kp' (S := fun _ => False) hb1 (fun _ _ h => h) h.tO h.tv
  obtain ⟨k0, k1, k2, k3, k4, k5, k6⟩ := act_cells (w := w1) (g := w.heap.size) (a := a) (i := .slice Ai a.tx.ins.length ci) (o := .slice Ao a.tx.outs.length co) (p := .slice Ap a.parents.length cp) (by rw [hw1]; exact Bk.new _ _ _)
  have HB1 := Lib.hid hb1
  have HC := Lib.hid (expire_any T es O base v a.now w1 hP1 (by omega) (by omega))
  clear hP1 h
  have HK0 := Lib.hid hk0
  have HK1 := Lib.hid hk1
  have HK2 := Lib.hid hk2
  clear hk0 hk1 hk2
  unfold actCells at hw1 ⊢
  go_enter Tryd.func12, Tryd.ntmps12
  go_upto_region 1 with (fail)
  rw [← hw1]
  clear hw1
  have hk0 := HK0.out
  have hk1 := HK1.out
  have hk2 := HK2.out
  go_wp2_with fail
  refine HC.out.mono ?_
  rintro e w2 ⟨vi, v', rfl, h3, h4, h5, h6⟩
  obtain ⟨A1, c1, rfl, _, _, hat1⟩ := h3.at_
  go_wp2_with fail
  go_ret3
  have e1 : doErr es a = 0 := by unfold doErr; rw [if_neg hk0]
  have e2 : doIds es a = (es.filter fun x => decide (x.fin ≤ a.now)).map Ent.id := by unfold doIds; rw [if_neg hk0, if_neg hk1, if_neg hk2]
  have e3 : doEs es a = es.filter (fun x => !decide (x.fin ≤ a.now)) := by unfold doEs; rw [if_neg hk0, if_neg hk1, if_neg hk2]
  have e4 : doW es a = [] := by unfold doW; rw [if_neg hk0, if_neg hk1]
  refine ⟨.slice A1 (es.filter fun x => decide (x.fin ≤ a.now)).length c1, .slice none 0 0, v', [], by rw [e1]; rfl, by rw [e2]; exact ⟨A1, c1, by rw [List.length_map], hat1⟩, RowW.nil _ _, fun x hx => by simp at hx, by rw [e4]; rfl, by rw [e3]; exact Tn.pool h4 (by omega) hOl hTO, fun i hi => .inr (by have := h5 i hi; omega), (Kp.of_below HB1.out).trans_of h6 (fun i _ h => .inl h)⟩
theorem do_any (T : Nat → Prop) (es : List Ent) (O base : Nat) (v : Value) (a : Act) (Ai Ao Ap : Option Addr) (ci co cp B : Nat) (w : World) (hlay : Laid w) (h : PoolAt T w O base v es) (hbase : base ≤ w.heap.size) (h8 : es.length ≤ 8) (hB : B ≤ w.heap.size) (hnow : a.now < 18446744073709551616)
    (htx : TxAt w B a.tx Ai ci Ao co) (hat : HashesAt w B Ap a.parents) (hp : a.parents.length ≤ 1000000) :
    Calls Tryd.prog 12 #[.pointer (some ⟨O, 0, none⟩), .agg (actCells a (.slice Ai a.tx.ins.length ci) (.slice Ao a.tx.outs.length co) (.slice Ap a.parents.length cp)).toArray] w (DoTo T w O base v es a) := by
  by_cases h0 : a.kind = 0
  · exact do_add T es O base v a Ai Ao Ap ci co cp B w hlay h hbase h8 hB hnow htx hat hp h0
  by_cases h1 : a.kind = 1
  · exact do_take T es O base v a Ai Ao Ap ci co cp B w hlay h hbase h8 hB hnow htx hat hp h1
  by_cases h2 : a.kind = 2
  · exact do_leave T es O base v a Ai Ao Ap ci co cp B w hlay h hbase h8 hB hnow htx hat hp h2
  · exact do_expire T es O base v a Ai Ao Ap ci co cp B w hlay h hbase h8 hB hnow htx hat hp h0 h1 h2
end Go.Proofs.YtacbibflhdmcoaaDoor.O14
/- A pool behind acts: in plain Lean and walked. -/
namespace Go.Proofs.YtacbibflhdmcoaaDoor.O14
open Go.RowKit Go.Deep T7
set_option linter.unusedVariables false
set_option linter.unusedSimpArgs false
set_option maxRecDepth 100000
set_option maxHeartbeats 2000000
attribute [local go_sem ↓] Go.wp_at_zero Go.wp_at_succ

def runEs (l : List Act) : List Ent := l.foldl doEs []
theorem runEs_snoc (l : List Act) (a : Act) : runEs (l ++ [a]) = doEs (runEs l) a := by unfold runEs; rw [List.foldl_append]; rfl
/-- what holds of all that wait -/
structure Good (es : List Ent) : Prop where
  few : es.length ≤ 8
  apart : (es.map Ent.id).Nodup
  each : ∀ e ∈ es, e.id = Txs.id e.tx ∧ Txs.check e.tx = 0 ∧ e.fin ≤ 18446744073709551615
theorem Good.nil : Good [] := ⟨by simp, by simp, by simp⟩
theorem Good.filter {es : List Ent} (h : Good es) (p : Ent → Bool) : Good (es.filter p) :=
  ⟨Nat.le_trans (List.length_filter_le _ _) h.few, h.apart.sublist (List.filter_sublist.map _), fun e he => h.each e (List.mem_filter.1 he).1⟩
theorem Good.drop {es : List Ent} (h : (es.map Ent.id).Nodup) (k : Nat) : ((es.drop k).map Ent.id).Nodup := h.sublist ((List.drop_sublist k es).map _)
theorem hasId_false {es : List Ent} {id : List UInt8} (h : hasId es id = false) : id ∉ es.map Ent.id := by
  intro hm
  obtain ⟨e, he, hi⟩ := List.mem_map.1 hm
  have := (List.any_eq_true (l := es) (p := fun x : Ent => decide (x.id = id))).2 ⟨e, he, by simpa using hi⟩
  unfold hasId at h
  rw [h] at this
  cases this
theorem addErr_zero {es : List Ent} {t : Txs.Tx} (h : addErr es t = 0) : Txs.check t = 0 ∧ hasId es (Txs.id t) = false := by
  unfold addErr at h
  split at h
  · rename_i hc
    cases hh : hasId es (Txs.id t) with
    | true => rw [hh] at h; simp at h
    | false => exact ⟨hc, rfl⟩
  · rename_i hc; exact absurd h hc
theorem Good.snoc {es : List Ent} (h : Good es) {src : Int} {t : Txs.Tx} {now : Nat} (he : addErr es t = 0) : ((es ++ [entOf src t now]).map Ent.id).Nodup ∧ ∀ e ∈ es ++ [entOf src t now], e.id = Txs.id e.tx ∧ Txs.check e.tx = 0 ∧ e.fin ≤ 18446744073709551615 := by
  obtain ⟨hc, hh⟩ := addErr_zero he
  refine ⟨?_, fun e hm => ?_⟩
  · rw [List.map_append, List.nodup_append]
    refine ⟨h.apart, by simp, fun a ha b hb => ?_⟩
    simp only [List.map_cons, List.map_nil, List.mem_singleton] at hb
    subst hb
    intro e
    rw [e] at ha
    exact hasId_false hh ha
  · rcases List.mem_append.1 hm with hm | hm
    · exact h.each e hm
    · rw [List.mem_singleton.1 hm]
      exact ⟨rfl, hc, by show min _ _ ≤ _; omega⟩
theorem Good.add {es : List Ent} (h : Good es) (src : Int) (t : Txs.Tx) (now : Nat) : Good (addEs es src t now) := by
  unfold addEs
  by_cases he : addErr es t = 0
  · obtain ⟨h1, h2⟩ := h.snoc (src := src) (now := now) he
    rw [if_pos he]
    by_cases h8 : es.length < 8
    · rw [if_pos h8]
      exact ⟨by rw [List.length_append]; simp; omega, h1, h2⟩
    · rw [if_neg h8]
      have := h.few
      exact ⟨by rw [List.length_drop, List.length_append]; simp; omega, Good.drop h1 1, fun e hm => h2 e (List.mem_of_mem_drop hm)⟩
  · rw [if_neg he]; exact h
theorem Good.do_ {es : List Ent} (h : Good es) (a : Act) : Good (doEs es a) := by
  unfold doEs
  split
  · exact h.add _ _ _
  · split
    · exact h.filter _
    · split <;> exact h.filter _
theorem good_run (l : List Act) : Good (runEs l) := by
  unfold runEs
  have : ∀ (es : List Ent), Good es → Good (l.foldl doEs es) := by
    induction l with
    | nil => intro es h; exact h
    | cons a l ih => intro es h; exact ih _ (h.do_ a)
  exact this [] .nil
/-- the blocks that a pool behind elder memory B may change, or that are elder -/
def PU (B O : Nat) (v : Value) : Nat → Prop := fun i => i < B ∨ i = O ∨ v.ownBlock = some i
theorem PU.next {B O base : Nat} {v v' : Value} {w w' : World} {es : List Ent} (h : PoolAt (Tn (PU B O v) w v') w' O base v' es) (hB : B ≤ w.heap.size) (hO : O < w.heap.size) : PoolAt (PU B O v') w' O base v' es :=
  h.less (fun i _ hi => by
    rcases hi with hi | hi | hi
    · exact .inl ⟨.inl hi, by omega⟩
    · exact .inl ⟨.inr (.inl hi), by omega⟩
    · exact .inr hi) (.inr (.inl rfl)) (fun i hi => .inr (.inr hi))
theorem grown_any (l : List Act) (A : Option Addr) (c B : Nat) (w : World) (hlay : Laid w) (h : ActsAt w B A l) (hB : B ≤ w.heap.size) (hl : l.length ≤ 1000) (hp : ∀ a ∈ l, a.parents.length ≤ 1000000) :
    Calls Tryd.prog 21 #[.slice A l.length c] w fun e w' => ∃ O v, e = .returned (.pointer (some ⟨O, 0, none⟩)) ∧ w.heap.size ≤ O ∧ PoolAt (PU w.heap.size O v) w' O w.heap.size v (runEs l) ∧ Below w.heap.size w w' := by
  have HI := Lib.hid h
  have HLY := Lib.hid hlay
  have HNEW := Lib.hid (new_any w)
  have hZA := zero_act
  generalize (#[.int .i64 0, .int .i64 0, .int .u32 0, .slice none 0 0, .slice none 0 0, .slice none 0 0, .int .u64 0] : Array Value) = za at hZA
  have HZA := Lib.hid hZA
  have HZAL := Lib.hid (show za.size = 7 by
    have := zero_act
    rw [this] at hZA
    simp only [Option.some.injEq, Value.agg.injEq] at hZA
    rw [← hZA]; rfl)
  clear hZA h hlay
  go_enter Tryd.func21, Tryd.ntmps21
  go_wp2_with fail
  refine HNEW.out.mono ?_
  rintro e w1 ⟨rfl, hbk, hb1, hz1⟩
  obtain ⟨O, hO⟩ : ∃ O, O = w.heap.size := ⟨_, rfl⟩
  rw [← hO] at hbk ⊢
  have HP1 := Lib.hid (show PoolAt (PU w.heap.size O (.slice none 0 0)) w1 O w.heap.size (.slice none 0 0) [] from ⟨hbk, RowE.nil _ _ _, by simp [Value.ownBlock], .inr (.inl rfl), fun i hi => by simp [Value.ownBlock] at hi⟩)
  have HB1 := Lib.hid hb1
  have hOl : w.heap.size ≤ O := by omega
  clear hO hbk hb1 HNEW
  go_wp2_with fail
  go_loopw [9] (fun iv wr => ∃ (k : Nat) (v : Value), iv = .int .i64 (k : Int) ∧ k ≤ l.length ∧ Hid (PoolAt (PU w.heap.size O v) wr O w.heap.size v (runEs (l.take k))) ∧ Hid (Below w.heap.size w wr)) (fun iv _ => l.length - (intOf iv).toNat)
  case atStart => exact ⟨0, _, rfl, Nat.zero_le _, Lib.hid (by rw [List.take_zero]; exact HP1.out), HB1⟩
  case round =>
    obtain ⟨k, v, rfl, hk, hP, hb⟩ := hrel
    by_cases hlt : k < l.length
    · obtain ⟨b, off, Ai, ci, Ao, co, Ap, cp, rfl, hbB, hr, hnow, htx, hcp, hmp, hat⟩ := ActsAt.range (ActsAt.below HI.out (hb.out.mono hB)) hlt
      have i1 : (0 : Int) ≤ (k : Int) := by omega
      have i2 : (k : Int) < (l.length : Int) := by omega
      have hpa := hp _ (List.getElem_mem hlt)
      have HTK := Lib.hid (List.take_succ_eq_append_getElem hlt)
      have HK1 := Lib.hid (show k + 1 ≤ l.length from hlt)
      generalize l[k] = x at *
      obtain ⟨cs, hcs⟩ : ∃ cs, cs = actCells x (.slice Ai x.tx.ins.length ci) (.slice Ao x.tx.outs.length co) (.slice Ap x.parents.length cp) := ⟨_, rfl⟩
      have HL := Lib.hid (show cs.length = 7 by rw [hcs]; rfl)
      have HONE := Lib.hid (show ∀ u ∈ cs, u.oneCell' = true by rw [hcs]; exact act_one _ _ _ _ _ _ _ _ _ _)
      rw [← hcs] at hr
      have HR := Lib.hid hr
      obtain ⟨wx, hwx⟩ : ∃ wx, wx = wr.alloc (.cells cs.toArray 39) := ⟨_, rfl⟩
      have hbx : Below wr.heap.size wr wx := by rw [hwx]; exact Joins.below_alloc1 _ _
      have HBX := Lib.hid (hb.out.trans (hbx.mono hb.out.size))
      have hPx : PoolAt (PU w.heap.size O v) wx O w.heap.size v (runEs (l.take k)) := hP.out.kp' (S := fun _ => False) hbx (fun _ _ h => h) hP.out.tO hP.out.tv
      have hbb : Below B wr wx := hbx.mono (Nat.le_trans hB hb.out.size)
      have HDO := Lib.hid (do_any _ _ O w.heap.size v x Ai Ao Ap ci co cp B wx (HLY.out.below HBX.out) hPx HBX.out.size (good_run _).few (Nat.le_trans hB HBX.out.size) hnow (htx.below hbb) (At.below hat hbb) hpa)
      have HPX := Lib.hid hPx
      have hszx : w.heap.size ≤ wx.heap.size := HBX.out.size
      obtain ⟨k0, k1, k2, k3, k4, k5, k6⟩ := act_cells (w := wx) (g := wr.heap.size) (a := x) (i := .slice Ai x.tx.ins.length ci) (o := .slice Ao x.tx.outs.length co) (p := .slice Ap x.parents.length cp) (by rw [hwx, ← hcs]; exact Bk.new _ _ _)
      unfold actCells at HDO
      clear hr hcs hbx hbb htx hat hPx
      go_upto_region 5 with (refine wpList_elem rfl rfl rfl 39 (.tmp 11) (.tmp 5) (.tmp 12) rfl rfl rfl b (off + k * 7) (by rfl) cs _ HR.out Tryd.underlying39 rfl (by rw [HL.out]; exact size_act) za HZA.out (by rw [HZAL.out, HL.out]) HONE.out (by rfl) (by rfl) ?_)
      rw [← hwx]
      clear hwx
      go_wp2_with fail
      refine HDO.out.mono ?_
      rintro e w2 ⟨vi, vw, v', qs, rfl, _, _, _, _, g1, g2, g3⟩
      have HP2 := Lib.hid (show PoolAt (PU w.heap.size O v') w2 O w.heap.size v' (runEs (l.take (k + 1))) by
        rw [HTK.out, runEs_snoc]
        exact PU.next g1 hszx HPX.out.bk.lt)
      have HB2 := Lib.hid (show Below w.heap.size w w2 from Kp.from_elder HBX.out g3 (fun i hi h => by
        rcases h with h | h
        · omega
        · have := (HPX.out.row.lt i h).1; omega))
      clear g1 g2 g3
      go_wp2_with fail
      go_roundw
      case rel => exact ⟨k + 1, v', by go_num, HK1.out, HP2, HB2⟩
      case measure => have := HK1.out; simp [intOf]; omega
    · have hkl : k = l.length := by omega
      rw [hkl, List.take_of_length_le (Nat.le_refl _)] at hP
      clear hkl
      go_wp2_with fail
      go_ret
      exact ⟨O, v, rfl, hOl, hP.out, hb.out⟩
end Go.Proofs.YtacbibflhdmcoaaDoor.O14
/- The law's simple transaction. -/
namespace Go.Proofs.YtacbibflhdmcoaaDoor.O14
open Go.RowKit Go.Deep T7
set_option linter.unusedVariables false
set_option linter.unusedSimpArgs false
set_option maxRecDepth 100000
attribute [local go_sem ↓] Go.wp_at_zero Go.wp_at_succ

def simpleTx (n : Nat) (p : List UInt8) : Txs.Tx := ⟨n, [⟨p, n % 3, []⟩], [⟨1, List.replicate 32 0⟩]⟩
theorem built_in0 (x : Txs.In) (h : x.hash.length = 32) : Tryd.prog.built 91 [(0, .agg (ptCells x).toArray)] = some (inCells x (.slice none 0 0)).toArray := by
  obtain ⟨hash, n, key⟩ := x
  exact list32 (P := fun hash => Tryd.prog.built 91 [(0, .agg (ptCells ⟨hash, n, key⟩).toArray)] = some (inCells ⟨hash, n, key⟩ (.slice none 0 0)).toArray) (fun b0 b1 b2 b3 b4 b5 b6 b7 b8 b9 b10 b11 b12 b13 b14 b15 b16 b17 b18 b19 b20 b21 b22 b23 b24 b25 b26 b27 b28 b29 b30 b31 => by kernel_rfl) hash h
theorem built_out0 : Tryd.prog.built 94 [(0, .int .u64 1)] = some (outCells ⟨1, List.replicate 32 0⟩).toArray := by kernel_rfl
set_option maxHeartbeats 2000000 in
theorem simple_any (n : Nat) (p : List UInt8) (hp : p.length = 32) (hn : n < 4294967296) (w : World) :
    Calls Tryd.prog 31 #[.int .u32 (n : Int), .agg (p.map byteV).toArray] w fun e w' => ∃ A c A' c', e = .returned (txV (simpleTx n p) A c A' c') ∧ TxNew w.heap.size w' (simpleTx n p) A c A' c' ∧ Below w.heap.size w w' := by
  obtain ⟨ia, hia⟩ : ∃ ia, ia = (p.map byteV).toArray := ⟨_, rfl⟩
  have HIS := Lib.hid (show ia.size = 32 by rw [hia]; simp [hp])
  have h3 : ((n : Int)) % 3 = ((n % 3 : Nat) : Int) := by omega
  have HBP := Lib.hid (show Tryd.prog.built 78 [(0, .agg ia), (1, .int .u32 ((n : Int) % 3))] = some (ptCells ⟨p, n % 3, []⟩).toArray by rw [hia, h3]; exact built_pt7 ⟨p, n % 3, []⟩ hp)
  have HBI := Lib.hid (built_in0 ⟨p, n % 3, []⟩ hp)
  have HBO := Lib.hid built_out0
  have HIL := Lib.hid (inCells_len (x := ⟨p, n % 3, []⟩) ⟨hp, by show n % 3 < _; omega⟩ (.slice none 0 0))
  rw [← hia]
  generalize hpa : (ptCells ⟨p, n % 3, []⟩).toArray = pa at *
  generalize hic : inCells ⟨p, n % 3, []⟩ (.slice none 0 0) = ic at *
  generalize hoc : outCells ⟨1, List.replicate 32 0⟩ = oc at *
  have HOL := Lib.hid (show oc.length = 33 by rw [← hoc]; rfl)
  have HZI := zero_in
  have HZL := Lib.hid zeroIn_len
  generalize (inCells ⟨List.replicate 32 0, 0, []⟩ (.slice none 0 0)).toArray = zi at *
  have HZO := zero_out
  have HZOL := Lib.hid zeroOut_len
  generalize (outCells ⟨0, List.replicate 32 0⟩).toArray = zo at *
  have HZI' := Lib.hid HZI
  have HZO' := Lib.hid HZO
  have HIC := Lib.hid hic
  have HOC := Lib.hid hoc
  clear HZI HZO h3 hia hpa hic hoc
  go_enter Tryd.func31, Tryd.ntmps31
  go_upto_region 1 with (fail)
  obtain ⟨w1, hw1⟩ : ∃ w1, w1 = (w.alloc (.cells ia 54)).alloc (.cells #[.int .u32 0, .slice none 0 0, .slice none 0 0] 35) := ⟨_, rfl⟩
  have HX1 := Lib.hid (show Bk w1 w.heap.size 54 ia by rw [hw1]; exact (Bk.new _ _ _).alloc _)
  go_wp2_with (first
    | (refine wpList_load_row rfl 54 (.tmp 3) rfl w.heap.size (by rfl) 54 ia (0, 0) _ ((Bk.new _ _ _).alloc _) Tryd.underlying54 rfl (by rw [HIS.out]; exact size_hash0) ?_)
    | (refine wpList_built_g (by rfl) 78 #[(0, .tmp 6), (1, .tmp 8)] rfl pa ?hb1 ?_)
    | (refine wpList_built_g (by rfl) 91 #[(0, .tmp 9)] rfl ic.toArray ?hb2 ?_)
    | (refine wpList_buildOne rfl 32 91 (.tmp 10) rfl ic.toArray (by rfl) Tryd.underlying32 (by rw [List.size_toArray, HIL.out]; exact size_in) zi HZI'.out (by rw [List.size_toArray, HIL.out]; omega) (by rw [List.size_toArray, HIL.out]; omega) ?_)
    | (refine wpList_built_g (by rfl) 94 #[(0, .const (.int .u64 1))] rfl oc.toArray ?hb3 ?_)
    | (refine wpList_buildOne rfl 33 94 (.tmp 12) rfl oc.toArray (by rfl) Tryd.underlying33 (by rw [List.size_toArray, HOL.out]; exact size_out) zo HZO'.out (by rw [List.size_toArray, HOL.out]; omega) (by rw [List.size_toArray, HOL.out]; omega) ?_))
  case hb1 => exact HBP.out
  case hb2 => exact HBI.out
  case hb3 => exact HBO.out
  obtain ⟨wz, hwz⟩ : ∃ wz, wz = ((((w.alloc (.cells ia 54)).alloc (.cells #[.int .u32 (n : Int), .slice (some ⟨w.heap.size + 1 + 1, 0, none⟩) 1 1, .slice (some ⟨w.heap.size + 1 + 1 + 1, 0, none⟩) 1 1] 35)).alloc (.cells ic.toArray 91)).alloc (.cells oc.toArray 94)) := ⟨_, rfl⟩
  have hT : Bk wz (w.heap.size + 1) 35 (txCells n (.slice (some ⟨w.heap.size + 1 + 1, 0, none⟩) 1 1) (.slice (some ⟨w.heap.size + 1 + 1 + 1, 0, none⟩) 1 1)) := by
    rw [hwz]
    have := ((Bk.new (w.alloc (.cells ia 54)) 35 (txCells n (.slice (some ⟨w.heap.size + 1 + 1, 0, none⟩) 1 1) (.slice (some ⟨w.heap.size + 1 + 1 + 1, 0, none⟩) 1 1))).alloc (.cells ic.toArray 91)).alloc (.cells oc.toArray 94)
    rw [show (w.alloc (.cells ia 54)).heap.size = w.heap.size + 1 by simp] at this
    exact this
  have hI : Bk wz (w.heap.size + 1 + 1) 91 ic.toArray := by
    rw [hwz]
    have := (Bk.new ((w.alloc (.cells ia 54)).alloc (.cells #[.int .u32 (n : Int), .slice (some ⟨w.heap.size + 1 + 1, 0, none⟩) 1 1, .slice (some ⟨w.heap.size + 1 + 1 + 1, 0, none⟩) 1 1] 35)) 91 ic.toArray).alloc (.cells oc.toArray 94)
    simpa using this
  have hO : Bk wz (w.heap.size + 1 + 1 + 1) 94 oc.toArray := by
    rw [hwz]
    have := Bk.new (((w.alloc (.cells ia 54)).alloc (.cells #[.int .u32 (n : Int), .slice (some ⟨w.heap.size + 1 + 1, 0, none⟩) 1 1, .slice (some ⟨w.heap.size + 1 + 1 + 1, 0, none⟩) 1 1] 35)).alloc (.cells ic.toArray 91)) 94 oc.toArray
    simpa using this
  have hB : Below w.heap.size w wz := by
    rw [hwz]
    exact ((((Below.refl _ _).alloc (Nat.le_refl _) _).alloc (by simp) _).alloc (by simp; omega) _).alloc (by simp; omega) _
  rw [← hwz]
  refine bodyPost_ret (results_cell_row rfl _ _ (w.heap.size + 1) 35 (txCells n (.slice (some ⟨w.heap.size + 1 + 1, 0, none⟩) 1 1) (.slice (some ⟨w.heap.size + 1 + 1 + 1, 0, none⟩) 1 1)) (0, 0) _ rfl hT Tryd.underlying35 rfl size_tx) rfl ?_
  refine ⟨_, _, _, _, rfl, ?_, hB⟩
  intro wy hy
  have hI2 := hI.kp hy (by omega)
  have hO2 := hO.kp hy (by omega)
  have kx : (⟨p, n % 3, []⟩ : Txs.In).Ok := ⟨hp, by show n % 3 < _; omega⟩
  have ky : (⟨1, List.replicate 32 0⟩ : Txs.Out).Ok := ⟨by decide, by simp⟩
  refine ⟨hn, Nat.le_refl _, by simp [maxLen], Nat.le_refl _, by simp [maxLen], ?_, ?_⟩
  · exact At.of_bk (fun x : Txs.In => inCells x (.slice none 0 0)) (fun x hx => by
      rw [List.mem_singleton.1 hx]
      exact ⟨inCells_len kx _, kx, none, 0, rfl, Nat.le_refl _, by simp [maxLen], fun i hi => by simp at hi⟩) (by rw [show (simpleTx n p).ins.flatMap (fun x : Txs.In => inCells x (.slice none 0 0)) = ic by rw [← HIC.out]; simp [simpleTx]]; exact hI2)
  · exact At.of_bk outCells (fun x hx => by
      rw [List.mem_singleton.1 hx]
      exact ⟨outCells_len ky, ky, rfl⟩) (by rw [show (simpleTx n p).outs.flatMap outCells = oc by rw [← HOC.out]; simp [simpleTx]]; exact hO2)
end Go.Proofs.YtacbibflhdmcoaaDoor.O14
/- The document's examples of the pool, in plain Lean: reckoned by the kernel. -/
namespace Go.Proofs.YtacbibflhdmcoaaDoor.O14
open T7
set_option linter.unusedVariables false
set_option maxRecDepth 100000

def aliveHash (i : Nat) : List UInt8 := UInt8.ofNat (i % 2) :: List.replicate 31 0
theorem aliveHash_len (i : Nat) : (aliveHash i).length = 32 := by simp [aliveHash]
def aliveTx (i : Nat) : Txs.Tx := simpleTx i (aliveHash i)
def aliveEnt (i : Nat) : Ent := entOf (i : Int) (aliveTx i) 5
theorem alive_ids : ((List.range 9).map fun i => Txs.id (aliveTx i)).Nodup := by decide +kernel
theorem alive_check : ∀ i, i < 9 → Txs.check (aliveTx i) = 0 := by decide +kernel
theorem alive_apart {i j : Nat} (hi : i < 9) (hj : j < 9) (h : Txs.id (aliveTx i) = Txs.id (aliveTx j)) : i = j := by
  have hp := List.pairwise_iff_getElem.1 alive_ids
  rcases Nat.lt_trichotomy i j with h1 | h1 | h1
  · exact absurd (by rw [List.getElem_map, List.getElem_map, List.getElem_range, List.getElem_range]; exact h) (hp i j (by simpa using hi) (by simpa using hj) h1)
  · exact h1
  · exact absurd (by rw [List.getElem_map, List.getElem_map, List.getElem_range, List.getElem_range]; exact h.symm) (hp j i (by simpa using hj) (by simpa using hi) h1)
theorem alive_err {k : Nat} (hk : k < 9) : addErr ((List.range k).map aliveEnt) (aliveTx k) = 0 := by
  unfold addErr
  rw [if_pos (alive_check k hk)]
  have : hasId ((List.range k).map aliveEnt) (Txs.id (aliveTx k)) = false := by
    unfold hasId
    rw [List.any_eq_false]
    intro e he
    obtain ⟨i, hi, rfl⟩ := List.mem_map.1 he
    rw [List.mem_range] at hi
    rw [decide_eq_true_iff]
    intro h
    have := alive_apart (by omega) hk h
    omega
  rw [this]; rfl
/-- those that wait behind so many -/
def aliveEs (k : Nat) : List Ent := if k ≤ 8 then (List.range k).map aliveEnt else ((List.range 9).map aliveEnt).drop 1
theorem alive_next {k : Nat} (hk : k < 9) : addErr (aliveEs k) (aliveTx k) = 0 ∧ addEs (aliveEs k) (k : Int) (aliveTx k) 5 = aliveEs (k + 1) ∧ (addGone (aliveEs k) (aliveTx k)).length = (if k < 8 then 0 else 1) := by
  have e1 : aliveEs k = (List.range k).map aliveEnt := by unfold aliveEs; rw [if_pos (by omega)]
  have he := alive_err hk
  have hl : ((List.range k).map aliveEnt).length = k := by simp
  rw [e1]
  refine ⟨he, ?_, ?_⟩
  · unfold addEs
    rw [if_pos he, hl]
    have e2 : (List.range k).map aliveEnt ++ [entOf (k : Int) (aliveTx k) 5] = (List.range (k + 1)).map aliveEnt := by
      rw [List.range_succ, List.map_append]; rfl
    by_cases h8 : k < 8
    · rw [if_pos h8, e2]; unfold aliveEs; rw [if_pos (by omega)]
    · obtain rfl : k = 8 := by omega
      rw [if_neg h8, e2]; rfl
  · unfold addGone
    rw [if_pos he, hl]
    by_cases h8 : k < 8
    · rw [if_pos h8, if_pos h8]; rfl
    · rw [if_neg h8, if_neg h8]
      obtain rfl : k = 8 := by omega
      rfl
theorem alive_len (k : Nat) (hk : k ≤ 9) : (aliveEs k).length ≤ 8 := by
  unfold aliveEs
  split <;> simp <;> omega
theorem alive_take : ((aliveEs 9).filter fun x => spends [aliveHash 1] x.tx).map Ent.src = [1, 3, 5, 7] := by decide +kernel
theorem alive_left : ((aliveEs 9).filter fun x => !spends [aliveHash 1] x.tx).length = 4 := by decide +kernel
theorem alive_gone : (((aliveEs 9).filter fun x => !spends [aliveHash 1] x.tx).filter fun x => decide (x.fin ≤ 305)).length = 4 := by decide +kernel
end Go.Proofs.YtacbibflhdmcoaaDoor.O14
/- The document's examples of the pool, walked. -/
namespace Go.Proofs.YtacbibflhdmcoaaDoor.O14
open Go.RowKit Go.Deep T7
set_option linter.unusedVariables false
set_option linter.unusedSimpArgs false
set_option maxRecDepth 100000
set_option maxHeartbeats 2000000
attribute [local go_sem ↓] Go.wp_at_zero Go.wp_at_succ

theorem built_hash1 (b : UInt8) : Tryd.prog.built 54 [(0, byteV b)] = some ((b :: List.replicate 31 0).map byteV).toArray := by kernel_rfl
theorem built_alive (k : Nat) : Tryd.prog.built 54 [(0, .int .u8 ((k : Int) % 2))] = some ((aliveHash k).map byteV).toArray := by
  have e : (.int .u8 ((k : Int) % 2) : Value) = byteV (UInt8.ofNat (k % 2)) := by
    unfold byteV
    congr 1
    have h1 : (UInt8.ofNat (k % 2)).toNat = k % 2 := by
      rw [UInt8.toNat_ofNat']; omega
    rw [h1]
    omega
  rw [e]
  exact built_hash1 _
theorem four_of {qs : List EP} (h : (qs.map (·.1)).map Ent.src = [1, 3, 5, 7]) : ∃ q0 q1 q2 q3 : EP, qs = [q0, q1, q2, q3] ∧ q0.1.src = 1 ∧ q3.1.src = 7 := by
  rcases qs with _ | ⟨q0, _ | ⟨q1, _ | ⟨q2, _ | ⟨q3, _ | ⟨q4, qs⟩⟩⟩⟩⟩ <;> simp at h
  exact ⟨q0, q1, q2, q3, rfl, h.1, h.2.2.2⟩
theorem alive_any (w : World) (hlay : Laid w) : Calls Tryd.prog 9 #[] w fun e w' => e = .returned (.bool true) ∧ Below w.heap.size w w' := by
  have HLY := Lib.hid hlay
  have HNEW := Lib.hid (new_any w)
  clear hlay
  go_enter Tryd.func9, Tryd.ntmps9
  go_wp2_with fail
  refine HNEW.out.mono ?_
  rintro e w1 ⟨rfl, hbk, hb1, hz1⟩
  obtain ⟨O, hO⟩ : ∃ O, O = w.heap.size := ⟨_, rfl⟩
  rw [← hO] at hbk ⊢
  have HP1 := Lib.hid (show PoolAt (PU w.heap.size O (.slice none 0 0)) w1 O w.heap.size (.slice none 0 0) [] from ⟨hbk, RowE.nil _ _ _, by simp [Value.ownBlock], .inr (.inl rfl), fun i hi => by simp [Value.ownBlock] at hi⟩)
  have HB1 := Lib.hid hb1
  have hOl : w.heap.size ≤ O := by omega
  clear hO hbk hb1 HNEW
  go_wp2_with fail
  go_loopw [9] (fun iv wr => ∃ (k : Nat) (v : Value), iv = .int .u32 (k : Int) ∧ k ≤ 9 ∧ Hid (PoolAt (PU w.heap.size O v) wr O w.heap.size v (aliveEs k)) ∧ Hid (Below w.heap.size w wr)) (fun iv _ => 9 - (intOf iv).toNat)
  case atStart => exact ⟨0, _, rfl, by omega, HP1, HB1⟩
  case round =>
    obtain ⟨k, v, rfl, hk, hP, hb⟩ := hrel
    by_cases hlt : k < 9
    · have i2 : (k : Int) < 9 := by omega
      have i1 : (0 : Int) ≤ (k : Int) := by omega
      have HBH := Lib.hid (built_alive k)
      have HSI := Lib.hid (simple_any k (aliveHash k) (aliveHash_len k) (by omega))
      obtain ⟨ha, hh⟩ : ∃ h, h = ((aliveHash k).map byteV).toArray := ⟨_, rfl⟩
      rw [← hh] at HBH HSI
      clear hh
      obtain ⟨h1, h2, h3⟩ := alive_next hlt
      have HADD := Lib.hid (fun W A c A' c' hl hp ht hB => add_any (PU w.heap.size O v) (aliveEs k) O w.heap.size v (k : Int) (aliveTx k) A A' c c' W.heap.size 5 W hl hp ht (Nat.le_refl _) hB (alive_len k (by omega)) (by omega))
      rw [h1, h2] at HADD
      obtain ⟨gl, hgl⟩ : ∃ gl, gl = addGone (aliveEs k) (aliveTx k) := ⟨_, rfl⟩
      rw [← hgl] at HADD h3
      rw [show simpleTx k (aliveHash k) = aliveTx k from rfl] at HSI
      unfold txV at HADD HSI
      clear hgl h1 h2
      go_upto_region 8 with (first
        | (refine wpList_built_g (by rfl) 54 #[(0, .tmp 19)] rfl ha ?hb1 ?_)
        | (go_at_call 31; refine (HSI.out _).mono ?_; rintro e w2 ⟨A, c, A', c', rfl, hnew, hb2⟩; have HNW := Lib.hid hnew; have HB2 := Lib.hid hb2; clear hnew hb2))
      case hb1 => exact HBH.out
      have hw2 : Below w.heap.size w w2 := hb.out.trans (HB2.out.mono hb.out.size)
      have HW2 := Lib.hid hw2
      have HP2 := Lib.hid (show PoolAt (PU w.heap.size O v) w2 O w.heap.size v (aliveEs k) from hP.out.kp' (S := fun _ => False) HB2.out (fun _ _ h => h) hP.out.tO hP.out.tv)
      clear hw2
      go_wp2_with fail
      refine (HADD.out w2 A c A' c' (HLY.out.below HW2.out) HP2.out HNW.out.at_ HW2.out.size).mono ?_
      rintro e w3 ⟨A1, c1, v', rfl, _, _, _, g1, g2, g3⟩
      have HP3 := Lib.hid (PU.next g1 HW2.out.size HP2.out.bk.lt)
      have HB3 := Lib.hid (show Below w.heap.size w w3 from Kp.from_elder HW2.out g3 (fun i hi h => by
        rcases h with h | h
        · omega
        · have := (HP2.out.row.lt i h).1; omega))
      clear g1 g2 g3
      by_cases h8 : k < 8
      · have hg0 : gl.length = 0 := by rw [h3, if_pos h8]
        have i8 : ¬ (k : Int) = 8 := by omega
        clear h3
        go_wp2_with fail
        go_roundw
        case rel => exact ⟨k + 1, v', by go_num, by omega, HP3, HB3⟩
        case measure => simp [intOf]; omega
      · have hg0 : gl.length = 1 := by rw [h3, if_neg h8]
        obtain rfl : k = 8 := by omega
        clear h3
        go_wp2_with fail
        go_roundw
        case rel => exact ⟨9, v', by go_num, by omega, HP3, HB3⟩
        case measure => simp [intOf]
    · obtain rfl : k = 9 := by omega
      have HBH := Lib.hid (show Tryd.prog.built 54 [(0, .int .u8 1)] = some ((aliveHash 1).map byteV).toArray from built_hash1 1)
      obtain ⟨ha, hh⟩ : ∃ h, h = (aliveHash 1).map byteV := ⟨_, rfl⟩
      have HHA := Lib.hid hh
      have HHL := Lib.hid (show ha.length = 32 by rw [hh, List.length_map]; exact aliveHash_len 1)
      rw [← hh] at HBH
      obtain ⟨zs, hzs⟩ : ∃ zs, zs = ((List.replicate 32 (0 : UInt8)).map byteV).toArray := ⟨_, rfl⟩
      have HZ := Lib.hid (show (Tryd.prog.info? 54).map (·.zero) = some (some (.agg zs)) by rw [hzs]; exact zero_hash0)
      obtain ⟨w2, hw2⟩ : ∃ w2, w2 = wr.alloc (.cells ha.toArray 54) := ⟨_, rfl⟩
      have hb2 : Below wr.heap.size wr w2 := by rw [hw2]; exact Joins.below_alloc1 _ _
      have HW2 := Lib.hid (hb.out.trans (hb2.mono hb.out.size))
      have HP2 := Lib.hid (show PoolAt (PU w.heap.size O v) w2 O w.heap.size v (aliveEs 9) from hP.out.kp' (S := fun _ => False) hb2 (fun _ _ h => h) hP.out.tO hP.out.tv)
      have HHS := Lib.hid (show HashesAt w2 w2.heap.size (some ⟨wr.heap.size, 0, none⟩) [aliveHash 1] from At.of_bk (fun l : List UInt8 => l.map byteV) (fun x hx => by
        rw [List.mem_singleton.1 hx]
        exact ⟨by rw [List.length_map]; exact aliveHash_len 1, aliveHash_len 1, rfl⟩) (by
        rw [show [aliveHash 1].flatMap (fun l : List UInt8 => l.map byteV) = ha by rw [hh]; simp, hw2]
        exact Bk.new _ _ _))
      have HTK := Lib.hid (show Calls Tryd.prog 30 #[.pointer (some ⟨O, 0, none⟩), .slice (some ⟨wr.heap.size, 0, none⟩) 1 1] w2 _ from take_any (PU w.heap.size O v) (aliveEs 9) O w.heap.size v [aliveHash 1] (some ⟨wr.heap.size, 0, none⟩) 1 w2.heap.size w2 HP2.out HW2.out.size (by have := alive_len 9 (by omega); omega) HHS.out (Nat.le_refl _) (by decide))
      clear hh hzs hb2
      go_upto_region 12 with (first
        | (refine wpList_built_g (by rfl) 54 #[(0, .const (.int .u8 1))] rfl ha.toArray ?hb1 ?_)
        | (refine wpList_buildOne rfl 36 54 (.tmp 37) rfl ha.toArray (by rfl) Tryd.underlying36 (by rw [List.size_toArray, HHL.out]; exact size_hash0) zs HZ.out (by rw [List.size_toArray, HHL.out]; omega) (by rw [List.size_toArray, HHL.out]; omega) ?_))
      case hb1 => exact HBH.out
      rw [← hw2]
      clear hw2
      refine HTK.out.mono ?_
      rintro e w3 ⟨vt, v3, qs, rfl, g1, g2, g3, g4, g5, g6⟩
      have hsrc : (qs.map (·.1)).map Ent.src = [1, 3, 5, 7] := by rw [g3]; exact alive_take
      obtain ⟨q0, q1, q2, q3, rfl, hq0, hq3⟩ : ∃ q0 q1 q2 q3 : EP, qs = [q0, q1, q2, q3] ∧ q0.1.src = 1 ∧ q3.1.src = 7 := four_of hsrc
      obtain ⟨At, ct, rfl, ht4, htm, _, hcell⟩ := own_form g1
      obtain ⟨bt, rfl, _, hbl, hc0⟩ := hcell 0 (.int .i64 1) (by rw [← hq0]; rfl)
      obtain ⟨bt', hbt, _, _, hc12⟩ := hcell 12 (.int .i64 7) (by rw [← hq3]; rfl)
      obtain rfl : bt = bt' := by injection hbt with hbt; injection hbt
      have hO3 : O < w3.heap.size := g4.bk.lt
      have hz23 : w2.heap.size ≤ w3.heap.size := g6.size
      have HW3 := Lib.hid (show Below w.heap.size w w3 from Kp.from_elder HW2.out g6 (fun i hi h => by omega))
      have HP3 := Lib.hid (PU.next g4 HW2.out.size HP2.out.bk.lt)
      have hl4 := alive_left
      obtain ⟨es, hes⟩ : ∃ es, es = (aliveEs 9).filter fun x => !spends [aliveHash 1] x.tx := ⟨_, rfl⟩
      have hg4 := alive_gone
      rw [← hes] at HP3 hl4 hg4
      have hlen : [q0, q1, q2, q3].length = 4 := rfl
      rw [hlen] at ht4 ⊢
      have HALL := Lib.hid (all_any (PU w.heap.size O v3) es O w.heap.size v3 w3 HP3.out (by omega))
      rw [hl4] at HALL
      clear hsrc hcell hbt hes g1 g2 g3 g4 g5 g6 hlen
      go_wp2_with fail
      refine HALL.out.mono ?_
      rintro e w4 ⟨A4, c4, rfl, _, hb4⟩
      have HW4 := Lib.hid (HW3.out.trans (hb4.mono HW3.out.size))
      have HP4 := Lib.hid (show PoolAt (PU w.heap.size O v3) w4 O w.heap.size v3 es from HP3.out.kp' (S := fun _ => False) hb4 (fun _ _ h => h) HP3.out.tO HP3.out.tv)
      have HEXP := Lib.hid (expire_any (PU w.heap.size O v3) es O w.heap.size v3 305 w4 HP4.out HW4.out.size (by omega))
      have hz4 := HW4.out.size
      clear hb4
      go_wp2_with fail
      refine HEXP.out.mono ?_
      rintro e w5 ⟨vi, v5, rfl, k1, k2, k3, k4⟩
      obtain ⟨A5, c5, rfl, _⟩ := k1.at_
      have hl5 : ((es.filter fun x => decide (x.fin ≤ 305)).map Ent.id).length = 4 := by rw [List.length_map]; exact hg4
      rw [hl5]
      have HW5 := Lib.hid (show Below w.heap.size w w5 from Kp.from_elder HW4.out k4 (fun i hi h => by omega))
      clear k1 k2 k3 k4 hl5 hg4 hl4
      go_wp2_with fail
      go_ret
      exact ⟨rfl, HW5.out⟩
end Go.Proofs.YtacbibflhdmcoaaDoor.O14
