/- What may be spends nothing twice. -/
import Derived.Test.YtmekgidfdlckoaaTxCheck
import Derived.Test.YtmekgidfdlckoaaTxPoints
import Derived.Test.YtmekgidfdlckoaaTxCuts
import Derived.Test.YtmekgidfdlckoaaHeldTx
import Derived.Test.YtmekgidfdlckoaaTxBuilt
namespace Go.Proofs.Ytmekgidfdlckoaa
open Go.RowKit Go.Deep T7
set_option linter.unusedVariables false
set_option linter.unusedSimpArgs false
set_option maxRecDepth 100000
attribute [local go_sem ↓] Go.wp_at_zero Go.wp_at_succ

theorem run_eq_ptm (w : World) (p q : Pt) : (binOp .eql 53 (.agg p.cells.toArray) (.agg q.cells.toArray)).run Try.prog w = .ok (.bool (!p.ne q)) w := by
  have : (binOp .eql 53 (.agg p.arr) (.agg q.arr)).run Try.prog w = .ok (.bool (!p.ne q)) w := by
    rw [run_eql_struct, ten, eq_pt]
    simp
  exact this
theorem yieldsIf_eq_pt {ops : Array Oper} {S : World → Prop} {o : Oper} {a : Act} (hw : Region.wanted o (yielded ops a.tmps) = true) (x y : Operand) (b : TypeId) (ho : o.op = .binOp .eql 53 x y b)
    (p q : Pt) (hx : a.eval x = .agg p.cells.toArray) (hy : a.eval y = .agg q.cells.toArray) (r : Bool) (hr : p.ne q = r) : YieldsIf Try.prog ops S o (.bool !r) a :=
  Or.inl ⟨hw, fun w _ => by
    subst hr
    unfold execOp
    simp only [ho, hx, hy, Sem.run_bind, run_eqGuard_agg w .eql 53 x y _ _ guard_pt, Result.andThen_ok, run_eq_ptm, Sem.run_pure]⟩
theorem yieldsIf_ne_pt {ops : Array Oper} {S : World → Prop} {o : Oper} {a : Act} (hw : Region.wanted o (yielded ops a.tmps) = true) (x y : Operand) (b : TypeId) (ho : o.op = .binOp .neq 53 x y b)
    (p q : Pt) (hx : a.eval x = .agg p.cells.toArray) (hy : a.eval y = .agg q.cells.toArray) (r : Bool) (hr : p.ne q = r) : YieldsIf Try.prog ops S o (.bool r) a :=
  Or.inl ⟨hw, fun w _ => by
    subst hr
    unfold execOp
    simp only [ho, hx, hy, Sem.run_bind, run_eqGuard_agg w .neq 53 x y _ _ guard_pt, Result.andThen_ok, run_ne_pt', Sem.run_pure]⟩
theorem own_low9 {w w' : World} {B base : Nat} {e : TypeId} {size : Nat} {v : Value} {n : Nat} {xs : List Value} (hg : w.grownBy w' v.ownBlock) (h : w.ownsRow base e size v n xs) (hB : B ≤ base) (hs : B ≤ w.heap.size) : Below B w w' :=
  ⟨hg.os, hg.tape, hg.output, hg.size, fun i hi => hg.block i (by omega) (fun e => by have := (h.lt i e.symm).1; omega)⟩
theorem empty_row (w : World) (t : TypeId) (size : Nat) : (w.alloc (.cells #[] t)).ownsRow w.heap.size t size (.slice (some ⟨w.heap.size, 0, none⟩) 0 0) 0 [] :=
  ⟨by simp, .inr ⟨w.heap.size, 0, #[], rfl, Nat.le_refl _, Bk.new _ _ _, Nat.le_refl _, by simp [maxLen], by simp, by simp⟩⟩
theorem add_at7 (b o j : Nat) : (⟨b, o, none⟩ : Addr).add j = ⟨b, o + j, none⟩ := by unfold Addr.add; split <;> simp_all
def KeyA (w : World) (u : Value) (p : List UInt8) : Prop := ∃ A cap, u = .slice A p.length cap ∧ p.length ≤ cap ∧ cap ≤ maxLen ∧ BytesAt w w.heap.size A p
theorem pairs_pl {us : List Value} {l : List Txs.In} (h1 : us.length = l.length) (h3 : ∀ i (h : i < l.length), l[i].Ok) : ∀ p ∈ l.zip us, (pairCells p).length = 34 := by
  intro p hp
  obtain ⟨i, hi, rfl⟩ := List.mem_iff_getElem.1 hp
  have hi' : i < l.length := by rw [List.length_zip, h1, Nat.min_self] at hi; exact hi
  unfold pairCells
  rw [List.getElem_zip]
  exact inCells_len (h3 i hi') _
theorem pairs_len {us : List Value} {l : List Txs.In} (h1 : us.length = l.length) (h3 : ∀ i (h : i < l.length), l[i].Ok) : ((l.zip us).flatMap pairCells).length = l.length * 34 := by
  have hz : (l.zip us).length = l.length := by rw [List.length_zip, h1, Nat.min_self]
  rw [← hz]
  have hpl := pairs_pl h1 h3
  generalize l.zip us = z at *
  clear hz
  induction z with
  | nil => rfl
  | cons p z ih => rw [List.flatMap_cons, List.length_append, hpl p (by simp), ih (fun q hq => hpl q (by simp [hq])), List.length_cons]; omega
theorem pairs_one {us : List Value} {l : List Txs.In} (h1 : us.length = l.length) (h3 : ∀ i (h : i < l.length), ∃ A m c, us[i]? = some (.slice A m c)) : ∀ u ∈ (l.zip us).flatMap pairCells, u.oneCell' = true := by
  intro u hu
  obtain ⟨p, hp, hup⟩ := List.mem_flatMap.1 hu
  obtain ⟨i, hi, rfl⟩ := List.mem_iff_getElem.1 hp
  have hi' : i < l.length := by rw [List.length_zip, h1, Nat.min_self] at hi; exact hi
  obtain ⟨A, m, c, e⟩ := h3 i hi'
  rw [List.getElem_zip] at hup
  rw [List.getElem?_eq_getElem (by omega)] at e
  injection e with e
  unfold pairCells at hup
  simp only [e] at hup
  exact inCells_one _ _ _ _ u hup
theorem ins_cells {w : World} {B : Nat} {A : Option Addr} {l : List Txs.In} (h : InsAt w B A l) : ∃ us : List Value, us.length = l.length ∧ Src w A ((l.zip us).flatMap pairCells) ∧
    ∀ i (hi : i < l.length), l[i].Ok ∧ ∃ A' cap, us[i]? = some (.slice A' l[i].key.length cap) ∧ l[i].key.length ≤ cap ∧ cap ≤ maxLen ∧ BytesAt w B A' l[i].key := by
  have hex : ∀ i : Fin l.length, ∃ u, l[i].Ok ∧ (∃ A' cap, u = .slice A' l[i].key.length cap ∧ l[i].key.length ≤ cap ∧ cap ≤ maxLen ∧ BytesAt w B A' l[i].key) ∧
      ∃ b off, A = some ⟨b, off, none⟩ ∧ ∀ j v, (inCells l[i] u)[j]? = some v → w.cell? ⟨b, off + i.1 * 34 + j, none⟩ = some v := by
    intro i
    obtain ⟨b, off, vs, hA, hb, ⟨hok, A', cap, rfl, k1, k2, k3⟩, hc⟩ := h i.1 i.2
    refine ⟨.slice A' l[i].key.length cap, hok, ⟨A', cap, rfl, k1, k2, k3⟩, b, off, hA, fun j v hv => ?_⟩
    obtain ⟨hj, hv⟩ := List.getElem?_eq_some_iff.1 hv
    rw [← hv]
    exact hc j hj
  obtain ⟨f, hf⟩ := Classical.axiomOfChoice hex
  have hul : (List.ofFn f).length = l.length := by simp
  refine ⟨List.ofFn f, hul, ?_, fun i hi => ?_⟩
  · intro j u hu
    have hpl := pairs_pl (us := List.ofFn f) (l := l) hul (fun i hi => (hf ⟨i, hi⟩).1)
    have hlen := pairs_len (us := List.ofFn f) (l := l) hul (fun i hi => (hf ⟨i, hi⟩).1)
    have hj : j < l.length * 34 := by rw [← hlen]; exact (List.getElem?_eq_some_iff.1 hu).1
    have hi : j / 34 < l.length := by omega
    have hjr : j % 34 < 34 := by omega
    have e : j = j / 34 * 34 + j % 34 := by omega
    have hzl : (l.zip (List.ofFn f)).length = l.length := by rw [List.length_zip, hul, Nat.min_self]
    rw [e, flatMap_index (l.zip (List.ofFn f)) hpl (j / 34) (by omega) (j % 34) hjr] at hu
    obtain ⟨_, _, b, off, hA, hc⟩ := hf ⟨j / 34, hi⟩
    refine ⟨_, hA, ?_⟩
    have := hc (j % 34) u (by
      rw [List.getElem_zip] at hu
      unfold pairCells at hu
      simpa using hu)
    have e2 := add_at7 b off j
    have e3 : off + j = off + j / 34 * 34 + j % 34 := by omega
    rw [e2, e3]
    exact this
  · obtain ⟨hok, ⟨A', cap, e, k1, k2, k3⟩, _⟩ := hf ⟨i, hi⟩
    exact ⟨hok, A', cap, by simp [hi]; exact e, k1, k2, k3⟩
theorem ins_row {w : World} {base : Nat} {v : Value} {us : List Value} {l : List Txs.In} (h1 : us.length = l.length) (h2 : w.ownsRow base 55 34 v l.length ((l.zip us).flatMap pairCells))
    (h3 : ∀ i (h : i < l.length), l[i].Ok ∧ ∃ A' cap, us[i]? = some (.slice A' l[i].key.length cap) ∧ l[i].key.length ≤ cap ∧ cap ≤ maxLen ∧ BytesAt w w.heap.size A' l[i].key) : ∃ A cap, v = .slice A l.length cap ∧ l.length ≤ cap ∧ cap ≤ maxLen ∧ InsAt w w.heap.size A l := by
  obtain ⟨A, cap, hv, hn, hm, hA, hc⟩ := own_form h2
  have hzl : (l.zip us).length = l.length := by rw [List.length_zip, h1, Nat.min_self]
  have hpl := pairs_pl h1 (fun i hi => (h3 i hi).1)
  refine ⟨A, cap, hv, hn, hm, fun i hi => ?_⟩
  obtain ⟨hok, A', cap', hu, k1, k2, k3⟩ := h3 i hi
  have hz : (l.zip us)[i]'(by omega) = (l[i], .slice A' l[i].key.length cap') := by
    rw [List.getElem_zip]
    rw [List.getElem?_eq_some_iff] at hu
    obtain ⟨_, hu⟩ := hu
    rw [hu]
  have hcell : ∀ j (hj : j < (inCells l[i] (.slice A' l[i].key.length cap')).length), ∃ b, A = some ⟨b, 0, none⟩ ∧ base ≤ b ∧ b < w.heap.size ∧ w.cell? ⟨b, i * 34 + j, none⟩ = some (inCells l[i] (.slice A' l[i].key.length cap'))[j] := fun j hj =>
    hc (i * 34 + j) _ (by
      rw [flatMap_index (l.zip us) hpl i (by omega) j (by rw [inCells_len hok] at hj; exact hj), hz]
      unfold pairCells
      rw [List.getElem?_eq_getElem hj])
  obtain ⟨b, hA, _, hlt, _⟩ := hcell 0 (by rw [inCells_len hok]; omega)
  refine ⟨b, 0, _, hA, hlt, ⟨hok, A', cap', rfl, k1, k2, k3⟩, fun j hj => ?_⟩
  obtain ⟨b', hA', _, _, hcj⟩ := hcell j hj
  rw [hA] at hA'
  injection hA' with hA'
  injection hA' with hA' _
  subst hA'
  rw [Nat.zero_add]
  exact hcj
theorem src_of_bk {w : World} {g t : Nat} {cs : List Value} (h : Bk w g t cs.toArray) : Src w (some ⟨g, 0, none⟩) cs := fun j u hu => ⟨_, rfl, by rw [add_at7, Nat.zero_add, h.cell]; simpa using hu⟩
theorem src_mono {w W : World} {A : Option Addr} {news : List Value} (h : Src w A news) (hb : Below w.heap.size w W) : Src W A news := fun j u hu => by
  obtain ⟨ad, ha, hc⟩ := h j u hu
  exact ⟨ad, ha, (hb.cell (p := ad.add j) (World.block_lt_of_cell? w _ hc)).trans hc⟩
theorem tx_more {w W : World} {B base kb : Nat} {t : Txs.Tx} {A A' : Option Addr} {c c' : Nat} {us : List Value} {v' : Value} {y : Txs.In} (h : TxAt w B t A c A' c') (hb : Below B w W) (hB : B ≤ W.heap.size) (h1 : us.length = t.ins.length)
    (h3 : ∀ i (hi : i < t.ins.length), t.ins[i].Ok ∧ ∃ A' cap, us[i]? = some (.slice A' t.ins[i].key.length cap) ∧ t.ins[i].key.length ≤ cap ∧ cap ≤ maxLen ∧ BytesAt W W.heap.size A' t.ins[i].key)
    (hy : y.Ok) (hk1 : y.key.length = 1) (hk : BytesAt W W.heap.size (some ⟨kb, 0, none⟩) y.key)
    (hrow : W.ownsRow base 55 34 v' (t.ins.length + 1) ((t.ins.zip us).flatMap pairCells ++ inCells y (.slice (some ⟨kb, 0, none⟩) 1 1))) :
    ∃ A7 c7, v' = .slice A7 (t.ins.length + 1) c7 ∧ TxAt W W.heap.size ⟨t.version, t.ins ++ [y], t.outs⟩ A7 c7 A' c' := by
  have hl : (t.ins ++ [y]).length = t.ins.length + 1 := by simp
  obtain ⟨A7, c7, hv, hn, hm, hat⟩ := ins_row (us := us ++ [.slice (some ⟨kb, 0, none⟩) 1 1]) (l := t.ins ++ [y]) (by simp [h1]) (v := v') (base := base) (w := W)
    (by rw [List.zip_append h1.symm, List.flatMap_append, hl]; simpa [pairCells] using hrow)
    (fun i hi => by
      rcases Nat.lt_or_ge i t.ins.length with h | h
      · obtain ⟨ho, A', cap, hu, hp⟩ := h3 i h
        simp only [List.getElem_append_left h]
        exact ⟨ho, A', cap, by rw [List.getElem?_append_left (by omega)]; exact hu, hp⟩
      · have e : i = t.ins.length := by omega
        subst e
        simp only [List.getElem_append_right (Nat.le_refl _), Nat.sub_self, List.getElem_cons_zero]
        refine ⟨hy, _, 1, ?_, by omega, by simp [maxLen], hk⟩
        rw [List.getElem?_append_right (by omega), h1, hk1]
        simp)
  rw [hl] at hv hn
  exact ⟨A7, c7, hv, h.v, by show (t.ins ++ [y]).length ≤ c7; omega, hm, h.oc, h.om, hat, (h.outs.below hb).mono hB⟩
theorem one_at {W : World} {g t : Nat} {b : UInt8} (h : Bk W g t #[.int .u8 (b.toNat : Int)]) : BytesAt W W.heap.size (some ⟨g, 0, none⟩) [b] := fun j hj => by
  have e : j = 0 := by simp at hj; omega
  subst e
  refine ⟨g, 0, [byteV b], rfl, h.lt, rfl, fun q hq => ?_⟩
  have e : q = 0 := by simp at hq; omega
  subst e
  exact (h.cell 0).trans rfl
theorem may_check {w wd wf : World} {t : Txs.Tx} {A A' A7 : Option Addr} {c c' c7 n m ver base kb T : Nat} {us : List Value} {x : Txs.In} {b8 : UInt8} (h : TxAt w w.heap.size t A c A' c') (hn : n = t.ins.length) (hm : m = t.outs.length) (hv : t.version = ver)
    (hb : Below w.heap.size w wf) (hbs : w.heap.size ≤ wf.heap.size) (h1 : us.length = t.ins.length)
    (h3 : ∀ i (hi : i < t.ins.length), t.ins[i].Ok ∧ ∃ A' cap, us[i]? = some (.slice A' t.ins[i].key.length cap) ∧ t.ins[i].key.length ≤ cap ∧ cap ≤ maxLen ∧ BytesAt wd w.heap.size A' t.ins[i].key)
    (hbd : Below w.heap.size wd wf) (hx : x.Ok) (hk : Bk wf kb T #[.int .u8 (b8.toNat : Int)])
    (hrow : wf.ownsRow base 55 34 (.slice A7 (n + 1) c7) (n + 1) ((t.ins.zip us).flatMap pairCells ++ inCells x (.slice (some ⟨kb, 0, none⟩) 1 1)))
    (hck : ∀ (y : Txs.In), y.hash = x.hash → y.n = x.n → y.key.length = 1 → Txs.check ⟨ver, t.ins ++ [y], t.outs⟩ = if 8 ≤ t.ins.length then 5 else 12) {r : Int} (hr : (if 8 ≤ n then (5 : Int) else 12) = r) :
    Calls Try.prog 17 #[.agg #[.int .u32 (ver : Int), .slice A7 (n + 1) c7, .slice A' m c']] wf fun e w' => e = .returned (.int .i64 r) ∧ Below wf.heap.size wf w' := by
  subst hn
  subst hm
  subst hv
  obtain ⟨A8, c8, e, htx⟩ := tx_more (y := ⟨x.hash, x.n, [b8]⟩) h hb hbs h1 (fun i hi => by
    obtain ⟨ho, A', cap, e1, e2, e3, e4⟩ := h3 i hi
    exact ⟨ho, A', cap, e1, e2, e3, (At.below e4 hbd).mono hbs⟩) hx rfl (one_at hk) hrow
  injection e with e1 e2 e3
  subst e1
  subst e3
  have := check7_any _ A7 A' c7 c' _ wf htx (Nat.le_refl _)
  rw [hck ⟨x.hash, x.n, [b8]⟩ rfl rfl rfl, hr] at this
  unfold txV at this
  simpa using this
theorem ne_self (p : Pt) : p.ne p = false := by unfold Pt.ne; simp
set_option maxHeartbeats 8000000 in
theorem txMay_ok (w : World) (t : Txs.Tx) (A : Option Addr) (c : Nat) (A' : Option Addr) (c' : Nat) (h : TxAt w w.heap.size t A c A' c') (z : Int) (hz : (Lit.int .u8 z).wf = true) (hgr : greatB t = false) (hck : Txs.check t = 0) :
    Calls Try.prog 7 #[txV t A c A' c', .int .u8 z] w fun e w' => e = .returned (.bool true) ∧ Below w.heap.size w w' := by
  obtain ⟨hz0, hz1⟩ := wf_u8 hz
  have hzwf := hz
  obtain ⟨hf, hi0, ho0, hmon, hapt⟩ := Txs.check_ok hck
  obtain ⟨f1, f2, f3⟩ := Txs.form_iff.1 hf
  have HCA := Lib.hid (fun k hk y e1 e2 hy => Txs.check_again hck (k := k) hk y e1 e2 hy)
  have HAP := Lib.hid hapt
  have HMO := Lib.hid hmon
  have hic := h.ic
  have him := h.im
  unfold maxLen at him
  have HT := Lib.hid h
  have HG := fun W h1 h2 => great_any t A A' c c' w.heap.size W h1 h2
  have HC := fun W h1 h2 => check7_any t A A' c c' w.heap.size W h1 h2
  have HP := fun W h1 h2 => points_any t A A' c c' w.heap.size W h1 h2 (by omega)
  rw [hgr] at HG
  rw [hck] at HC
  unfold txV at HG HC HP ⊢
  obtain ⟨n, hn⟩ : ∃ n, n = t.ins.length := ⟨_, rfl⟩
  obtain ⟨m, hm⟩ : ∃ m, m = t.outs.length := ⟨_, rfl⟩
  rw [← hn, ← hm] at HG HC HP ⊢
  rw [← hn] at f2 hi0 hic
  rw [← hm] at f3 ho0
  have HIA := Lib.hid h.ins
  have HOA := Lib.hid h.outs
  generalize hver : t.version = ver at *
  have HG := Lib.hid HG
  have HC := Lib.hid HC
  have HP := Lib.hid HP
  have HN := Lib.hid hn
  have HM := Lib.hid hm
  have HV := Lib.hid hver
  obtain ⟨w1, hw1⟩ : ∃ w1, w1 = w.alloc (.cells #[.int .u32 (ver : Int), .slice A n c, .slice A' m c'] 28) := ⟨_, rfl⟩
  have HK1 := Lib.hid (show Bk w1 w.heap.size 28 #[.int .u32 (ver : Int), .slice A n c, .slice A' m c'] by rw [hw1]; exact Bk.new _ _ _)
  have HZ1 := Lib.hid (show w1.heap.size = w.heap.size + 1 by rw [hw1]; simp)
  have HB1 := Lib.hid (show Below w.heap.size w w1 by rw [hw1]; exact Joins.below_alloc1 _ _)
  clear hz h hgr hck hf hmon hapt f1 hn hm hver
  go_enter Try.func7, Try.ntmps7
  go_wp2_with fail
  rw [← hw1]
  clear hw1
  refine (tx_alive w1).mono ?_
  rintro e w2 ⟨rfl, hb2⟩
  have HB2 := Lib.hid (HB1.out.trans (hb2.mono HB1.out.size))
  have HK2 := Lib.hid (HK1.out.below hb2 HK1.out.lt)
  have k0 : w2.cell? ⟨w.heap.size, 0, none⟩ = some (.int .u32 (ver : Int)) := (HK2.out.cell 0).trans rfl
  have k1 : w2.cell? ⟨w.heap.size, 1, none⟩ = some (.slice A n c) := (HK2.out.cell 1).trans rfl
  have k2 : w2.cell? ⟨w.heap.size, 2, none⟩ = some (.slice A' m c') := (HK2.out.cell 2).trans rfl
  clear hb2
  go_wp2_with fail
  refine (HG.out w2 (HT.out.below HB2.out) HB2.out.size).mono ?_
  rintro e w3 ⟨rfl, hb3⟩
  have HB3 := Lib.hid (HB2.out.trans (hb3.mono HB2.out.size))
  have HK3 := Lib.hid (HK2.out.below hb3 HK2.out.lt)
  clear hb3 HG k0 k1 k2
  have k0 : w3.cell? ⟨w.heap.size, 0, none⟩ = some (.int .u32 (ver : Int)) := (HK3.out.cell 0).trans rfl
  have k1 : w3.cell? ⟨w.heap.size, 1, none⟩ = some (.slice A n c) := (HK3.out.cell 1).trans rfl
  have k2 : w3.cell? ⟨w.heap.size, 2, none⟩ = some (.slice A' m c') := (HK3.out.cell 2).trans rfl
  go_wp2_with fail
  refine (HC.out w3 (HT.out.below HB3.out) HB3.out.size).mono ?_
  rintro e w4 ⟨rfl, hb4⟩
  have HB4 := Lib.hid (HB3.out.trans (hb4.mono HB3.out.size))
  have HK4 := Lib.hid (HK3.out.below hb4 HK3.out.lt)
  clear hb4 HC k0 k1 k2
  have k2 : w4.cell? ⟨w.heap.size, 2, none⟩ = some (.slice A' m c') := (HK4.out.cell 2).trans rfl
  have hz4 := HK4.out.lt
  go_wp2_with fail
  go_loopw [5, 24] (fun sv iv wr => ∃ (k S : Nat), k ≤ m ∧ iv = .int .i64 (k : Int) ∧ sv = .int .u64 (S : Int) ∧ S ≤ 1125899906842624 ∧ Hid (S = Txs.total (t.outs.take k)) ∧ Hid (Below w4.heap.size w4 wr)) (fun _ iv _ => m - (intOf iv).toNat)
  case atStart => exact ⟨0, 0, Nat.zero_le _, rfl, rfl, by omega, Lib.hid rfl, Lib.hid (Below.refl _ _)⟩
  case round =>
    obtain ⟨k, S, hk, rfl, rfl, hS, hST, hb⟩ := hrel
    have hws := hb.out.size
    by_cases hlt : k < m
    · have hlt1 : k < t.outs.length := by rw [← HM.out]; exact hlt
      obtain ⟨b, off, rfl, hbB, hr, hok⟩ := OutsAt.range (At.below HOA.out (HB4.out.trans (hb.out.mono HB4.out.size))) hlt1
      have hsn := Txs.total_snoc hlt1
      have hle := Txs.total_take_le t.outs (k + 1)
      have hmo : Txs.total t.outs ≤ 1125899906842624 ∧ 0 < t.outs[k].value := by
        have := HMO.out
        unfold Txs.money at this
        rw [Bool.and_eq_true, List.all_eq_true] at this
        exact ⟨of_decide_eq_true this.2, of_decide_eq_true (this.1 _ (List.getElem_mem hlt1))⟩
      rw [← hST.out] at hsn
      have i1 : (0 : Int) ≤ (k : Int) := by omega
      have i2 : (k : Int) < (m : Int) := by omega
      generalize t.outs[k] = x at *
      obtain ⟨v, hv⟩ : ∃ v, v = x.value := ⟨_, rfl⟩
      rw [← hv] at hsn hmo
      have HST := Lib.hid hsn.symm
      have hSv : S + v ≤ 1125899906842624 := by omega
      have hvb : ((v : Int) == 0) = false := by rw [beq_eq_false_iff_ne]; omega
      have hvm' : ¬ (1125899906842624 : Int) < (v : Int) := by omega
      have hvm2 : (v : Int) ≤ 1125899906842624 := by omega
      have hS2 : (S : Int) ≤ 1125899906842624 := by omega
      have HR := Lib.hid hr
      have HLN := Lib.hid (outCells_len hok)
      have HONE := Lib.hid (outCells_one x)
      have HCV := Lib.hid (fun W => out_value (Bk.new W 49 (outCells x).toArray))
      rw [← hv] at HCV
      generalize hcs : outCells x = cs at *
      have HZI := zero_out
      have HZL := Lib.hid zeroOut_len
      generalize (outCells ⟨0, List.replicate 32 0⟩).toArray = zs at *
      have HZI := Lib.hid HZI
      have HSV := Lib.hid hSv
      clear hcs hr hok hv hsn hle hmo hS hSv
      go_wp2_with (refine wpList_elem rfl rfl rfl 49 (.tmp 26) (.tmp 7) (.tmp 27) rfl rfl rfl b (off + k * 33) (by rfl) cs _ HR.out Try.underlying49 rfl (by rw [HLN.out]; exact size_out) zs HZI.out (by rw [HZL.out, HLN.out]) HONE.out (by rfl) (by rfl) ?_; have hcell := HCV.out wr)
      go_roundw
      case rel => exact ⟨k + 1, S + v, by omega, by go_num, by go_num, HSV.out, HST, Lib.hid (hb.out.alloc hb.out.size _)⟩
      case measure => simp [intOf]; omega
    · obtain rfl : k = m := by omega
      have HB5 := Lib.hid (HB4.out.trans (hb.out.mono HB4.out.size))
      have HK5 := Lib.hid (HK4.out.below hb.out HK4.out.lt)
      have hS2 : ¬ (1125899906842624 : Int) < (S : Int) := by omega
      obtain ⟨wq, rfl⟩ : ∃ wq : World, wq = wr := ⟨_, rfl⟩
      have k0 : wq.cell? ⟨w.heap.size, 0, none⟩ = some (.int .u32 (ver : Int)) := (HK5.out.cell 0).trans rfl
      have k1 : wq.cell? ⟨w.heap.size, 1, none⟩ = some (.slice A n c) := (HK5.out.cell 1).trans rfl
      have k2 : wq.cell? ⟨w.heap.size, 2, none⟩ = some (.slice A' k c') := (HK5.out.cell 2).trans rfl
      clear hST hb HB2 HB3 HB4 HK2 HK3 HK4
      go_wp2_with fail
      refine (HP.out wq (HT.out.below HB5.out) HB5.out.size).mono ?_
      rintro e w6 ⟨A1, c1, rfl, hc1, hm1, hpts, hb6⟩
      have HB6 := Lib.hid (HB5.out.trans (hb6.mono HB5.out.size))
      have HK6 := Lib.hid (HK5.out.below hb6 HK5.out.lt)
      have HPT := Lib.hid hpts
      unfold maxLen at hm1
      clear hb6 hpts HP k0 k1 k2
      have k1 : w6.cell? ⟨w.heap.size, 1, none⟩ = some (.slice A n c) := (HK6.out.cell 1).trans rfl
      have k2 : w6.cell? ⟨w.heap.size, 2, none⟩ = some (.slice A' k c') := (HK6.out.cell 2).trans rfl
      obtain ⟨kk, hkk⟩ : ∃ kk : Nat, z % (n : Int) = (kk : Int) := ⟨(z % (n : Int)).toNat, by rw [Int.toNat_of_nonneg (Int.emod_nonneg _ (by omega))]⟩
      have hkn : kk < n := by have := Int.emod_lt_of_pos z (show (0 : Int) < (n : Int) by omega); omega
      have hrem : z.tmod (n : Int) = (kk : Int) := by rw [IntWalk.rem_in _ _ hz0, hkk]
      have e1 : ((n : Int) == 0) = false := by rw [beq_eq_false_iff_ne]; omega
      have e2 : ((k : Int) == 0) = false := by rw [beq_eq_false_iff_ne]; omega
      have e3 : ((n : Int) != (n : Int)) = false := by simp
      have e4 : ¬ (8 : Int) < (k : Int) := by omega
      have hn0 : (n : Int) ≠ 0 := by omega
      have hkn' : (kk : Int) < (n : Int) := by omega
      have hkk1 : kk < t.ins.length := by rw [← HN.out]; exact hkn
      obtain ⟨g1, o1, rfl, _, _, _⟩ := HPT.out.range hkk1
      clear hkk
      go_wp2_with fail
      go_loopw [77] (fun iv wr => ∃ i : Nat, i ≤ n ∧ iv = .int .i64 (i : Int) ∧ Hid (Below w6.heap.size w6 wr)) (fun iv _ => n - (intOf iv).toNat)
      case atStart => exact ⟨0, Nat.zero_le _, rfl, Lib.hid (Below.refl _ _)⟩
      case round =>
        obtain ⟨i, hi, rfl, hb⟩ := hrel
        have HBr := Lib.hid (HB6.out.trans (hb.out.mono HB6.out.size))
        have HKr := Lib.hid (HK6.out.below hb.out HK6.out.lt)
        have hws7 := hb.out.size
        by_cases hlt : i < n
        · have hlt1 : i < t.ins.length := by rw [← HN.out]; exact hlt
          obtain ⟨g1', o1', hg1, hg1B, hr, hok⟩ := PtsAt.range (At.below HPT.out hb.out) hlt1
          obtain ⟨rfl, rfl⟩ : g1 = g1' ∧ o1 = o1' := by
            injection hg1 with hg1
            injection hg1 with h1 h2
            exact ⟨h1, h2⟩
          obtain ⟨g1', o1', hg1', _, hrk, hokk⟩ := PtsAt.range (At.below HPT.out hb.out) hkk1
          obtain ⟨rfl, rfl⟩ : g1 = g1' ∧ o1 = o1' := by
            injection hg1' with hg1
            injection hg1 with h1 h2
            exact ⟨h1, h2⟩
          obtain ⟨q2, o2, Ak, ck, rfl, hq2, hri, hoki, _⟩ := (HIA.out.below HBr.out).range hlt1
          have i1 : (0 : Int) ≤ (i : Int) := by omega
          have i2 : (i : Int) < (n : Int) := by omega
          have k1' : wr.cell? ⟨w.heap.size, 1, none⟩ = some (.slice (some ⟨q2, o2, none⟩) n c) := (HKr.out.cell 1).trans rfl
          obtain ⟨wx, hwx⟩ : ∃ wx, wx = wr.alloc (.cells (ptCells t.ins[i]).toArray 53) := ⟨_, rfl⟩
          have HBX := Lib.hid (show Below wr.heap.size wr wx by rw [hwx]; exact Joins.below_alloc1 _ _)
          have HB3 : Bk wx wr.heap.size 53 (ptCells t.ins[i]).toArray := by rw [hwx]; exact Bk.new _ _ _
          have k1x : wx.cell? ⟨w.heap.size, 1, none⟩ = some (.slice (some ⟨q2, o2, none⟩) n c) := (HBX.out.cell (p := ⟨w.heap.size, 1, none⟩) HKr.out.lt).trans k1'
          have HBN := Lib.hid (show Below w6.heap.size w6 wx.drew from ((hb.out.trans (HBX.out.mono hb.out.size))).drew)
          have R1 := Lib.hid (show wx.drew.rangeAt wr.heap.size 0 (ptOf t.ins[i] hok).cells from bk_range HB3)
          have R2 := Lib.hid (show wx.drew.rangeAt g1 (o1 + kk * 33) (ptOf t.ins[kk] hokk).cells from rangeAt_below hrk HBX.out.drew (by omega))
          have R3 := Lib.hid (show wx.drew.rangeAt q2 (o2 + i * 34) (ptOf t.ins[i] hok).cells from rangeAt_below (by rw [in_ptCells] at hri; exact range_head hri) HBX.out.drew (by have := HBr.out.size; omega))
          have HNE : Hid (¬ i = kk → (ptOf t.ins[i] hok).ne (ptOf t.ins[kk] hokk) = true) := Lib.hid (fun hne => by
            rw [← Bool.not_eq_false]
            intro he
            have ha := HAP.out
            unfold Pt.ne ptOf at he
            simp at he
            rcases Nat.lt_or_ge i kk with h | h
            · rw [Txs.apart_no h hkk1 he.1 he.2] at ha; cases ha
            · rw [Txs.apart_no (show kk < i by omega) hlt1 he.1.symm he.2.symm] at ha; cases ha)
          have HEQ : Hid (i = kk → (ptOf t.ins[i] hok).ne (ptOf t.ins[kk] hokk) = false) := Lib.hid (fun he => by subst he; exact ne_self _)
          have L1 := Lib.hid (Pt.cells_len (ptOf t.ins[i] hok))
          have L2 := Lib.hid (Pt.cells_len (ptOf t.ins[kk] hokk))
          have HR := Lib.hid hr
          have HL := Lib.hid (ptCells_len hok)
          have HONE := Lib.hid (ptCells_one t.ins[i])
          generalize ptOf t.ins[i] hok = px at *
          generalize ptOf t.ins[kk] hokk = pk at *
          generalize hcs : ptCells t.ins[i] = cs at *
          have hpp := ne_self px
          have HZI := zero_pt
          have HZL := Lib.hid zeroPt_len
          generalize (ptCells ⟨List.replicate 32 0, 0, []⟩).toArray = zs at *
          have HZI := Lib.hid HZI
          clear hcs hr hrk hri hok hokk hoki hg1 hg1' HB3 k1 k1' k2
          go_wp2_with (refine wpList_elem2 rfl rfl rfl rfl 53 (.tmp 80) (.tmp 11) (.tmp 81) (.tmp 79) rfl rfl rfl rfl g1 (o1 + i * 33) (by rfl) cs _ HR.out Try.underlying53 rfl (by rw [HL.out]; exact size_pt) zs HZI.out (by rw [HZL.out, HL.out]) HONE.out (.int .i64 (i : Int)) (by rfl) (by rfl) (by rfl) ?_)
          go_frame
          rw [← hwx]
          clear hwx
          by_cases hik : i = kk
          · have hpk := HEQ.out hik
            have hikb : ((i : Int) == (kk : Int)) = true := by rw [beq_iff_eq]; omega
            clear hik
            refine wp_region_held_drew (S := fun w' => w' = wx.drew) (by kernel_rfl) (rfl) (fun hHeld => ?_)
            refine wpAnyH_take (i := 0) (v := .agg (px.cells).toArray) rfl (by kernel_rfl) (by kernel_rfl) (by kernel_rfl) (fun _ _ _ h => h) (yieldsIf_load_mid (by rfl) 53 (.tmp 11) rfl (wr.heap.size) (0) (by rfl) (px.cells) _ (fun w' h => by subst h; exact R1.out) Try.underlying53 rfl (by rw [L1.out]; exact size_pt)) hHeld ?_
            simp only [Act.put, List.setIfInBounds_toArray, List.set_cons_zero, List.set_cons_succ, List.getElem_toArray, List.getElem_cons_zero, List.getElem_cons_succ]
            refine wpAnyH_take (i := 1) (v := ?_) rfl (by kernel_rfl) (by kernel_rfl) (by kernel_rfl) (fun _ _ _ h => h) (Or.inl ⟨by rfl, ?_⟩) hHeld ?_
            rotate_left
            · (intro w' hSw; subst hSw; go_simp <;> with_reducible rfl)
            simp only [Act.put, List.setIfInBounds_toArray, List.set_cons_zero, List.set_cons_succ, List.getElem_toArray, List.getElem_cons_zero, List.getElem_cons_succ]
            refine wpAnyH_take (i := 2) (v := ?_) rfl (by kernel_rfl) (by kernel_rfl) (by kernel_rfl) (fun _ _ _ h => h) (Or.inl ⟨by rfl, ?_⟩) hHeld ?_
            rotate_left
            · (intro w' hSw; subst hSw; go_simp <;> with_reducible rfl)
            simp only [Act.put, List.setIfInBounds_toArray, List.set_cons_zero, List.set_cons_succ, List.getElem_toArray, List.getElem_cons_zero, List.getElem_cons_succ]
            refine wpAnyH_take (i := 3) (v := ?_) rfl (by kernel_rfl) (by kernel_rfl) (by kernel_rfl) (fun _ _ _ h => h) (Or.inl ⟨by rfl, ?_⟩) hHeld ?_
            rotate_left
            · (intro w' hSw; subst hSw; go_simp <;> with_reducible rfl)
            simp only [Act.put, List.setIfInBounds_toArray, List.set_cons_zero, List.set_cons_succ, List.getElem_toArray, List.getElem_cons_zero, List.getElem_cons_succ]
            refine wpAnyH_take (i := 4) (v := .agg (pk.cells).toArray) rfl (by kernel_rfl) (by kernel_rfl) (by kernel_rfl) (fun _ _ _ h => h) (yieldsIf_load_mid (by rfl) 53 (.tmp 85) rfl (g1) (o1 + kk * 33) (by rfl) (pk.cells) _ (fun w' h => by subst h; exact R2.out) Try.underlying53 rfl (by rw [L2.out]; exact size_pt)) hHeld ?_
            simp only [Act.put, List.setIfInBounds_toArray, List.set_cons_zero, List.set_cons_succ, List.getElem_toArray, List.getElem_cons_zero, List.getElem_cons_succ]
            refine wpAnyH_take (i := 5) (v := .bool (!false)) rfl (by kernel_rfl) (by kernel_rfl) (by kernel_rfl) (fun _ _ _ h => h) (yieldsIf_eq_pt (by rfl) (.tmp 82) (.tmp 86) _ rfl px pk (by rfl) (by rfl) false hpk) hHeld ?_
            simp only [Act.put, List.setIfInBounds_toArray, List.set_cons_zero, List.set_cons_succ, List.getElem_toArray, List.getElem_cons_zero, List.getElem_cons_succ]
            refine wpAnyH_take (i := 6) (v := ?_) rfl (by kernel_rfl) (by kernel_rfl) (by kernel_rfl) (fun _ _ _ h => h) (Or.inl ⟨by rfl, ?_⟩) hHeld ?_
            rotate_left
            · (intro w' hSw; subst hSw; go_simp <;> with_reducible rfl)
            simp only [Act.put, List.setIfInBounds_toArray, List.set_cons_zero, List.set_cons_succ, List.getElem_toArray, List.getElem_cons_zero, List.getElem_cons_succ]
            refine wpAnyH_take (i := 7) (v := ?_) rfl (by kernel_rfl) (by kernel_rfl) (by kernel_rfl) (fun _ _ _ h => h) (Or.inl ⟨by rfl, ?_⟩) hHeld ?_
            rotate_left
            · (intro w' hSw; subst hSw; go_simp <;> with_reducible rfl)
            simp only [Act.put, List.setIfInBounds_toArray, List.set_cons_zero, List.set_cons_succ, List.getElem_toArray, List.getElem_cons_zero, List.getElem_cons_succ]
            refine wpAnyH_take (i := 8) (v := ?_) rfl (by kernel_rfl) (by kernel_rfl) (by kernel_rfl) (fun _ _ _ h => h) (Or.inl ⟨by rfl, ?_⟩) hHeld ?_
            rotate_left
            · (intro w' hSw; subst hSw; go_simp <;> with_reducible rfl)
            simp only [Act.put, List.setIfInBounds_toArray, List.set_cons_zero, List.set_cons_succ, List.getElem_toArray, List.getElem_cons_zero, List.getElem_cons_succ]
            refine wpAnyH_take (i := 9) (v := ?_) rfl (by kernel_rfl) (by kernel_rfl) (by kernel_rfl) (fun _ _ _ h => h) (Or.inl ⟨by rfl, ?_⟩) hHeld ?_
            rotate_left
            · (intro w' hSw; subst hSw; go_simp <;> with_reducible rfl)
            simp only [Act.put, List.setIfInBounds_toArray, List.set_cons_zero, List.set_cons_succ, List.getElem_toArray, List.getElem_cons_zero, List.getElem_cons_succ]
            refine wpAnyH_take (i := 10) (v := ?_) rfl (by kernel_rfl) (by kernel_rfl) (by kernel_rfl) (fun _ _ _ h => h) (Or.inl ⟨by rfl, ?_⟩) hHeld ?_
            rotate_left
            · (intro w' hSw; subst hSw; go_simp <;> with_reducible rfl)
            simp only [Act.put, List.setIfInBounds_toArray, List.set_cons_zero, List.set_cons_succ, List.getElem_toArray, List.getElem_cons_zero, List.getElem_cons_succ]
            refine wpAnyH_take (i := 11) (v := .agg (px.cells).toArray) rfl (by kernel_rfl) (by kernel_rfl) (by kernel_rfl) (fun _ _ _ h => h) (yieldsIf_load_mid (by rfl) 53 (.tmp 11) rfl (wr.heap.size) (0) (by rfl) (px.cells) _ (fun w' h => by subst h; exact R1.out) Try.underlying53 rfl (by rw [L1.out]; exact size_pt)) hHeld ?_
            simp only [Act.put, List.setIfInBounds_toArray, List.set_cons_zero, List.set_cons_succ, List.getElem_toArray, List.getElem_cons_zero, List.getElem_cons_succ]
            refine wpAnyH_take (i := 12) (v := ?_) rfl (by kernel_rfl) (by kernel_rfl) (by kernel_rfl) (fun _ _ _ h => h) (Or.inl ⟨by rfl, ?_⟩) hHeld ?_
            rotate_left
            · (intro w' hSw; subst hSw; go_simp <;> with_reducible rfl)
            simp only [Act.put, List.setIfInBounds_toArray, List.set_cons_zero, List.set_cons_succ, List.getElem_toArray, List.getElem_cons_zero, List.getElem_cons_succ]
            refine wpAnyH_take (i := 13) (v := ?_) rfl (by kernel_rfl) (by kernel_rfl) (by kernel_rfl) (fun _ _ _ h => h) (Or.inl ⟨by rfl, ?_⟩) hHeld ?_
            rotate_left
            · (intro w' hSw; subst hSw; go_simp <;> with_reducible rfl)
            simp only [Act.put, List.setIfInBounds_toArray, List.set_cons_zero, List.set_cons_succ, List.getElem_toArray, List.getElem_cons_zero, List.getElem_cons_succ]
            refine wpAnyH_take (i := 14) (v := ?_) rfl (by kernel_rfl) (by kernel_rfl) (by kernel_rfl) (fun _ _ _ h => h) (Or.inl ⟨by rfl, ?_⟩) hHeld ?_
            rotate_left
            · (intro w' hSw; subst hSw; go_simp <;> with_reducible rfl)
            simp only [Act.put, List.setIfInBounds_toArray, List.set_cons_zero, List.set_cons_succ, List.getElem_toArray, List.getElem_cons_zero, List.getElem_cons_succ]
            refine wpAnyH_take (i := 15) (v := ?_) rfl (by kernel_rfl) (by kernel_rfl) (by kernel_rfl) (fun _ _ _ h => h) (Or.inl ⟨by rfl, ?_⟩) hHeld ?_
            rotate_left
            · (intro w' hSw; subst hSw; go_simp <;> with_reducible rfl)
            simp only [Act.put, List.setIfInBounds_toArray, List.set_cons_zero, List.set_cons_succ, List.getElem_toArray, List.getElem_cons_zero, List.getElem_cons_succ]
            refine wpAnyH_take (i := 16) (v := ?_) rfl (by kernel_rfl) (by kernel_rfl) (by kernel_rfl) (fun _ _ _ h => h) (Or.inl ⟨by rfl, ?_⟩) hHeld ?_
            rotate_left
            · (intro w' hSw; subst hSw; go_simp <;> with_reducible rfl)
            simp only [Act.put, List.setIfInBounds_toArray, List.set_cons_zero, List.set_cons_succ, List.getElem_toArray, List.getElem_cons_zero, List.getElem_cons_succ]
            refine wpAnyH_take (i := 17) (v := .agg (px.cells).toArray) rfl (by kernel_rfl) (by kernel_rfl) (by kernel_rfl) (fun _ _ _ h => h) (yieldsIf_load_mid (by rfl) 53 (.tmp 98) rfl (q2) (o2 + i * 34) (by rfl) (px.cells) _ (fun w' h => by subst h; exact R3.out) Try.underlying53 rfl (by rw [L1.out]; exact size_pt)) hHeld ?_
            simp only [Act.put, List.setIfInBounds_toArray, List.set_cons_zero, List.set_cons_succ, List.getElem_toArray, List.getElem_cons_zero, List.getElem_cons_succ]
            refine wpAnyH_take (i := 18) (v := .bool (false)) rfl (by kernel_rfl) (by kernel_rfl) (by kernel_rfl) (fun _ _ _ h => h) (yieldsIf_ne_pt (by rfl) (.tmp 93) (.tmp 99) _ rfl px px (by rfl) (by rfl) false hpp) hHeld ?_
            simp only [Act.put, List.setIfInBounds_toArray, List.set_cons_zero, List.set_cons_succ, List.getElem_toArray, List.getElem_cons_zero, List.getElem_cons_succ]
            refine wpAnyH_take (i := 19) (v := ?_) rfl (by kernel_rfl) (by kernel_rfl) (by kernel_rfl) (fun _ _ _ h => h) (Or.inl ⟨by rfl, ?_⟩) hHeld ?_
            rotate_left
            · (intro w' hSw; subst hSw; go_simp <;> with_reducible rfl)
            simp only [Act.put, List.setIfInBounds_toArray, List.set_cons_zero, List.set_cons_succ, List.getElem_toArray, List.getElem_cons_zero, List.getElem_cons_succ]
            refine wpAnyH_done (by kernel_rfl) ?_ _
            go_wp2_with fail
            go_roundw
            case rel => exact ⟨i + 1, by omega, by go_num, HBN⟩
            case measure => simp [intOf]; omega
          · have hpk := HNE.out hik
            have hikb : ((i : Int) == (kk : Int)) = false := by rw [beq_eq_false_iff_ne]; omega
            clear hik
            refine wp_region_held_drew (S := fun w' => w' = wx.drew) (by kernel_rfl) (rfl) (fun hHeld => ?_)
            refine wpAnyH_take (i := 0) (v := .agg (px.cells).toArray) rfl (by kernel_rfl) (by kernel_rfl) (by kernel_rfl) (fun _ _ _ h => h) (yieldsIf_load_mid (by rfl) 53 (.tmp 11) rfl (wr.heap.size) (0) (by rfl) (px.cells) _ (fun w' h => by subst h; exact R1.out) Try.underlying53 rfl (by rw [L1.out]; exact size_pt)) hHeld ?_
            simp only [Act.put, List.setIfInBounds_toArray, List.set_cons_zero, List.set_cons_succ, List.getElem_toArray, List.getElem_cons_zero, List.getElem_cons_succ]
            refine wpAnyH_take (i := 1) (v := ?_) rfl (by kernel_rfl) (by kernel_rfl) (by kernel_rfl) (fun _ _ _ h => h) (Or.inl ⟨by rfl, ?_⟩) hHeld ?_
            rotate_left
            · (intro w' hSw; subst hSw; go_simp <;> with_reducible rfl)
            simp only [Act.put, List.setIfInBounds_toArray, List.set_cons_zero, List.set_cons_succ, List.getElem_toArray, List.getElem_cons_zero, List.getElem_cons_succ]
            refine wpAnyH_take (i := 2) (v := ?_) rfl (by kernel_rfl) (by kernel_rfl) (by kernel_rfl) (fun _ _ _ h => h) (Or.inl ⟨by rfl, ?_⟩) hHeld ?_
            rotate_left
            · (intro w' hSw; subst hSw; go_simp <;> with_reducible rfl)
            simp only [Act.put, List.setIfInBounds_toArray, List.set_cons_zero, List.set_cons_succ, List.getElem_toArray, List.getElem_cons_zero, List.getElem_cons_succ]
            refine wpAnyH_take (i := 3) (v := ?_) rfl (by kernel_rfl) (by kernel_rfl) (by kernel_rfl) (fun _ _ _ h => h) (Or.inl ⟨by rfl, ?_⟩) hHeld ?_
            rotate_left
            · (intro w' hSw; subst hSw; go_simp <;> with_reducible rfl)
            simp only [Act.put, List.setIfInBounds_toArray, List.set_cons_zero, List.set_cons_succ, List.getElem_toArray, List.getElem_cons_zero, List.getElem_cons_succ]
            refine wpAnyH_take (i := 4) (v := .agg (pk.cells).toArray) rfl (by kernel_rfl) (by kernel_rfl) (by kernel_rfl) (fun _ _ _ h => h) (yieldsIf_load_mid (by rfl) 53 (.tmp 85) rfl (g1) (o1 + kk * 33) (by rfl) (pk.cells) _ (fun w' h => by subst h; exact R2.out) Try.underlying53 rfl (by rw [L2.out]; exact size_pt)) hHeld ?_
            simp only [Act.put, List.setIfInBounds_toArray, List.set_cons_zero, List.set_cons_succ, List.getElem_toArray, List.getElem_cons_zero, List.getElem_cons_succ]
            refine wpAnyH_take (i := 5) (v := .bool (!true)) rfl (by kernel_rfl) (by kernel_rfl) (by kernel_rfl) (fun _ _ _ h => h) (yieldsIf_eq_pt (by rfl) (.tmp 82) (.tmp 86) _ rfl px pk (by rfl) (by rfl) true hpk) hHeld ?_
            simp only [Act.put, List.setIfInBounds_toArray, List.set_cons_zero, List.set_cons_succ, List.getElem_toArray, List.getElem_cons_zero, List.getElem_cons_succ]
            refine wpAnyH_take (i := 6) (v := ?_) rfl (by kernel_rfl) (by kernel_rfl) (by kernel_rfl) (fun _ _ _ h => h) (Or.inl ⟨by rfl, ?_⟩) hHeld ?_
            rotate_left
            · (intro w' hSw; subst hSw; go_simp <;> with_reducible rfl)
            simp only [Act.put, List.setIfInBounds_toArray, List.set_cons_zero, List.set_cons_succ, List.getElem_toArray, List.getElem_cons_zero, List.getElem_cons_succ]
            refine wpAnyH_take (i := 7) (v := ?_) rfl (by kernel_rfl) (by kernel_rfl) (by kernel_rfl) (fun _ _ _ h => h) (Or.inl ⟨by rfl, ?_⟩) hHeld ?_
            rotate_left
            · (intro w' hSw; subst hSw; go_simp <;> with_reducible rfl)
            simp only [Act.put, List.setIfInBounds_toArray, List.set_cons_zero, List.set_cons_succ, List.getElem_toArray, List.getElem_cons_zero, List.getElem_cons_succ]
            refine wpAnyH_take (i := 8) (v := ?_) rfl (by kernel_rfl) (by kernel_rfl) (by kernel_rfl) (fun _ _ _ h => h) (Or.inl ⟨by rfl, ?_⟩) hHeld ?_
            rotate_left
            · (intro w' hSw; subst hSw; go_simp <;> with_reducible rfl)
            simp only [Act.put, List.setIfInBounds_toArray, List.set_cons_zero, List.set_cons_succ, List.getElem_toArray, List.getElem_cons_zero, List.getElem_cons_succ]
            refine wpAnyH_take (i := 9) (v := ?_) rfl (by kernel_rfl) (by kernel_rfl) (by kernel_rfl) (fun _ _ _ h => h) (Or.inl ⟨by rfl, ?_⟩) hHeld ?_
            rotate_left
            · (intro w' hSw; subst hSw; go_simp <;> with_reducible rfl)
            simp only [Act.put, List.setIfInBounds_toArray, List.set_cons_zero, List.set_cons_succ, List.getElem_toArray, List.getElem_cons_zero, List.getElem_cons_succ]
            refine wpAnyH_take (i := 10) (v := ?_) rfl (by kernel_rfl) (by kernel_rfl) (by kernel_rfl) (fun _ _ _ h => h) (Or.inl ⟨by rfl, ?_⟩) hHeld ?_
            rotate_left
            · (intro w' hSw; subst hSw; go_simp <;> with_reducible rfl)
            simp only [Act.put, List.setIfInBounds_toArray, List.set_cons_zero, List.set_cons_succ, List.getElem_toArray, List.getElem_cons_zero, List.getElem_cons_succ]
            refine wpAnyH_take (i := 11) (v := .agg (px.cells).toArray) rfl (by kernel_rfl) (by kernel_rfl) (by kernel_rfl) (fun _ _ _ h => h) (yieldsIf_load_mid (by rfl) 53 (.tmp 11) rfl (wr.heap.size) (0) (by rfl) (px.cells) _ (fun w' h => by subst h; exact R1.out) Try.underlying53 rfl (by rw [L1.out]; exact size_pt)) hHeld ?_
            simp only [Act.put, List.setIfInBounds_toArray, List.set_cons_zero, List.set_cons_succ, List.getElem_toArray, List.getElem_cons_zero, List.getElem_cons_succ]
            refine wpAnyH_take (i := 12) (v := ?_) rfl (by kernel_rfl) (by kernel_rfl) (by kernel_rfl) (fun _ _ _ h => h) (Or.inl ⟨by rfl, ?_⟩) hHeld ?_
            rotate_left
            · (intro w' hSw; subst hSw; go_simp <;> with_reducible rfl)
            simp only [Act.put, List.setIfInBounds_toArray, List.set_cons_zero, List.set_cons_succ, List.getElem_toArray, List.getElem_cons_zero, List.getElem_cons_succ]
            refine wpAnyH_take (i := 13) (v := ?_) rfl (by kernel_rfl) (by kernel_rfl) (by kernel_rfl) (fun _ _ _ h => h) (Or.inl ⟨by rfl, ?_⟩) hHeld ?_
            rotate_left
            · (intro w' hSw; subst hSw; go_simp <;> with_reducible rfl)
            simp only [Act.put, List.setIfInBounds_toArray, List.set_cons_zero, List.set_cons_succ, List.getElem_toArray, List.getElem_cons_zero, List.getElem_cons_succ]
            refine wpAnyH_take (i := 14) (v := ?_) rfl (by kernel_rfl) (by kernel_rfl) (by kernel_rfl) (fun _ _ _ h => h) (Or.inl ⟨by rfl, ?_⟩) hHeld ?_
            rotate_left
            · (intro w' hSw; subst hSw; go_simp <;> with_reducible rfl)
            simp only [Act.put, List.setIfInBounds_toArray, List.set_cons_zero, List.set_cons_succ, List.getElem_toArray, List.getElem_cons_zero, List.getElem_cons_succ]
            refine wpAnyH_take (i := 15) (v := ?_) rfl (by kernel_rfl) (by kernel_rfl) (by kernel_rfl) (fun _ _ _ h => h) (Or.inl ⟨by rfl, ?_⟩) hHeld ?_
            rotate_left
            · (intro w' hSw; subst hSw; go_simp <;> with_reducible rfl)
            simp only [Act.put, List.setIfInBounds_toArray, List.set_cons_zero, List.set_cons_succ, List.getElem_toArray, List.getElem_cons_zero, List.getElem_cons_succ]
            refine wpAnyH_take (i := 16) (v := ?_) rfl (by kernel_rfl) (by kernel_rfl) (by kernel_rfl) (fun _ _ _ h => h) (Or.inl ⟨by rfl, ?_⟩) hHeld ?_
            rotate_left
            · (intro w' hSw; subst hSw; go_simp <;> with_reducible rfl)
            simp only [Act.put, List.setIfInBounds_toArray, List.set_cons_zero, List.set_cons_succ, List.getElem_toArray, List.getElem_cons_zero, List.getElem_cons_succ]
            refine wpAnyH_take (i := 17) (v := .agg (px.cells).toArray) rfl (by kernel_rfl) (by kernel_rfl) (by kernel_rfl) (fun _ _ _ h => h) (yieldsIf_load_mid (by rfl) 53 (.tmp 98) rfl (q2) (o2 + i * 34) (by rfl) (px.cells) _ (fun w' h => by subst h; exact R3.out) Try.underlying53 rfl (by rw [L1.out]; exact size_pt)) hHeld ?_
            simp only [Act.put, List.setIfInBounds_toArray, List.set_cons_zero, List.set_cons_succ, List.getElem_toArray, List.getElem_cons_zero, List.getElem_cons_succ]
            refine wpAnyH_take (i := 18) (v := .bool (false)) rfl (by kernel_rfl) (by kernel_rfl) (by kernel_rfl) (fun _ _ _ h => h) (yieldsIf_ne_pt (by rfl) (.tmp 93) (.tmp 99) _ rfl px px (by rfl) (by rfl) false hpp) hHeld ?_
            simp only [Act.put, List.setIfInBounds_toArray, List.set_cons_zero, List.set_cons_succ, List.getElem_toArray, List.getElem_cons_zero, List.getElem_cons_succ]
            refine wpAnyH_take (i := 19) (v := ?_) rfl (by kernel_rfl) (by kernel_rfl) (by kernel_rfl) (fun _ _ _ h => h) (Or.inl ⟨by rfl, ?_⟩) hHeld ?_
            rotate_left
            · (intro w' hSw; subst hSw; go_simp <;> with_reducible rfl)
            simp only [Act.put, List.setIfInBounds_toArray, List.set_cons_zero, List.set_cons_succ, List.getElem_toArray, List.getElem_cons_zero, List.getElem_cons_succ]
            refine wpAnyH_done (by kernel_rfl) ?_ _
            go_wp2_with fail
            go_roundw
            case rel => exact ⟨i + 1, by omega, by go_num, HBN⟩
            case measure => simp [intOf]; omega
        · obtain rfl : i = n := by omega
          have k0 : wr.cell? ⟨w.heap.size, 0, none⟩ = some (.int .u32 (ver : Int)) := (HKr.out.cell 0).trans rfl
          have k1 : wr.cell? ⟨w.heap.size, 1, none⟩ = some (.slice A i c) := (HKr.out.cell 1).trans rfl
          have k2 : wr.cell? ⟨w.heap.size, 2, none⟩ = some (.slice A' k c') := (HKr.out.cell 2).trans rfl
          obtain ⟨g1', o1', hg1', _, hrk, hokk⟩ := PtsAt.range (At.below HPT.out hb.out) hkk1
          obtain ⟨rfl, rfl⟩ : g1 = g1' ∧ o1 = o1' := by
            injection hg1' with hg1
            injection hg1 with h1 h2
            exact ⟨h1, h2⟩
          have i1 : (0 : Int) ≤ (kk : Int) := by omega
          have hwrl := HKr.out.lt
          go_upto_region 26 with (fail)
          obtain ⟨w7, hw7⟩ : ∃ w7, w7 = wr.alloc (.cells #[.int .u32 (ver : Int), .slice A i c, .slice A' k c'] 28) := ⟨_, rfl⟩
          have HB7 := Lib.hid (show Below wr.heap.size wr w7 by rw [hw7]; exact Joins.below_alloc1 _ _)
          have HU7 := Lib.hid (show Bk w7 wr.heap.size 28 #[.int .u32 (ver : Int), .slice A i c, .slice A' k c'] by rw [hw7]; exact Bk.new _ _ _)
          have HZ7 := Lib.hid (show w7.heap.size = wr.heap.size + 1 by rw [hw7]; simp)
          rw [← hw7]
          clear hw7 k0 k1 k2
          have HXK := Lib.hid (show t.ins[kk].Ok from hokk)
          obtain ⟨wd, hwd⟩ : ∃ wd, wd = w7.drew := ⟨_, rfl⟩
          have tc1 : wd.cell? ⟨w.heap.size, 1, none⟩ = some (.slice A i c) := by rw [hwd]; exact (HB7.out.cell (p := ⟨w.heap.size, 1, none⟩) HKr.out.lt).trans ((HKr.out.cell 1).trans rfl)
          have HR2 := Lib.hid (show wd.rangeAt g1 (o1 + kk * 33) (ptCells t.ins[kk]) by rw [hwd]; exact rangeAt_below hrk (HB7.out.mono hb.out.size).drew (by assumption))
          have HBD := Lib.hid (show Below w.heap.size w wd by rw [hwd]; exact (HBr.out.trans (HB7.out.mono HBr.out.size)).drew)
          have HUD := Lib.hid (show Bk wd wr.heap.size 28 #[.int .u32 (ver : Int), .slice A i c, .slice A' k c'] by rw [hwd]; exact HU7.out)
          have HKD := Lib.hid (show Bk wd w.heap.size 28 #[.int .u32 (ver : Int), .slice A i c, .slice A' k c'] by rw [hwd]; exact HKr.out.below HB7.out.drew HKr.out.lt)
          have hzd : wr.heap.size < wd.heap.size := by rw [hwd]; show wr.heap.size < w7.heap.size; rw [HZ7.out]; omega
          obtain ⟨us, hus1, hus2, hus3⟩ := ins_cells (HIA.out.below HBD.out)
          have HU1 := Lib.hid hus1
          have HU2 := Lib.hid hus2
          have HU3 := Lib.hid hus3
          have HSR := Lib.hid (fun W (hb : Below wd.heap.size wd W) => src_mono hus2 hb)
          have HBD0 := Lib.hid (Below.refl wd.heap.size wd)
          have HLU := Lib.hid (show ((t.ins.zip us).flatMap pairCells).length = i * 34 by rw [pairs_len hus1 (fun k hk => (hus3 k hk).1), HN.out])
          have HOU := Lib.hid (show ∀ u ∈ (t.ins.zip us).flatMap pairCells, u.oneCell' = true from pairs_one hus1 (fun k hk => by obtain ⟨_, _, e, _⟩ := (hus3 k hk).2; exact ⟨_, _, _, e⟩))
          obtain ⟨b8, hb8⟩ := byte_of (n := z) hzwf
          subst hb8
          clear hus1 hus2 hus3
          have HPL := Lib.hid (ptCells_len hokk)
          clear hrk hokk
          have HCK := Lib.hid (HCA.out kk hkk1)
          generalize t.ins[kk] = x at *
          obtain ⟨ii, hi, hz0, hz1, hz2⟩ := info_parts in_info
          have Ii := Lib.hid hi
          have Iz1 := Lib.hid hz1
          have Iz2 := Lib.hid hz2
          have hZI := zero_in
          have hZL := zeroIn_len
          generalize (inCells ⟨List.replicate 32 0, 0, []⟩ (.slice none 0 0)).toArray = zs at hZI hZL hz0
          have HZI := Lib.hid hZI
          have HIZ := Lib.hid hz0
          have HZL := Lib.hid hZL
          clear hi hz0 hz1 hz2 hZI hZL
          refine wp_region_L ([(2, w.heap.size, 1, [.slice A i c]), (7, g1, o1 + kk * 33, ptCells x)]) (by kernel_rfl) ?_
          rw [← hwd]
          clear hwd
          refine wpAnyL_pure (i := 1) (v := ?_) rfl (by kernel_rfl) (by kernel_rfl) (by kernel_rfl) (fun _ _ _ h => h) (Or.inl ⟨by rfl, ?_⟩) ?_
          rotate_left
          · (intro w' _; go_simp <;> with_reducible rfl)
          simp only [Act.put, List.setIfInBounds_toArray, List.set_cons_zero, List.set_cons_succ, List.getElem_toArray, List.getElem_cons_zero, List.getElem_cons_succ]
          refine wpAnyL_read (i := 2) (v := .slice A i c) (w.heap.size) (1) [.slice A i c] (.head _) (range_one (tc1)) rfl (by kernel_rfl) (by kernel_rfl) (by kernel_rfl) (fun _ _ _ h => h) (Or.inl ⟨by rfl, fun w' hSw => ?_⟩) ?_
          · (have hq := cell_one hSw; go_simp)
          simp only [Act.put, List.setIfInBounds_toArray, List.set_cons_zero, List.set_cons_succ, List.getElem_toArray, List.getElem_cons_zero, List.getElem_cons_succ]
          refine wpAnyL_pure (i := 4) (v := ?_) rfl (by kernel_rfl) (by kernel_rfl) (by kernel_rfl) (fun _ _ _ h => h) (Or.inl ⟨by rfl, ?_⟩) ?_
          rotate_left
          · (intro w' _; go_simp <;> with_reducible rfl)
          simp only [Act.put, List.setIfInBounds_toArray, List.set_cons_zero, List.set_cons_succ, List.getElem_toArray, List.getElem_cons_zero, List.getElem_cons_succ]
          refine wpAnyL_pure (i := 5) (v := ?_) rfl (by kernel_rfl) (by kernel_rfl) (by kernel_rfl) (fun _ _ _ h => h) (Or.inl ⟨by rfl, ?_⟩) ?_
          rotate_left
          · (intro w' _; go_simp <;> with_reducible rfl)
          simp only [Act.put, List.setIfInBounds_toArray, List.set_cons_zero, List.set_cons_succ, List.getElem_toArray, List.getElem_cons_zero, List.getElem_cons_succ]
          refine wpAnyL_pure (i := 6) (v := ?_) rfl (by kernel_rfl) (by kernel_rfl) (by kernel_rfl) (fun _ _ _ h => h) (Or.inl ⟨by rfl, ?_⟩) ?_
          rotate_left
          · (intro w' _; go_simp <;> with_reducible rfl)
          simp only [Act.put, List.setIfInBounds_toArray, List.set_cons_zero, List.set_cons_succ, List.getElem_toArray, List.getElem_cons_zero, List.getElem_cons_succ]
          refine wpAnyL_load (i := 7) (g1) (o1 + kk * 33) (ptCells x) (.tail _ (.head _)) (HR2.out) rfl (by kernel_rfl) (by kernel_rfl) (by kernel_rfl) (fun _ _ _ h => h) (by rfl) 53 (.tmp 110) rfl (by rfl) _ Try.underlying53 rfl (by rw [HPL.out]; exact size_pt) ?_
          simp only [Act.put, List.setIfInBounds_toArray, List.set_cons_zero, List.set_cons_succ, List.getElem_toArray, List.getElem_cons_zero, List.getElem_cons_succ]
          refine wpAnyL_pure (i := 8) (v := ?_) rfl (by kernel_rfl) (by kernel_rfl) (by kernel_rfl) (fun _ _ _ h => h) (Or.inl ⟨by rfl, ?_⟩) ?_
          rotate_left
          · (intro w' _; go_simp <;> with_reducible rfl)
          simp only [Act.put, List.setIfInBounds_toArray, List.set_cons_zero, List.set_cons_succ, List.getElem_toArray, List.getElem_cons_zero, List.getElem_cons_succ]
          refine wpAnyL_ready (rs := [0, 9]) (by kernel_rfl) (by simp) ?_
          refine (AllReadyL.cons rfl (fun K hK => ?_) (AllReadyL.cons rfl (fun K hK => ?_) AllReadyL.nil))
          · go_simp
            refine hK.out _ _ (Keeps.below (Joins.below_alloc1 _ _)) ?_
            clear hK K
            try simp only [Act.put, List.setIfInBounds_toArray, List.set_cons_zero, List.set_cons_succ, List.getElem_toArray, List.getElem_cons_zero, List.getElem_cons_succ]
            obtain ⟨v_1, hv_1⟩ : ∃ x, x = wd.alloc (.cells #[] 55) := ⟨_, rfl⟩
            rw [← hv_1]
            have Sv_1 := Lib.hid (show Below wd.heap.size wd v_1 by rw [hv_1]; exact Joins.below_alloc1 _ _)
            have hzv_1 : wd.heap.size < v_1.heap.size := by rw [hv_1]; simp
            have HBv_1 := Lib.hid (show Below wd.heap.size wd v_1 from HBD0.out.trans (Sv_1.out.mono HBD0.out.size))
            have hsv_1 : wd.heap.size ≤ v_1.heap.size := HBv_1.out.size
            have rowv_1 := Lib.hid (show v_1.ownsRow wd.heap.size 55 34 (.slice (some ⟨wd.heap.size, 0, none⟩) 0 0) 0 [] by rw [hv_1]; exact own_mono (empty_row wd _ _) HBD0.out.size)
            clear hv_1
            refine wpAnyL_ready (rs := [3, 9]) (by kernel_rfl) (by simp) ?_
            refine (AllReadyL.cons rfl (fun K hK => ?_) (AllReadyL.cons rfl (fun K hK => ?_) AllReadyL.nil))
            · refine step_app _ rfl (.tmp 104) (.tmp 106) _ rfl wd.heap.size 55 ii _ 34 64 Try.underlying25 Ii.out HIZ.out Iz1.out Iz2.out HZL.out (by decide) (.slice (some ⟨wd.heap.size, 0, none⟩) 0 0) 0 [] (by rfl) rowv_1.out A i c ((t.ins.zip us).flatMap pairCells) (by rfl) HLU.out (HSR.out v_1 HBv_1.out) HOU.out (by unfold maxLen; omega) (by omega) (by omega) ?_
              intro v'2 v_2 hrow hg hat
              have hb : Below wd.heap.size v_1 v_2 := own_low9 hg rowv_1.out (Nat.le_refl _) (by omega)
              refine hK.out _ _ (Keeps.kp (S := fun i => wd.heap.size ≤ i) ⟨hb.os, hb.tape, hb.output, hb.size, fun i hi hn => hb.block i (Nat.lt_of_not_le hn)⟩ (by
                intro p hp _
                simp only [List.mem_cons, List.not_mem_nil, or_false] at hp
                rcases hp with rfl | rfl
                · show ¬ wd.heap.size ≤ w.heap.size
                  omega
                · show ¬ wd.heap.size ≤ g1
                  omega)) ?_
              clear hK K
              try simp only [Act.put, List.setIfInBounds_toArray, List.set_cons_zero, List.set_cons_succ, List.getElem_toArray, List.getElem_cons_zero, List.getElem_cons_succ]
              have HBv_2 := Lib.hid (show Below wd.heap.size wd v_2 from HBv_1.out.trans hb)
              have hsv_2 : wd.heap.size ≤ v_2.heap.size := HBv_2.out.size
              have hzv_2 : v_1.heap.size ≤ v_2.heap.size := hb.size
              have kpv_2 := Lib.hid ((Kp.refl (fun q => Value.ownBlock (.slice (some ⟨wd.heap.size, 0, none⟩) 0 0) = some q) v_1).grown hg (fun k hk _ => hk))
              rw [List.nil_append, Nat.zero_add] at hrow
              obtain ⟨A2, c2, hv, hn2, hm2, _⟩ := own_form hrow
              subst hv
              have rowv_2 := Lib.hid hrow
              clear hrow hg hat hb
              refine wpAnyL_ready (rs := [9]) (by kernel_rfl) (by simp) ?_
              refine (AllReadyL.cons rfl (fun K hK => ?_) AllReadyL.nil)
              go_simp
              refine hK.out _ _ (Keeps.below (Joins.below_alloc1 _ _)) ?_
              clear hK K
              try simp only [Act.put, List.setIfInBounds_toArray, List.set_cons_zero, List.set_cons_succ, List.getElem_toArray, List.getElem_cons_zero, List.getElem_cons_succ]
              obtain ⟨v_3, hv_3⟩ : ∃ x, x = v_2.alloc (.cells #[.int .u8 (b8.toNat : Int)] 5) := ⟨_, rfl⟩
              rw [← hv_3]
              have Sv_3 := Lib.hid (show Below v_2.heap.size v_2 v_3 by rw [hv_3]; exact Joins.below_alloc1 _ _)
              have hzv_3 : v_2.heap.size < v_3.heap.size := by rw [hv_3]; simp
              have HBv_3 := Lib.hid (show Below wd.heap.size wd v_3 from HBv_2.out.trans (Sv_3.out.mono HBv_2.out.size))
              have hsv_3 : wd.heap.size ≤ v_3.heap.size := HBv_3.out.size
              have rowv_3 := Lib.hid (own_below rowv_2.out Sv_3.out)
              have keyv_3 := Lib.hid (show Bk v_3 v_2.heap.size 5 #[.int .u8 (b8.toNat : Int)] by rw [hv_3]; exact Bk.new _ _ _)
              have ltkeyv_3 : v_2.heap.size < v_3.heap.size := by omega
              have nkv_3 := Lib.hid (show (Value.ownBlock (.slice A2 i c2)) ≠ some v_2.heap.size from fun e => by have := (own_lt rowv_2.out _ e).2; omega)
              clear hv_3
              refine wpAnyL_pure (i := 10) (v := .agg (inCells x (.slice (some ⟨v_2.heap.size, 0, none⟩) 1 1)).toArray) rfl (by kernel_rfl) (by kernel_rfl) (by kernel_rfl) (fun _ _ _ h => h) (yieldsIf_build (by rfl) 55 _ rfl _ (by simpa [Act.eval] using built_in7 x (some ⟨v_2.heap.size, 0, none⟩) 1 1 HXK.out.1)) ?_
              simp only [Act.put, List.setIfInBounds_toArray, List.set_cons_zero, List.set_cons_succ, List.getElem_toArray, List.getElem_cons_zero, List.getElem_cons_succ]
              obtain ⟨cx, hcx⟩ : ∃ cx, cx = inCells x (.slice (some ⟨v_2.heap.size, 0, none⟩) 1 1) := ⟨_, rfl⟩
              rw [← hcx]
              have HCX := Lib.hid hcx
              have HCL := Lib.hid (show cx.length = 34 by rw [hcx]; exact inCells_len HXK.out _)
              have HC1 := Lib.hid (show ∀ u ∈ cx, u.oneCell' = true by rw [hcx]; exact inCells_one _ _ _ _)
              clear hcx
              refine wpAnyL_ready (rs := [11]) (by kernel_rfl) (by simp) ?_
              refine (AllReadyL.cons rfl (fun K hK => ?_) AllReadyL.nil)
              refine step_buildOne (by rfl) 25 55 (.tmp 114) rfl cx.toArray (by rfl) Try.underlying25 (by simp only [List.size_toArray, HCL.out]; exact size_in) zs HZI.out (by simp only [List.size_toArray, HCL.out]; omega) (by simp only [List.size_toArray, HCL.out]; omega) ?_
              refine hK.out _ _ (Keeps.below (Joins.below_alloc1 _ _)) ?_
              clear hK K
              try simp only [Act.put, List.setIfInBounds_toArray, List.set_cons_zero, List.set_cons_succ, List.getElem_toArray, List.getElem_cons_zero, List.getElem_cons_succ]
              obtain ⟨v_5, hv_5⟩ : ∃ x, x = v_3.alloc (.cells cx.toArray 55) := ⟨_, rfl⟩
              rw [← hv_5]
              have Sv_5 := Lib.hid (show Below v_3.heap.size v_3 v_5 by rw [hv_5]; exact Joins.below_alloc1 _ _)
              have hzv_5 : v_3.heap.size < v_5.heap.size := by rw [hv_5]; simp
              have HBv_5 := Lib.hid (show Below wd.heap.size wd v_5 from HBv_3.out.trans (Sv_5.out.mono HBv_3.out.size))
              have hsv_5 : wd.heap.size ≤ v_5.heap.size := HBv_5.out.size
              have keyv_5 := Lib.hid (keyv_3.out.below Sv_5.out (by omega))
              have ltkeyv_5 : v_2.heap.size < v_5.heap.size := by omega
              have rowv_5 := Lib.hid (own_below rowv_3.out Sv_5.out)
              have elv_5 := Lib.hid (show Bk v_5 v_3.heap.size 55 cx.toArray by rw [hv_5]; exact Bk.new _ _ _)
              have ltelv_5 : v_3.heap.size < v_5.heap.size := by omega
              have nev_5 := Lib.hid (show (Value.ownBlock (.slice A2 i c2)) ≠ some v_3.heap.size from fun e => by have := (own_lt rowv_3.out _ e).2; omega)
              clear hv_5
              refine wpAnyL_ready (rs := [12]) (by kernel_rfl) (by simp) ?_
              refine (AllReadyL.cons rfl (fun K hK => ?_) AllReadyL.nil)
              refine step_app _ rfl (.tmp 107) (.tmp 115) _ rfl wd.heap.size 55 ii _ 34 64 Try.underlying25 Ii.out HIZ.out Iz1.out Iz2.out HZL.out (by decide) (.slice A2 i c2) i ((t.ins.zip us).flatMap pairCells) (by rfl) rowv_5.out (some ⟨v_3.heap.size, 0, none⟩) 1 1 cx (by rfl) (by rw [HCL.out]) (src_of_bk elv_5.out) HC1.out (by unfold maxLen; omega) (by omega) (by omega) ?_
              intro v'6 v_6 hrow hg hat
              have hb : Below wd.heap.size v_5 v_6 := own_low9 hg rowv_5.out (Nat.le_refl _) (by omega)
              refine hK.out _ _ (Keeps.kp (S := fun i => wd.heap.size ≤ i) ⟨hb.os, hb.tape, hb.output, hb.size, fun i hi hn => hb.block i (Nat.lt_of_not_le hn)⟩ (by
                intro p hp _
                simp only [List.mem_cons, List.not_mem_nil, or_false] at hp
                rcases hp with rfl | rfl
                · show ¬ wd.heap.size ≤ w.heap.size
                  omega
                · show ¬ wd.heap.size ≤ g1
                  omega)) ?_
              clear hK K
              try simp only [Act.put, List.setIfInBounds_toArray, List.set_cons_zero, List.set_cons_succ, List.getElem_toArray, List.getElem_cons_zero, List.getElem_cons_succ]
              have HBv_6 := Lib.hid (show Below wd.heap.size wd v_6 from HBv_5.out.trans hb)
              have hsv_6 : wd.heap.size ≤ v_6.heap.size := HBv_6.out.size
              have hzv_6 : v_5.heap.size ≤ v_6.heap.size := hb.size
              have kpv_6 := Lib.hid ((Kp.refl (fun q => Value.ownBlock (.slice A2 i c2) = some q) v_5).grown hg (fun k hk _ => hk))
              have keyv_6 := Lib.hid (keyv_5.out.kp kpv_6.out nkv_3.out)
              have ltkeyv_6 : v_2.heap.size < v_6.heap.size := by omega
              have elv_6 := Lib.hid (elv_5.out.kp kpv_6.out nev_5.out)
              have ltelv_6 : v_3.heap.size < v_6.heap.size := by omega
              obtain ⟨A7, c7, hv7, hn7, hm7, _⟩ := own_form hrow
              subst hv7
              have HRW := Lib.hid hrow
              have HUV := Lib.hid (HUD.out.below HBv_6.out hzd)
              have HKV := Lib.hid (HKD.out.below HBv_6.out (by omega))
              have t7 : v_6.cell? ⟨wr.heap.size, 1, none⟩ = some (.slice A i c) := (HUV.out.cell 1).trans rfl
              have f7 := HUV.out.frozen 1
              clear hrow hg hat hb
              refine wpAnyL_pure (i := 13) (v := ?_) rfl (by kernel_rfl) (by kernel_rfl) (by kernel_rfl) (fun _ _ _ h => h) (Or.inl ⟨by rfl, ?_⟩) ?_
              rotate_left
              · (intro w' _; go_simp <;> with_reducible rfl)
              simp only [Act.put, List.setIfInBounds_toArray, List.set_cons_zero, List.set_cons_succ, List.getElem_toArray, List.getElem_cons_zero, List.getElem_cons_succ]
              refine wpAnyL_ready (rs := [14]) (by kernel_rfl) (by simp) ?_
              refine (AllReadyL.cons rfl (fun K hK => ?_) AllReadyL.nil)
              go_simp
              refine hK.out _ _ (Keeps.last (by kernel_rfl) _ _) ?_
              clear hK K
              try simp only [Act.put, List.setIfInBounds_toArray, List.set_cons_zero, List.set_cons_succ, List.getElem_toArray, List.getElem_cons_zero, List.getElem_cons_succ]
              refine wpAnyL_done (by kernel_rfl) ?_ _
              obtain ⟨wf, hwf⟩ : ∃ wf, wf = v_6.setCell ⟨wr.heap.size, 1, none⟩ (.slice A7 (i + 1) c7) := ⟨_, rfl⟩
              rw [← hwf]
              have KPF := Lib.hid (show Kp (fun q => q = wr.heap.size) v_6 wf by rw [hwf]; exact kp_cell1 _ _ _ _)
              have HRF := Lib.hid (own_kp HRW.out KPF.out (by intro q hq _; omega))
              have HYF := Lib.hid (keyv_6.out.kp KPF.out (by omega))
              have HBF := Lib.hid (show Below w.heap.size w wf by rw [hwf]; exact (HBD.out.trans (HBv_6.out.mono HBD.out.size)).setCell (by show w.heap.size ≤ wr.heap.size; omega) _)
              have HBDF := Lib.hid (show Below w.heap.size wd wf by rw [hwf]; exact (HBv_6.out.mono HBD.out.size).setCell (by show w.heap.size ≤ wr.heap.size; omega) _)
              have HUF := Lib.hid (show Bk wf wr.heap.size 28 #[.int .u32 (ver : Int), .slice A7 (i + 1) c7, .slice A' k c'] by rw [hwf]; exact HUV.out.set 1 _)
              have HKF := Lib.hid (HKV.out.kp KPF.out (by omega))
              clear hwf t7 f7
              have k1 : wf.cell? ⟨w.heap.size, 1, none⟩ = some (.slice A i c) := (HKF.out.cell 1).trans rfl
              have u0 : wf.cell? ⟨wr.heap.size, 0, none⟩ = some (.int .u32 (ver : Int)) := (HUF.out.cell 0).trans rfl
              have u1 : wf.cell? ⟨wr.heap.size, 1, none⟩ = some (.slice A7 (i + 1) c7) := (HUF.out.cell 1).trans rfl
              have u2 : wf.cell? ⟨wr.heap.size, 2, none⟩ = some (.slice A' k c') := (HUF.out.cell 2).trans rfl
              by_cases h8 : 8 ≤ i
              · have HCE := Lib.hid (may_check HT.out HN.out HM.out HV.out HBF.out HBF.out.size HU1.out HU3.out HBDF.out HXK.out HYF.out (by rw [← HCX.out]; exact HRF.out) HCK.out (if_pos h8))
                have h8' : (8 : Int) ≤ (i : Int) := by omega
                clear h8
                go_wp2_with fail
                refine HCE.out.mono ?_
                rintro e wz ⟨rfl, hbz⟩
                have HBZ := Lib.hid (HBF.out.trans (hbz.mono HBF.out.size))
                clear hbz
                go_wp2_with fail
                go_ret
                exact ⟨rfl, HBZ.out⟩
              · have HCE := Lib.hid (may_check HT.out HN.out HM.out HV.out HBF.out HBF.out.size HU1.out HU3.out HBDF.out HXK.out HYF.out (by rw [← HCX.out]; exact HRF.out) HCK.out (if_neg h8))
                have h8' : ¬ (8 : Int) ≤ (i : Int) := by omega
                clear h8
                go_wp2_with fail
                refine HCE.out.mono ?_
                rintro e wz ⟨rfl, hbz⟩
                have HBZ := Lib.hid (HBF.out.trans (hbz.mono HBF.out.size))
                clear hbz
                go_wp2_with fail
                go_ret
                exact ⟨rfl, HBZ.out⟩
            · go_simp
              refine hK.out _ _ (Keeps.below (Joins.below_alloc1 _ _)) ?_
              clear hK K
              try simp only [Act.put, List.setIfInBounds_toArray, List.set_cons_zero, List.set_cons_succ, List.getElem_toArray, List.getElem_cons_zero, List.getElem_cons_succ]
              obtain ⟨v_7, hv_7⟩ : ∃ x, x = v_1.alloc (.cells #[.int .u8 (b8.toNat : Int)] 5) := ⟨_, rfl⟩
              rw [← hv_7]
              have Sv_7 := Lib.hid (show Below v_1.heap.size v_1 v_7 by rw [hv_7]; exact Joins.below_alloc1 _ _)
              have hzv_7 : v_1.heap.size < v_7.heap.size := by rw [hv_7]; simp
              have HBv_7 := Lib.hid (show Below wd.heap.size wd v_7 from HBv_1.out.trans (Sv_7.out.mono HBv_1.out.size))
              have hsv_7 : wd.heap.size ≤ v_7.heap.size := HBv_7.out.size
              have rowv_7 := Lib.hid (own_below rowv_1.out Sv_7.out)
              have keyv_7 := Lib.hid (show Bk v_7 v_1.heap.size 5 #[.int .u8 (b8.toNat : Int)] by rw [hv_7]; exact Bk.new _ _ _)
              have ltkeyv_7 : v_1.heap.size < v_7.heap.size := by omega
              have nkv_7 := Lib.hid (show (Value.ownBlock (.slice (some ⟨wd.heap.size, 0, none⟩) 0 0)) ≠ some v_1.heap.size from fun e => by have := (own_lt rowv_1.out _ e).2; omega)
              clear hv_7
              refine wpAnyL_pure (i := 10) (v := .agg (inCells x (.slice (some ⟨v_1.heap.size, 0, none⟩) 1 1)).toArray) rfl (by kernel_rfl) (by kernel_rfl) (by kernel_rfl) (fun _ _ _ h => h) (yieldsIf_build (by rfl) 55 _ rfl _ (by simpa [Act.eval] using built_in7 x (some ⟨v_1.heap.size, 0, none⟩) 1 1 HXK.out.1)) ?_
              simp only [Act.put, List.setIfInBounds_toArray, List.set_cons_zero, List.set_cons_succ, List.getElem_toArray, List.getElem_cons_zero, List.getElem_cons_succ]
              obtain ⟨cx, hcx⟩ : ∃ cx, cx = inCells x (.slice (some ⟨v_1.heap.size, 0, none⟩) 1 1) := ⟨_, rfl⟩
              rw [← hcx]
              have HCX := Lib.hid hcx
              have HCL := Lib.hid (show cx.length = 34 by rw [hcx]; exact inCells_len HXK.out _)
              have HC1 := Lib.hid (show ∀ u ∈ cx, u.oneCell' = true by rw [hcx]; exact inCells_one _ _ _ _)
              clear hcx
              refine wpAnyL_ready (rs := [3, 11]) (by kernel_rfl) (by simp) ?_
              refine (AllReadyL.cons rfl (fun K hK => ?_) (AllReadyL.cons rfl (fun K hK => ?_) AllReadyL.nil))
              · refine step_app _ rfl (.tmp 104) (.tmp 106) _ rfl wd.heap.size 55 ii _ 34 64 Try.underlying25 Ii.out HIZ.out Iz1.out Iz2.out HZL.out (by decide) (.slice (some ⟨wd.heap.size, 0, none⟩) 0 0) 0 [] (by rfl) rowv_7.out A i c ((t.ins.zip us).flatMap pairCells) (by rfl) HLU.out (HSR.out v_7 HBv_7.out) HOU.out (by unfold maxLen; omega) (by omega) (by omega) ?_
                intro v'9 v_9 hrow hg hat
                have hb : Below wd.heap.size v_7 v_9 := own_low9 hg rowv_7.out (Nat.le_refl _) (by omega)
                refine hK.out _ _ (Keeps.kp (S := fun i => wd.heap.size ≤ i) ⟨hb.os, hb.tape, hb.output, hb.size, fun i hi hn => hb.block i (Nat.lt_of_not_le hn)⟩ (by
                  intro p hp _
                  simp only [List.mem_cons, List.not_mem_nil, or_false] at hp
                  rcases hp with rfl | rfl
                  · show ¬ wd.heap.size ≤ w.heap.size
                    omega
                  · show ¬ wd.heap.size ≤ g1
                    omega)) ?_
                clear hK K
                try simp only [Act.put, List.setIfInBounds_toArray, List.set_cons_zero, List.set_cons_succ, List.getElem_toArray, List.getElem_cons_zero, List.getElem_cons_succ]
                have HBv_9 := Lib.hid (show Below wd.heap.size wd v_9 from HBv_7.out.trans hb)
                have hsv_9 : wd.heap.size ≤ v_9.heap.size := HBv_9.out.size
                have hzv_9 : v_7.heap.size ≤ v_9.heap.size := hb.size
                have kpv_9 := Lib.hid ((Kp.refl (fun q => Value.ownBlock (.slice (some ⟨wd.heap.size, 0, none⟩) 0 0) = some q) v_7).grown hg (fun k hk _ => hk))
                have keyv_9 := Lib.hid (keyv_7.out.kp kpv_9.out nkv_7.out)
                have ltkeyv_9 : v_1.heap.size < v_9.heap.size := by omega
                rw [List.nil_append, Nat.zero_add] at hrow
                obtain ⟨A9, c9, hv, hn9, hm9, _⟩ := own_form hrow
                subst hv
                have nkv_9 := Lib.hid (show Value.ownBlock (.slice A9 i c9) ≠ some (v_1.heap.size) from fun e => by rcases hat with h | h <;> rw [h] at e; exact nkv_7.out e; have := Option.some.inj e; omega)
                have rowv_9 := Lib.hid hrow
                clear hrow hg hat hb
                refine wpAnyL_ready (rs := [11]) (by kernel_rfl) (by simp) ?_
                refine (AllReadyL.cons rfl (fun K hK => ?_) AllReadyL.nil)
                refine step_buildOne (by rfl) 25 55 (.tmp 114) rfl cx.toArray (by rfl) Try.underlying25 (by simp only [List.size_toArray, HCL.out]; exact size_in) zs HZI.out (by simp only [List.size_toArray, HCL.out]; omega) (by simp only [List.size_toArray, HCL.out]; omega) ?_
                refine hK.out _ _ (Keeps.below (Joins.below_alloc1 _ _)) ?_
                clear hK K
                try simp only [Act.put, List.setIfInBounds_toArray, List.set_cons_zero, List.set_cons_succ, List.getElem_toArray, List.getElem_cons_zero, List.getElem_cons_succ]
                obtain ⟨v_10, hv_10⟩ : ∃ x, x = v_9.alloc (.cells cx.toArray 55) := ⟨_, rfl⟩
                rw [← hv_10]
                have Sv_10 := Lib.hid (show Below v_9.heap.size v_9 v_10 by rw [hv_10]; exact Joins.below_alloc1 _ _)
                have hzv_10 : v_9.heap.size < v_10.heap.size := by rw [hv_10]; simp
                have HBv_10 := Lib.hid (show Below wd.heap.size wd v_10 from HBv_9.out.trans (Sv_10.out.mono HBv_9.out.size))
                have hsv_10 : wd.heap.size ≤ v_10.heap.size := HBv_10.out.size
                have keyv_10 := Lib.hid (keyv_9.out.below Sv_10.out (by omega))
                have ltkeyv_10 : v_1.heap.size < v_10.heap.size := by omega
                have rowv_10 := Lib.hid (own_below rowv_9.out Sv_10.out)
                have elv_10 := Lib.hid (show Bk v_10 v_9.heap.size 55 cx.toArray by rw [hv_10]; exact Bk.new _ _ _)
                have ltelv_10 : v_9.heap.size < v_10.heap.size := by omega
                have nev_10 := Lib.hid (show (Value.ownBlock (.slice A9 i c9)) ≠ some v_9.heap.size from fun e => by have := (own_lt rowv_9.out _ e).2; omega)
                clear hv_10
                refine wpAnyL_ready (rs := [12]) (by kernel_rfl) (by simp) ?_
                refine (AllReadyL.cons rfl (fun K hK => ?_) AllReadyL.nil)
                refine step_app _ rfl (.tmp 107) (.tmp 115) _ rfl wd.heap.size 55 ii _ 34 64 Try.underlying25 Ii.out HIZ.out Iz1.out Iz2.out HZL.out (by decide) (.slice A9 i c9) i ((t.ins.zip us).flatMap pairCells) (by rfl) rowv_10.out (some ⟨v_9.heap.size, 0, none⟩) 1 1 cx (by rfl) (by rw [HCL.out]) (src_of_bk elv_10.out) HC1.out (by unfold maxLen; omega) (by omega) (by omega) ?_
                intro v'11 v_11 hrow hg hat
                have hb : Below wd.heap.size v_10 v_11 := own_low9 hg rowv_10.out (Nat.le_refl _) (by omega)
                refine hK.out _ _ (Keeps.kp (S := fun i => wd.heap.size ≤ i) ⟨hb.os, hb.tape, hb.output, hb.size, fun i hi hn => hb.block i (Nat.lt_of_not_le hn)⟩ (by
                  intro p hp _
                  simp only [List.mem_cons, List.not_mem_nil, or_false] at hp
                  rcases hp with rfl | rfl
                  · show ¬ wd.heap.size ≤ w.heap.size
                    omega
                  · show ¬ wd.heap.size ≤ g1
                    omega)) ?_
                clear hK K
                try simp only [Act.put, List.setIfInBounds_toArray, List.set_cons_zero, List.set_cons_succ, List.getElem_toArray, List.getElem_cons_zero, List.getElem_cons_succ]
                have HBv_11 := Lib.hid (show Below wd.heap.size wd v_11 from HBv_10.out.trans hb)
                have hsv_11 : wd.heap.size ≤ v_11.heap.size := HBv_11.out.size
                have hzv_11 : v_10.heap.size ≤ v_11.heap.size := hb.size
                have kpv_11 := Lib.hid ((Kp.refl (fun q => Value.ownBlock (.slice A9 i c9) = some q) v_10).grown hg (fun k hk _ => hk))
                have keyv_11 := Lib.hid (keyv_10.out.kp kpv_11.out nkv_9.out)
                have ltkeyv_11 : v_1.heap.size < v_11.heap.size := by omega
                have elv_11 := Lib.hid (elv_10.out.kp kpv_11.out nev_10.out)
                have ltelv_11 : v_9.heap.size < v_11.heap.size := by omega
                obtain ⟨A7, c7, hv7, hn7, hm7, _⟩ := own_form hrow
                subst hv7
                have HRW := Lib.hid hrow
                have HUV := Lib.hid (HUD.out.below HBv_11.out hzd)
                have HKV := Lib.hid (HKD.out.below HBv_11.out (by omega))
                have t7 : v_11.cell? ⟨wr.heap.size, 1, none⟩ = some (.slice A i c) := (HUV.out.cell 1).trans rfl
                have f7 := HUV.out.frozen 1
                clear hrow hg hat hb
                refine wpAnyL_pure (i := 13) (v := ?_) rfl (by kernel_rfl) (by kernel_rfl) (by kernel_rfl) (fun _ _ _ h => h) (Or.inl ⟨by rfl, ?_⟩) ?_
                rotate_left
                · (intro w' _; go_simp <;> with_reducible rfl)
                simp only [Act.put, List.setIfInBounds_toArray, List.set_cons_zero, List.set_cons_succ, List.getElem_toArray, List.getElem_cons_zero, List.getElem_cons_succ]
                refine wpAnyL_ready (rs := [14]) (by kernel_rfl) (by simp) ?_
                refine (AllReadyL.cons rfl (fun K hK => ?_) AllReadyL.nil)
                go_simp
                refine hK.out _ _ (Keeps.last (by kernel_rfl) _ _) ?_
                clear hK K
                try simp only [Act.put, List.setIfInBounds_toArray, List.set_cons_zero, List.set_cons_succ, List.getElem_toArray, List.getElem_cons_zero, List.getElem_cons_succ]
                refine wpAnyL_done (by kernel_rfl) ?_ _
                obtain ⟨wf, hwf⟩ : ∃ wf, wf = v_11.setCell ⟨wr.heap.size, 1, none⟩ (.slice A7 (i + 1) c7) := ⟨_, rfl⟩
                rw [← hwf]
                have KPF := Lib.hid (show Kp (fun q => q = wr.heap.size) v_11 wf by rw [hwf]; exact kp_cell1 _ _ _ _)
                have HRF := Lib.hid (own_kp HRW.out KPF.out (by intro q hq _; omega))
                have HYF := Lib.hid (keyv_11.out.kp KPF.out (by omega))
                have HBF := Lib.hid (show Below w.heap.size w wf by rw [hwf]; exact (HBD.out.trans (HBv_11.out.mono HBD.out.size)).setCell (by show w.heap.size ≤ wr.heap.size; omega) _)
                have HBDF := Lib.hid (show Below w.heap.size wd wf by rw [hwf]; exact (HBv_11.out.mono HBD.out.size).setCell (by show w.heap.size ≤ wr.heap.size; omega) _)
                have HUF := Lib.hid (show Bk wf wr.heap.size 28 #[.int .u32 (ver : Int), .slice A7 (i + 1) c7, .slice A' k c'] by rw [hwf]; exact HUV.out.set 1 _)
                have HKF := Lib.hid (HKV.out.kp KPF.out (by omega))
                clear hwf t7 f7
                have k1 : wf.cell? ⟨w.heap.size, 1, none⟩ = some (.slice A i c) := (HKF.out.cell 1).trans rfl
                have u0 : wf.cell? ⟨wr.heap.size, 0, none⟩ = some (.int .u32 (ver : Int)) := (HUF.out.cell 0).trans rfl
                have u1 : wf.cell? ⟨wr.heap.size, 1, none⟩ = some (.slice A7 (i + 1) c7) := (HUF.out.cell 1).trans rfl
                have u2 : wf.cell? ⟨wr.heap.size, 2, none⟩ = some (.slice A' k c') := (HUF.out.cell 2).trans rfl
                by_cases h8 : 8 ≤ i
                · have HCE := Lib.hid (may_check HT.out HN.out HM.out HV.out HBF.out HBF.out.size HU1.out HU3.out HBDF.out HXK.out HYF.out (by rw [← HCX.out]; exact HRF.out) HCK.out (if_pos h8))
                  have h8' : (8 : Int) ≤ (i : Int) := by omega
                  clear h8
                  go_wp2_with fail
                  refine HCE.out.mono ?_
                  rintro e wz ⟨rfl, hbz⟩
                  have HBZ := Lib.hid (HBF.out.trans (hbz.mono HBF.out.size))
                  clear hbz
                  go_wp2_with fail
                  go_ret
                  exact ⟨rfl, HBZ.out⟩
                · have HCE := Lib.hid (may_check HT.out HN.out HM.out HV.out HBF.out HBF.out.size HU1.out HU3.out HBDF.out HXK.out HYF.out (by rw [← HCX.out]; exact HRF.out) HCK.out (if_neg h8))
                  have h8' : ¬ (8 : Int) ≤ (i : Int) := by omega
                  clear h8
                  go_wp2_with fail
                  refine HCE.out.mono ?_
                  rintro e wz ⟨rfl, hbz⟩
                  have HBZ := Lib.hid (HBF.out.trans (hbz.mono HBF.out.size))
                  clear hbz
                  go_wp2_with fail
                  go_ret
                  exact ⟨rfl, HBZ.out⟩
              · refine step_buildOne (by rfl) 25 55 (.tmp 114) rfl cx.toArray (by rfl) Try.underlying25 (by simp only [List.size_toArray, HCL.out]; exact size_in) zs HZI.out (by simp only [List.size_toArray, HCL.out]; omega) (by simp only [List.size_toArray, HCL.out]; omega) ?_
                refine hK.out _ _ (Keeps.below (Joins.below_alloc1 _ _)) ?_
                clear hK K
                try simp only [Act.put, List.setIfInBounds_toArray, List.set_cons_zero, List.set_cons_succ, List.getElem_toArray, List.getElem_cons_zero, List.getElem_cons_succ]
                obtain ⟨v_12, hv_12⟩ : ∃ x, x = v_7.alloc (.cells cx.toArray 55) := ⟨_, rfl⟩
                rw [← hv_12]
                have Sv_12 := Lib.hid (show Below v_7.heap.size v_7 v_12 by rw [hv_12]; exact Joins.below_alloc1 _ _)
                have hzv_12 : v_7.heap.size < v_12.heap.size := by rw [hv_12]; simp
                have HBv_12 := Lib.hid (show Below wd.heap.size wd v_12 from HBv_7.out.trans (Sv_12.out.mono HBv_7.out.size))
                have hsv_12 : wd.heap.size ≤ v_12.heap.size := HBv_12.out.size
                have keyv_12 := Lib.hid (keyv_7.out.below Sv_12.out (by omega))
                have ltkeyv_12 : v_1.heap.size < v_12.heap.size := by omega
                have rowv_12 := Lib.hid (own_below rowv_7.out Sv_12.out)
                have elv_12 := Lib.hid (show Bk v_12 v_7.heap.size 55 cx.toArray by rw [hv_12]; exact Bk.new _ _ _)
                have ltelv_12 : v_7.heap.size < v_12.heap.size := by omega
                have nev_12 := Lib.hid (show (Value.ownBlock (.slice (some ⟨wd.heap.size, 0, none⟩) 0 0)) ≠ some v_7.heap.size from fun e => by have := (own_lt rowv_7.out _ e).2; omega)
                clear hv_12
                refine wpAnyL_ready (rs := [3]) (by kernel_rfl) (by simp) ?_
                refine (AllReadyL.cons rfl (fun K hK => ?_) AllReadyL.nil)
                refine step_app _ rfl (.tmp 104) (.tmp 106) _ rfl wd.heap.size 55 ii _ 34 64 Try.underlying25 Ii.out HIZ.out Iz1.out Iz2.out HZL.out (by decide) (.slice (some ⟨wd.heap.size, 0, none⟩) 0 0) 0 [] (by rfl) rowv_12.out A i c ((t.ins.zip us).flatMap pairCells) (by rfl) HLU.out (HSR.out v_12 HBv_12.out) HOU.out (by unfold maxLen; omega) (by omega) (by omega) ?_
                intro v'13 v_13 hrow hg hat
                have hb : Below wd.heap.size v_12 v_13 := own_low9 hg rowv_12.out (Nat.le_refl _) (by omega)
                refine hK.out _ _ (Keeps.kp (S := fun i => wd.heap.size ≤ i) ⟨hb.os, hb.tape, hb.output, hb.size, fun i hi hn => hb.block i (Nat.lt_of_not_le hn)⟩ (by
                  intro p hp _
                  simp only [List.mem_cons, List.not_mem_nil, or_false] at hp
                  rcases hp with rfl | rfl
                  · show ¬ wd.heap.size ≤ w.heap.size
                    omega
                  · show ¬ wd.heap.size ≤ g1
                    omega)) ?_
                clear hK K
                try simp only [Act.put, List.setIfInBounds_toArray, List.set_cons_zero, List.set_cons_succ, List.getElem_toArray, List.getElem_cons_zero, List.getElem_cons_succ]
                have HBv_13 := Lib.hid (show Below wd.heap.size wd v_13 from HBv_12.out.trans hb)
                have hsv_13 : wd.heap.size ≤ v_13.heap.size := HBv_13.out.size
                have hzv_13 : v_12.heap.size ≤ v_13.heap.size := hb.size
                have kpv_13 := Lib.hid ((Kp.refl (fun q => Value.ownBlock (.slice (some ⟨wd.heap.size, 0, none⟩) 0 0) = some q) v_12).grown hg (fun k hk _ => hk))
                have keyv_13 := Lib.hid (keyv_12.out.kp kpv_13.out nkv_7.out)
                have ltkeyv_13 : v_1.heap.size < v_13.heap.size := by omega
                have elv_13 := Lib.hid (elv_12.out.kp kpv_13.out nev_12.out)
                have ltelv_13 : v_7.heap.size < v_13.heap.size := by omega
                rw [List.nil_append, Nat.zero_add] at hrow
                obtain ⟨A13, c13, hv, hn13, hm13, _⟩ := own_form hrow
                subst hv
                have nkv_13 := Lib.hid (show Value.ownBlock (.slice A13 i c13) ≠ some (v_1.heap.size) from fun e => by rcases hat with h | h <;> rw [h] at e; exact nkv_7.out e; have := Option.some.inj e; omega)
                have nev_13 := Lib.hid (show Value.ownBlock (.slice A13 i c13) ≠ some (v_7.heap.size) from fun e => by rcases hat with h | h <;> rw [h] at e; exact nev_12.out e; have := Option.some.inj e; omega)
                have rowv_13 := Lib.hid hrow
                clear hrow hg hat hb
                refine wpAnyL_ready (rs := [12]) (by kernel_rfl) (by simp) ?_
                refine (AllReadyL.cons rfl (fun K hK => ?_) AllReadyL.nil)
                refine step_app _ rfl (.tmp 107) (.tmp 115) _ rfl wd.heap.size 55 ii _ 34 64 Try.underlying25 Ii.out HIZ.out Iz1.out Iz2.out HZL.out (by decide) (.slice A13 i c13) i ((t.ins.zip us).flatMap pairCells) (by rfl) rowv_13.out (some ⟨v_7.heap.size, 0, none⟩) 1 1 cx (by rfl) (by rw [HCL.out]) (src_of_bk elv_13.out) HC1.out (by unfold maxLen; omega) (by omega) (by omega) ?_
                intro v'14 v_14 hrow hg hat
                have hb : Below wd.heap.size v_13 v_14 := own_low9 hg rowv_13.out (Nat.le_refl _) (by omega)
                refine hK.out _ _ (Keeps.kp (S := fun i => wd.heap.size ≤ i) ⟨hb.os, hb.tape, hb.output, hb.size, fun i hi hn => hb.block i (Nat.lt_of_not_le hn)⟩ (by
                  intro p hp _
                  simp only [List.mem_cons, List.not_mem_nil, or_false] at hp
                  rcases hp with rfl | rfl
                  · show ¬ wd.heap.size ≤ w.heap.size
                    omega
                  · show ¬ wd.heap.size ≤ g1
                    omega)) ?_
                clear hK K
                try simp only [Act.put, List.setIfInBounds_toArray, List.set_cons_zero, List.set_cons_succ, List.getElem_toArray, List.getElem_cons_zero, List.getElem_cons_succ]
                have HBv_14 := Lib.hid (show Below wd.heap.size wd v_14 from HBv_13.out.trans hb)
                have hsv_14 : wd.heap.size ≤ v_14.heap.size := HBv_14.out.size
                have hzv_14 : v_13.heap.size ≤ v_14.heap.size := hb.size
                have kpv_14 := Lib.hid ((Kp.refl (fun q => Value.ownBlock (.slice A13 i c13) = some q) v_13).grown hg (fun k hk _ => hk))
                have keyv_14 := Lib.hid (keyv_13.out.kp kpv_14.out nkv_13.out)
                have ltkeyv_14 : v_1.heap.size < v_14.heap.size := by omega
                have elv_14 := Lib.hid (elv_13.out.kp kpv_14.out nev_13.out)
                have ltelv_14 : v_7.heap.size < v_14.heap.size := by omega
                obtain ⟨A7, c7, hv7, hn7, hm7, _⟩ := own_form hrow
                subst hv7
                have HRW := Lib.hid hrow
                have HUV := Lib.hid (HUD.out.below HBv_14.out hzd)
                have HKV := Lib.hid (HKD.out.below HBv_14.out (by omega))
                have t7 : v_14.cell? ⟨wr.heap.size, 1, none⟩ = some (.slice A i c) := (HUV.out.cell 1).trans rfl
                have f7 := HUV.out.frozen 1
                clear hrow hg hat hb
                refine wpAnyL_pure (i := 13) (v := ?_) rfl (by kernel_rfl) (by kernel_rfl) (by kernel_rfl) (fun _ _ _ h => h) (Or.inl ⟨by rfl, ?_⟩) ?_
                rotate_left
                · (intro w' _; go_simp <;> with_reducible rfl)
                simp only [Act.put, List.setIfInBounds_toArray, List.set_cons_zero, List.set_cons_succ, List.getElem_toArray, List.getElem_cons_zero, List.getElem_cons_succ]
                refine wpAnyL_ready (rs := [14]) (by kernel_rfl) (by simp) ?_
                refine (AllReadyL.cons rfl (fun K hK => ?_) AllReadyL.nil)
                go_simp
                refine hK.out _ _ (Keeps.last (by kernel_rfl) _ _) ?_
                clear hK K
                try simp only [Act.put, List.setIfInBounds_toArray, List.set_cons_zero, List.set_cons_succ, List.getElem_toArray, List.getElem_cons_zero, List.getElem_cons_succ]
                refine wpAnyL_done (by kernel_rfl) ?_ _
                obtain ⟨wf, hwf⟩ : ∃ wf, wf = v_14.setCell ⟨wr.heap.size, 1, none⟩ (.slice A7 (i + 1) c7) := ⟨_, rfl⟩
                rw [← hwf]
                have KPF := Lib.hid (show Kp (fun q => q = wr.heap.size) v_14 wf by rw [hwf]; exact kp_cell1 _ _ _ _)
                have HRF := Lib.hid (own_kp HRW.out KPF.out (by intro q hq _; omega))
                have HYF := Lib.hid (keyv_14.out.kp KPF.out (by omega))
                have HBF := Lib.hid (show Below w.heap.size w wf by rw [hwf]; exact (HBD.out.trans (HBv_14.out.mono HBD.out.size)).setCell (by show w.heap.size ≤ wr.heap.size; omega) _)
                have HBDF := Lib.hid (show Below w.heap.size wd wf by rw [hwf]; exact (HBv_14.out.mono HBD.out.size).setCell (by show w.heap.size ≤ wr.heap.size; omega) _)
                have HUF := Lib.hid (show Bk wf wr.heap.size 28 #[.int .u32 (ver : Int), .slice A7 (i + 1) c7, .slice A' k c'] by rw [hwf]; exact HUV.out.set 1 _)
                have HKF := Lib.hid (HKV.out.kp KPF.out (by omega))
                clear hwf t7 f7
                have k1 : wf.cell? ⟨w.heap.size, 1, none⟩ = some (.slice A i c) := (HKF.out.cell 1).trans rfl
                have u0 : wf.cell? ⟨wr.heap.size, 0, none⟩ = some (.int .u32 (ver : Int)) := (HUF.out.cell 0).trans rfl
                have u1 : wf.cell? ⟨wr.heap.size, 1, none⟩ = some (.slice A7 (i + 1) c7) := (HUF.out.cell 1).trans rfl
                have u2 : wf.cell? ⟨wr.heap.size, 2, none⟩ = some (.slice A' k c') := (HUF.out.cell 2).trans rfl
                by_cases h8 : 8 ≤ i
                · have HCE := Lib.hid (may_check HT.out HN.out HM.out HV.out HBF.out HBF.out.size HU1.out HU3.out HBDF.out HXK.out HYF.out (by rw [← HCX.out]; exact HRF.out) HCK.out (if_pos h8))
                  have h8' : (8 : Int) ≤ (i : Int) := by omega
                  clear h8
                  go_wp2_with fail
                  refine HCE.out.mono ?_
                  rintro e wz ⟨rfl, hbz⟩
                  have HBZ := Lib.hid (HBF.out.trans (hbz.mono HBF.out.size))
                  clear hbz
                  go_wp2_with fail
                  go_ret
                  exact ⟨rfl, HBZ.out⟩
                · have HCE := Lib.hid (may_check HT.out HN.out HM.out HV.out HBF.out HBF.out.size HU1.out HU3.out HBDF.out HXK.out HYF.out (by rw [← HCX.out]; exact HRF.out) HCK.out (if_neg h8))
                  have h8' : ¬ (8 : Int) ≤ (i : Int) := by omega
                  clear h8
                  go_wp2_with fail
                  refine HCE.out.mono ?_
                  rintro e wz ⟨rfl, hbz⟩
                  have HBZ := Lib.hid (HBF.out.trans (hbz.mono HBF.out.size))
                  clear hbz
                  go_wp2_with fail
                  go_ret
                  exact ⟨rfl, HBZ.out⟩
          · go_simp
            refine hK.out _ _ (Keeps.below (Joins.below_alloc1 _ _)) ?_
            clear hK K
            try simp only [Act.put, List.setIfInBounds_toArray, List.set_cons_zero, List.set_cons_succ, List.getElem_toArray, List.getElem_cons_zero, List.getElem_cons_succ]
            obtain ⟨v_15, hv_15⟩ : ∃ x, x = wd.alloc (.cells #[.int .u8 (b8.toNat : Int)] 5) := ⟨_, rfl⟩
            rw [← hv_15]
            have Sv_15 := Lib.hid (show Below wd.heap.size wd v_15 by rw [hv_15]; exact Joins.below_alloc1 _ _)
            have hzv_15 : wd.heap.size < v_15.heap.size := by rw [hv_15]; simp
            have HBv_15 := Lib.hid (show Below wd.heap.size wd v_15 from HBD0.out.trans (Sv_15.out.mono HBD0.out.size))
            have hsv_15 : wd.heap.size ≤ v_15.heap.size := HBv_15.out.size
            have keyv_15 := Lib.hid (show Bk v_15 wd.heap.size 5 #[.int .u8 (b8.toNat : Int)] by rw [hv_15]; exact Bk.new _ _ _)
            have ltkeyv_15 : wd.heap.size < v_15.heap.size := by omega
            clear hv_15
            refine wpAnyL_pure (i := 10) (v := .agg (inCells x (.slice (some ⟨wd.heap.size, 0, none⟩) 1 1)).toArray) rfl (by kernel_rfl) (by kernel_rfl) (by kernel_rfl) (fun _ _ _ h => h) (yieldsIf_build (by rfl) 55 _ rfl _ (by simpa [Act.eval] using built_in7 x (some ⟨wd.heap.size, 0, none⟩) 1 1 HXK.out.1)) ?_
            simp only [Act.put, List.setIfInBounds_toArray, List.set_cons_zero, List.set_cons_succ, List.getElem_toArray, List.getElem_cons_zero, List.getElem_cons_succ]
            obtain ⟨cx, hcx⟩ : ∃ cx, cx = inCells x (.slice (some ⟨wd.heap.size, 0, none⟩) 1 1) := ⟨_, rfl⟩
            rw [← hcx]
            have HCX := Lib.hid hcx
            have HCL := Lib.hid (show cx.length = 34 by rw [hcx]; exact inCells_len HXK.out _)
            have HC1 := Lib.hid (show ∀ u ∈ cx, u.oneCell' = true by rw [hcx]; exact inCells_one _ _ _ _)
            clear hcx
            refine wpAnyL_ready (rs := [0, 11]) (by kernel_rfl) (by simp) ?_
            refine (AllReadyL.cons rfl (fun K hK => ?_) (AllReadyL.cons rfl (fun K hK => ?_) AllReadyL.nil))
            · go_simp
              refine hK.out _ _ (Keeps.below (Joins.below_alloc1 _ _)) ?_
              clear hK K
              try simp only [Act.put, List.setIfInBounds_toArray, List.set_cons_zero, List.set_cons_succ, List.getElem_toArray, List.getElem_cons_zero, List.getElem_cons_succ]
              obtain ⟨v_17, hv_17⟩ : ∃ x, x = v_15.alloc (.cells #[] 55) := ⟨_, rfl⟩
              rw [← hv_17]
              have Sv_17 := Lib.hid (show Below v_15.heap.size v_15 v_17 by rw [hv_17]; exact Joins.below_alloc1 _ _)
              have hzv_17 : v_15.heap.size < v_17.heap.size := by rw [hv_17]; simp
              have HBv_17 := Lib.hid (show Below wd.heap.size wd v_17 from HBv_15.out.trans (Sv_17.out.mono HBv_15.out.size))
              have hsv_17 : wd.heap.size ≤ v_17.heap.size := HBv_17.out.size
              have keyv_17 := Lib.hid (keyv_15.out.below Sv_17.out (by omega))
              have ltkeyv_17 : wd.heap.size < v_17.heap.size := by omega
              have rowv_17 := Lib.hid (show v_17.ownsRow wd.heap.size 55 34 (.slice (some ⟨v_15.heap.size, 0, none⟩) 0 0) 0 [] by rw [hv_17]; exact own_mono (empty_row v_15 _ _) HBv_15.out.size)
              have nkv_17 := Lib.hid (show (Value.slice (some ⟨v_15.heap.size, 0, none⟩) 0 0).ownBlock ≠ some (wd.heap.size) from fun e => by have := Option.some.inj e; simp at this; omega)
              clear hv_17
              refine wpAnyL_ready (rs := [3, 11]) (by kernel_rfl) (by simp) ?_
              refine (AllReadyL.cons rfl (fun K hK => ?_) (AllReadyL.cons rfl (fun K hK => ?_) AllReadyL.nil))
              · refine step_app _ rfl (.tmp 104) (.tmp 106) _ rfl wd.heap.size 55 ii _ 34 64 Try.underlying25 Ii.out HIZ.out Iz1.out Iz2.out HZL.out (by decide) (.slice (some ⟨v_15.heap.size, 0, none⟩) 0 0) 0 [] (by rfl) rowv_17.out A i c ((t.ins.zip us).flatMap pairCells) (by rfl) HLU.out (HSR.out v_17 HBv_17.out) HOU.out (by unfold maxLen; omega) (by omega) (by omega) ?_
                intro v'18 v_18 hrow hg hat
                have hb : Below wd.heap.size v_17 v_18 := own_low9 hg rowv_17.out (Nat.le_refl _) (by omega)
                refine hK.out _ _ (Keeps.kp (S := fun i => wd.heap.size ≤ i) ⟨hb.os, hb.tape, hb.output, hb.size, fun i hi hn => hb.block i (Nat.lt_of_not_le hn)⟩ (by
                  intro p hp _
                  simp only [List.mem_cons, List.not_mem_nil, or_false] at hp
                  rcases hp with rfl | rfl
                  · show ¬ wd.heap.size ≤ w.heap.size
                    omega
                  · show ¬ wd.heap.size ≤ g1
                    omega)) ?_
                clear hK K
                try simp only [Act.put, List.setIfInBounds_toArray, List.set_cons_zero, List.set_cons_succ, List.getElem_toArray, List.getElem_cons_zero, List.getElem_cons_succ]
                have HBv_18 := Lib.hid (show Below wd.heap.size wd v_18 from HBv_17.out.trans hb)
                have hsv_18 : wd.heap.size ≤ v_18.heap.size := HBv_18.out.size
                have hzv_18 : v_17.heap.size ≤ v_18.heap.size := hb.size
                have kpv_18 := Lib.hid ((Kp.refl (fun q => Value.ownBlock (.slice (some ⟨v_15.heap.size, 0, none⟩) 0 0) = some q) v_17).grown hg (fun k hk _ => hk))
                have keyv_18 := Lib.hid (keyv_17.out.kp kpv_18.out nkv_17.out)
                have ltkeyv_18 : wd.heap.size < v_18.heap.size := by omega
                rw [List.nil_append, Nat.zero_add] at hrow
                obtain ⟨A18, c18, hv, hn18, hm18, _⟩ := own_form hrow
                subst hv
                have nkv_18 := Lib.hid (show Value.ownBlock (.slice A18 i c18) ≠ some (wd.heap.size) from fun e => by rcases hat with h | h <;> rw [h] at e; exact nkv_17.out e; have := Option.some.inj e; omega)
                have rowv_18 := Lib.hid hrow
                clear hrow hg hat hb
                refine wpAnyL_ready (rs := [11]) (by kernel_rfl) (by simp) ?_
                refine (AllReadyL.cons rfl (fun K hK => ?_) AllReadyL.nil)
                refine step_buildOne (by rfl) 25 55 (.tmp 114) rfl cx.toArray (by rfl) Try.underlying25 (by simp only [List.size_toArray, HCL.out]; exact size_in) zs HZI.out (by simp only [List.size_toArray, HCL.out]; omega) (by simp only [List.size_toArray, HCL.out]; omega) ?_
                refine hK.out _ _ (Keeps.below (Joins.below_alloc1 _ _)) ?_
                clear hK K
                try simp only [Act.put, List.setIfInBounds_toArray, List.set_cons_zero, List.set_cons_succ, List.getElem_toArray, List.getElem_cons_zero, List.getElem_cons_succ]
                obtain ⟨v_19, hv_19⟩ : ∃ x, x = v_18.alloc (.cells cx.toArray 55) := ⟨_, rfl⟩
                rw [← hv_19]
                have Sv_19 := Lib.hid (show Below v_18.heap.size v_18 v_19 by rw [hv_19]; exact Joins.below_alloc1 _ _)
                have hzv_19 : v_18.heap.size < v_19.heap.size := by rw [hv_19]; simp
                have HBv_19 := Lib.hid (show Below wd.heap.size wd v_19 from HBv_18.out.trans (Sv_19.out.mono HBv_18.out.size))
                have hsv_19 : wd.heap.size ≤ v_19.heap.size := HBv_19.out.size
                have keyv_19 := Lib.hid (keyv_18.out.below Sv_19.out (by omega))
                have ltkeyv_19 : wd.heap.size < v_19.heap.size := by omega
                have rowv_19 := Lib.hid (own_below rowv_18.out Sv_19.out)
                have elv_19 := Lib.hid (show Bk v_19 v_18.heap.size 55 cx.toArray by rw [hv_19]; exact Bk.new _ _ _)
                have ltelv_19 : v_18.heap.size < v_19.heap.size := by omega
                have nev_19 := Lib.hid (show (Value.ownBlock (.slice A18 i c18)) ≠ some v_18.heap.size from fun e => by have := (own_lt rowv_18.out _ e).2; omega)
                clear hv_19
                refine wpAnyL_ready (rs := [12]) (by kernel_rfl) (by simp) ?_
                refine (AllReadyL.cons rfl (fun K hK => ?_) AllReadyL.nil)
                refine step_app _ rfl (.tmp 107) (.tmp 115) _ rfl wd.heap.size 55 ii _ 34 64 Try.underlying25 Ii.out HIZ.out Iz1.out Iz2.out HZL.out (by decide) (.slice A18 i c18) i ((t.ins.zip us).flatMap pairCells) (by rfl) rowv_19.out (some ⟨v_18.heap.size, 0, none⟩) 1 1 cx (by rfl) (by rw [HCL.out]) (src_of_bk elv_19.out) HC1.out (by unfold maxLen; omega) (by omega) (by omega) ?_
                intro v'20 v_20 hrow hg hat
                have hb : Below wd.heap.size v_19 v_20 := own_low9 hg rowv_19.out (Nat.le_refl _) (by omega)
                refine hK.out _ _ (Keeps.kp (S := fun i => wd.heap.size ≤ i) ⟨hb.os, hb.tape, hb.output, hb.size, fun i hi hn => hb.block i (Nat.lt_of_not_le hn)⟩ (by
                  intro p hp _
                  simp only [List.mem_cons, List.not_mem_nil, or_false] at hp
                  rcases hp with rfl | rfl
                  · show ¬ wd.heap.size ≤ w.heap.size
                    omega
                  · show ¬ wd.heap.size ≤ g1
                    omega)) ?_
                clear hK K
                try simp only [Act.put, List.setIfInBounds_toArray, List.set_cons_zero, List.set_cons_succ, List.getElem_toArray, List.getElem_cons_zero, List.getElem_cons_succ]
                have HBv_20 := Lib.hid (show Below wd.heap.size wd v_20 from HBv_19.out.trans hb)
                have hsv_20 : wd.heap.size ≤ v_20.heap.size := HBv_20.out.size
                have hzv_20 : v_19.heap.size ≤ v_20.heap.size := hb.size
                have kpv_20 := Lib.hid ((Kp.refl (fun q => Value.ownBlock (.slice A18 i c18) = some q) v_19).grown hg (fun k hk _ => hk))
                have keyv_20 := Lib.hid (keyv_19.out.kp kpv_20.out nkv_18.out)
                have ltkeyv_20 : wd.heap.size < v_20.heap.size := by omega
                have elv_20 := Lib.hid (elv_19.out.kp kpv_20.out nev_19.out)
                have ltelv_20 : v_18.heap.size < v_20.heap.size := by omega
                obtain ⟨A7, c7, hv7, hn7, hm7, _⟩ := own_form hrow
                subst hv7
                have HRW := Lib.hid hrow
                have HUV := Lib.hid (HUD.out.below HBv_20.out hzd)
                have HKV := Lib.hid (HKD.out.below HBv_20.out (by omega))
                have t7 : v_20.cell? ⟨wr.heap.size, 1, none⟩ = some (.slice A i c) := (HUV.out.cell 1).trans rfl
                have f7 := HUV.out.frozen 1
                clear hrow hg hat hb
                refine wpAnyL_pure (i := 13) (v := ?_) rfl (by kernel_rfl) (by kernel_rfl) (by kernel_rfl) (fun _ _ _ h => h) (Or.inl ⟨by rfl, ?_⟩) ?_
                rotate_left
                · (intro w' _; go_simp <;> with_reducible rfl)
                simp only [Act.put, List.setIfInBounds_toArray, List.set_cons_zero, List.set_cons_succ, List.getElem_toArray, List.getElem_cons_zero, List.getElem_cons_succ]
                refine wpAnyL_ready (rs := [14]) (by kernel_rfl) (by simp) ?_
                refine (AllReadyL.cons rfl (fun K hK => ?_) AllReadyL.nil)
                go_simp
                refine hK.out _ _ (Keeps.last (by kernel_rfl) _ _) ?_
                clear hK K
                try simp only [Act.put, List.setIfInBounds_toArray, List.set_cons_zero, List.set_cons_succ, List.getElem_toArray, List.getElem_cons_zero, List.getElem_cons_succ]
                refine wpAnyL_done (by kernel_rfl) ?_ _
                obtain ⟨wf, hwf⟩ : ∃ wf, wf = v_20.setCell ⟨wr.heap.size, 1, none⟩ (.slice A7 (i + 1) c7) := ⟨_, rfl⟩
                rw [← hwf]
                have KPF := Lib.hid (show Kp (fun q => q = wr.heap.size) v_20 wf by rw [hwf]; exact kp_cell1 _ _ _ _)
                have HRF := Lib.hid (own_kp HRW.out KPF.out (by intro q hq _; omega))
                have HYF := Lib.hid (keyv_20.out.kp KPF.out (by omega))
                have HBF := Lib.hid (show Below w.heap.size w wf by rw [hwf]; exact (HBD.out.trans (HBv_20.out.mono HBD.out.size)).setCell (by show w.heap.size ≤ wr.heap.size; omega) _)
                have HBDF := Lib.hid (show Below w.heap.size wd wf by rw [hwf]; exact (HBv_20.out.mono HBD.out.size).setCell (by show w.heap.size ≤ wr.heap.size; omega) _)
                have HUF := Lib.hid (show Bk wf wr.heap.size 28 #[.int .u32 (ver : Int), .slice A7 (i + 1) c7, .slice A' k c'] by rw [hwf]; exact HUV.out.set 1 _)
                have HKF := Lib.hid (HKV.out.kp KPF.out (by omega))
                clear hwf t7 f7
                have k1 : wf.cell? ⟨w.heap.size, 1, none⟩ = some (.slice A i c) := (HKF.out.cell 1).trans rfl
                have u0 : wf.cell? ⟨wr.heap.size, 0, none⟩ = some (.int .u32 (ver : Int)) := (HUF.out.cell 0).trans rfl
                have u1 : wf.cell? ⟨wr.heap.size, 1, none⟩ = some (.slice A7 (i + 1) c7) := (HUF.out.cell 1).trans rfl
                have u2 : wf.cell? ⟨wr.heap.size, 2, none⟩ = some (.slice A' k c') := (HUF.out.cell 2).trans rfl
                by_cases h8 : 8 ≤ i
                · have HCE := Lib.hid (may_check HT.out HN.out HM.out HV.out HBF.out HBF.out.size HU1.out HU3.out HBDF.out HXK.out HYF.out (by rw [← HCX.out]; exact HRF.out) HCK.out (if_pos h8))
                  have h8' : (8 : Int) ≤ (i : Int) := by omega
                  clear h8
                  go_wp2_with fail
                  refine HCE.out.mono ?_
                  rintro e wz ⟨rfl, hbz⟩
                  have HBZ := Lib.hid (HBF.out.trans (hbz.mono HBF.out.size))
                  clear hbz
                  go_wp2_with fail
                  go_ret
                  exact ⟨rfl, HBZ.out⟩
                · have HCE := Lib.hid (may_check HT.out HN.out HM.out HV.out HBF.out HBF.out.size HU1.out HU3.out HBDF.out HXK.out HYF.out (by rw [← HCX.out]; exact HRF.out) HCK.out (if_neg h8))
                  have h8' : ¬ (8 : Int) ≤ (i : Int) := by omega
                  clear h8
                  go_wp2_with fail
                  refine HCE.out.mono ?_
                  rintro e wz ⟨rfl, hbz⟩
                  have HBZ := Lib.hid (HBF.out.trans (hbz.mono HBF.out.size))
                  clear hbz
                  go_wp2_with fail
                  go_ret
                  exact ⟨rfl, HBZ.out⟩
              · refine step_buildOne (by rfl) 25 55 (.tmp 114) rfl cx.toArray (by rfl) Try.underlying25 (by simp only [List.size_toArray, HCL.out]; exact size_in) zs HZI.out (by simp only [List.size_toArray, HCL.out]; omega) (by simp only [List.size_toArray, HCL.out]; omega) ?_
                refine hK.out _ _ (Keeps.below (Joins.below_alloc1 _ _)) ?_
                clear hK K
                try simp only [Act.put, List.setIfInBounds_toArray, List.set_cons_zero, List.set_cons_succ, List.getElem_toArray, List.getElem_cons_zero, List.getElem_cons_succ]
                obtain ⟨v_21, hv_21⟩ : ∃ x, x = v_17.alloc (.cells cx.toArray 55) := ⟨_, rfl⟩
                rw [← hv_21]
                have Sv_21 := Lib.hid (show Below v_17.heap.size v_17 v_21 by rw [hv_21]; exact Joins.below_alloc1 _ _)
                have hzv_21 : v_17.heap.size < v_21.heap.size := by rw [hv_21]; simp
                have HBv_21 := Lib.hid (show Below wd.heap.size wd v_21 from HBv_17.out.trans (Sv_21.out.mono HBv_17.out.size))
                have hsv_21 : wd.heap.size ≤ v_21.heap.size := HBv_21.out.size
                have keyv_21 := Lib.hid (keyv_17.out.below Sv_21.out (by omega))
                have ltkeyv_21 : wd.heap.size < v_21.heap.size := by omega
                have rowv_21 := Lib.hid (own_below rowv_17.out Sv_21.out)
                have elv_21 := Lib.hid (show Bk v_21 v_17.heap.size 55 cx.toArray by rw [hv_21]; exact Bk.new _ _ _)
                have ltelv_21 : v_17.heap.size < v_21.heap.size := by omega
                have nev_21 := Lib.hid (show (Value.ownBlock (.slice (some ⟨v_15.heap.size, 0, none⟩) 0 0)) ≠ some v_17.heap.size from fun e => by have := (own_lt rowv_17.out _ e).2; omega)
                clear hv_21
                refine wpAnyL_ready (rs := [3]) (by kernel_rfl) (by simp) ?_
                refine (AllReadyL.cons rfl (fun K hK => ?_) AllReadyL.nil)
                refine step_app _ rfl (.tmp 104) (.tmp 106) _ rfl wd.heap.size 55 ii _ 34 64 Try.underlying25 Ii.out HIZ.out Iz1.out Iz2.out HZL.out (by decide) (.slice (some ⟨v_15.heap.size, 0, none⟩) 0 0) 0 [] (by rfl) rowv_21.out A i c ((t.ins.zip us).flatMap pairCells) (by rfl) HLU.out (HSR.out v_21 HBv_21.out) HOU.out (by unfold maxLen; omega) (by omega) (by omega) ?_
                intro v'22 v_22 hrow hg hat
                have hb : Below wd.heap.size v_21 v_22 := own_low9 hg rowv_21.out (Nat.le_refl _) (by omega)
                refine hK.out _ _ (Keeps.kp (S := fun i => wd.heap.size ≤ i) ⟨hb.os, hb.tape, hb.output, hb.size, fun i hi hn => hb.block i (Nat.lt_of_not_le hn)⟩ (by
                  intro p hp _
                  simp only [List.mem_cons, List.not_mem_nil, or_false] at hp
                  rcases hp with rfl | rfl
                  · show ¬ wd.heap.size ≤ w.heap.size
                    omega
                  · show ¬ wd.heap.size ≤ g1
                    omega)) ?_
                clear hK K
                try simp only [Act.put, List.setIfInBounds_toArray, List.set_cons_zero, List.set_cons_succ, List.getElem_toArray, List.getElem_cons_zero, List.getElem_cons_succ]
                have HBv_22 := Lib.hid (show Below wd.heap.size wd v_22 from HBv_21.out.trans hb)
                have hsv_22 : wd.heap.size ≤ v_22.heap.size := HBv_22.out.size
                have hzv_22 : v_21.heap.size ≤ v_22.heap.size := hb.size
                have kpv_22 := Lib.hid ((Kp.refl (fun q => Value.ownBlock (.slice (some ⟨v_15.heap.size, 0, none⟩) 0 0) = some q) v_21).grown hg (fun k hk _ => hk))
                have keyv_22 := Lib.hid (keyv_21.out.kp kpv_22.out nkv_17.out)
                have ltkeyv_22 : wd.heap.size < v_22.heap.size := by omega
                have elv_22 := Lib.hid (elv_21.out.kp kpv_22.out nev_21.out)
                have ltelv_22 : v_17.heap.size < v_22.heap.size := by omega
                rw [List.nil_append, Nat.zero_add] at hrow
                obtain ⟨A22, c22, hv, hn22, hm22, _⟩ := own_form hrow
                subst hv
                have nkv_22 := Lib.hid (show Value.ownBlock (.slice A22 i c22) ≠ some (wd.heap.size) from fun e => by rcases hat with h | h <;> rw [h] at e; exact nkv_17.out e; have := Option.some.inj e; omega)
                have nev_22 := Lib.hid (show Value.ownBlock (.slice A22 i c22) ≠ some (v_17.heap.size) from fun e => by rcases hat with h | h <;> rw [h] at e; exact nev_21.out e; have := Option.some.inj e; omega)
                have rowv_22 := Lib.hid hrow
                clear hrow hg hat hb
                refine wpAnyL_ready (rs := [12]) (by kernel_rfl) (by simp) ?_
                refine (AllReadyL.cons rfl (fun K hK => ?_) AllReadyL.nil)
                refine step_app _ rfl (.tmp 107) (.tmp 115) _ rfl wd.heap.size 55 ii _ 34 64 Try.underlying25 Ii.out HIZ.out Iz1.out Iz2.out HZL.out (by decide) (.slice A22 i c22) i ((t.ins.zip us).flatMap pairCells) (by rfl) rowv_22.out (some ⟨v_17.heap.size, 0, none⟩) 1 1 cx (by rfl) (by rw [HCL.out]) (src_of_bk elv_22.out) HC1.out (by unfold maxLen; omega) (by omega) (by omega) ?_
                intro v'23 v_23 hrow hg hat
                have hb : Below wd.heap.size v_22 v_23 := own_low9 hg rowv_22.out (Nat.le_refl _) (by omega)
                refine hK.out _ _ (Keeps.kp (S := fun i => wd.heap.size ≤ i) ⟨hb.os, hb.tape, hb.output, hb.size, fun i hi hn => hb.block i (Nat.lt_of_not_le hn)⟩ (by
                  intro p hp _
                  simp only [List.mem_cons, List.not_mem_nil, or_false] at hp
                  rcases hp with rfl | rfl
                  · show ¬ wd.heap.size ≤ w.heap.size
                    omega
                  · show ¬ wd.heap.size ≤ g1
                    omega)) ?_
                clear hK K
                try simp only [Act.put, List.setIfInBounds_toArray, List.set_cons_zero, List.set_cons_succ, List.getElem_toArray, List.getElem_cons_zero, List.getElem_cons_succ]
                have HBv_23 := Lib.hid (show Below wd.heap.size wd v_23 from HBv_22.out.trans hb)
                have hsv_23 : wd.heap.size ≤ v_23.heap.size := HBv_23.out.size
                have hzv_23 : v_22.heap.size ≤ v_23.heap.size := hb.size
                have kpv_23 := Lib.hid ((Kp.refl (fun q => Value.ownBlock (.slice A22 i c22) = some q) v_22).grown hg (fun k hk _ => hk))
                have keyv_23 := Lib.hid (keyv_22.out.kp kpv_23.out nkv_22.out)
                have ltkeyv_23 : wd.heap.size < v_23.heap.size := by omega
                have elv_23 := Lib.hid (elv_22.out.kp kpv_23.out nev_22.out)
                have ltelv_23 : v_17.heap.size < v_23.heap.size := by omega
                obtain ⟨A7, c7, hv7, hn7, hm7, _⟩ := own_form hrow
                subst hv7
                have HRW := Lib.hid hrow
                have HUV := Lib.hid (HUD.out.below HBv_23.out hzd)
                have HKV := Lib.hid (HKD.out.below HBv_23.out (by omega))
                have t7 : v_23.cell? ⟨wr.heap.size, 1, none⟩ = some (.slice A i c) := (HUV.out.cell 1).trans rfl
                have f7 := HUV.out.frozen 1
                clear hrow hg hat hb
                refine wpAnyL_pure (i := 13) (v := ?_) rfl (by kernel_rfl) (by kernel_rfl) (by kernel_rfl) (fun _ _ _ h => h) (Or.inl ⟨by rfl, ?_⟩) ?_
                rotate_left
                · (intro w' _; go_simp <;> with_reducible rfl)
                simp only [Act.put, List.setIfInBounds_toArray, List.set_cons_zero, List.set_cons_succ, List.getElem_toArray, List.getElem_cons_zero, List.getElem_cons_succ]
                refine wpAnyL_ready (rs := [14]) (by kernel_rfl) (by simp) ?_
                refine (AllReadyL.cons rfl (fun K hK => ?_) AllReadyL.nil)
                go_simp
                refine hK.out _ _ (Keeps.last (by kernel_rfl) _ _) ?_
                clear hK K
                try simp only [Act.put, List.setIfInBounds_toArray, List.set_cons_zero, List.set_cons_succ, List.getElem_toArray, List.getElem_cons_zero, List.getElem_cons_succ]
                refine wpAnyL_done (by kernel_rfl) ?_ _
                obtain ⟨wf, hwf⟩ : ∃ wf, wf = v_23.setCell ⟨wr.heap.size, 1, none⟩ (.slice A7 (i + 1) c7) := ⟨_, rfl⟩
                rw [← hwf]
                have KPF := Lib.hid (show Kp (fun q => q = wr.heap.size) v_23 wf by rw [hwf]; exact kp_cell1 _ _ _ _)
                have HRF := Lib.hid (own_kp HRW.out KPF.out (by intro q hq _; omega))
                have HYF := Lib.hid (keyv_23.out.kp KPF.out (by omega))
                have HBF := Lib.hid (show Below w.heap.size w wf by rw [hwf]; exact (HBD.out.trans (HBv_23.out.mono HBD.out.size)).setCell (by show w.heap.size ≤ wr.heap.size; omega) _)
                have HBDF := Lib.hid (show Below w.heap.size wd wf by rw [hwf]; exact (HBv_23.out.mono HBD.out.size).setCell (by show w.heap.size ≤ wr.heap.size; omega) _)
                have HUF := Lib.hid (show Bk wf wr.heap.size 28 #[.int .u32 (ver : Int), .slice A7 (i + 1) c7, .slice A' k c'] by rw [hwf]; exact HUV.out.set 1 _)
                have HKF := Lib.hid (HKV.out.kp KPF.out (by omega))
                clear hwf t7 f7
                have k1 : wf.cell? ⟨w.heap.size, 1, none⟩ = some (.slice A i c) := (HKF.out.cell 1).trans rfl
                have u0 : wf.cell? ⟨wr.heap.size, 0, none⟩ = some (.int .u32 (ver : Int)) := (HUF.out.cell 0).trans rfl
                have u1 : wf.cell? ⟨wr.heap.size, 1, none⟩ = some (.slice A7 (i + 1) c7) := (HUF.out.cell 1).trans rfl
                have u2 : wf.cell? ⟨wr.heap.size, 2, none⟩ = some (.slice A' k c') := (HUF.out.cell 2).trans rfl
                by_cases h8 : 8 ≤ i
                · have HCE := Lib.hid (may_check HT.out HN.out HM.out HV.out HBF.out HBF.out.size HU1.out HU3.out HBDF.out HXK.out HYF.out (by rw [← HCX.out]; exact HRF.out) HCK.out (if_pos h8))
                  have h8' : (8 : Int) ≤ (i : Int) := by omega
                  clear h8
                  go_wp2_with fail
                  refine HCE.out.mono ?_
                  rintro e wz ⟨rfl, hbz⟩
                  have HBZ := Lib.hid (HBF.out.trans (hbz.mono HBF.out.size))
                  clear hbz
                  go_wp2_with fail
                  go_ret
                  exact ⟨rfl, HBZ.out⟩
                · have HCE := Lib.hid (may_check HT.out HN.out HM.out HV.out HBF.out HBF.out.size HU1.out HU3.out HBDF.out HXK.out HYF.out (by rw [← HCX.out]; exact HRF.out) HCK.out (if_neg h8))
                  have h8' : ¬ (8 : Int) ≤ (i : Int) := by omega
                  clear h8
                  go_wp2_with fail
                  refine HCE.out.mono ?_
                  rintro e wz ⟨rfl, hbz⟩
                  have HBZ := Lib.hid (HBF.out.trans (hbz.mono HBF.out.size))
                  clear hbz
                  go_wp2_with fail
                  go_ret
                  exact ⟨rfl, HBZ.out⟩
            · refine step_buildOne (by rfl) 25 55 (.tmp 114) rfl cx.toArray (by rfl) Try.underlying25 (by simp only [List.size_toArray, HCL.out]; exact size_in) zs HZI.out (by simp only [List.size_toArray, HCL.out]; omega) (by simp only [List.size_toArray, HCL.out]; omega) ?_
              refine hK.out _ _ (Keeps.below (Joins.below_alloc1 _ _)) ?_
              clear hK K
              try simp only [Act.put, List.setIfInBounds_toArray, List.set_cons_zero, List.set_cons_succ, List.getElem_toArray, List.getElem_cons_zero, List.getElem_cons_succ]
              obtain ⟨v_24, hv_24⟩ : ∃ x, x = v_15.alloc (.cells cx.toArray 55) := ⟨_, rfl⟩
              rw [← hv_24]
              have Sv_24 := Lib.hid (show Below v_15.heap.size v_15 v_24 by rw [hv_24]; exact Joins.below_alloc1 _ _)
              have hzv_24 : v_15.heap.size < v_24.heap.size := by rw [hv_24]; simp
              have HBv_24 := Lib.hid (show Below wd.heap.size wd v_24 from HBv_15.out.trans (Sv_24.out.mono HBv_15.out.size))
              have hsv_24 : wd.heap.size ≤ v_24.heap.size := HBv_24.out.size
              have keyv_24 := Lib.hid (keyv_15.out.below Sv_24.out (by omega))
              have ltkeyv_24 : wd.heap.size < v_24.heap.size := by omega
              have elv_24 := Lib.hid (show Bk v_24 v_15.heap.size 55 cx.toArray by rw [hv_24]; exact Bk.new _ _ _)
              have ltelv_24 : v_15.heap.size < v_24.heap.size := by omega
              clear hv_24
              refine wpAnyL_ready (rs := [0]) (by kernel_rfl) (by simp) ?_
              refine (AllReadyL.cons rfl (fun K hK => ?_) AllReadyL.nil)
              go_simp
              refine hK.out _ _ (Keeps.below (Joins.below_alloc1 _ _)) ?_
              clear hK K
              try simp only [Act.put, List.setIfInBounds_toArray, List.set_cons_zero, List.set_cons_succ, List.getElem_toArray, List.getElem_cons_zero, List.getElem_cons_succ]
              obtain ⟨v_25, hv_25⟩ : ∃ x, x = v_24.alloc (.cells #[] 55) := ⟨_, rfl⟩
              rw [← hv_25]
              have Sv_25 := Lib.hid (show Below v_24.heap.size v_24 v_25 by rw [hv_25]; exact Joins.below_alloc1 _ _)
              have hzv_25 : v_24.heap.size < v_25.heap.size := by rw [hv_25]; simp
              have HBv_25 := Lib.hid (show Below wd.heap.size wd v_25 from HBv_24.out.trans (Sv_25.out.mono HBv_24.out.size))
              have hsv_25 : wd.heap.size ≤ v_25.heap.size := HBv_25.out.size
              have keyv_25 := Lib.hid (keyv_24.out.below Sv_25.out (by omega))
              have ltkeyv_25 : wd.heap.size < v_25.heap.size := by omega
              have elv_25 := Lib.hid (elv_24.out.below Sv_25.out (by omega))
              have ltelv_25 : v_15.heap.size < v_25.heap.size := by omega
              have rowv_25 := Lib.hid (show v_25.ownsRow wd.heap.size 55 34 (.slice (some ⟨v_24.heap.size, 0, none⟩) 0 0) 0 [] by rw [hv_25]; exact own_mono (empty_row v_24 _ _) HBv_24.out.size)
              have nkv_25 := Lib.hid (show (Value.slice (some ⟨v_24.heap.size, 0, none⟩) 0 0).ownBlock ≠ some (wd.heap.size) from fun e => by have := Option.some.inj e; simp at this; omega)
              have nev_25 := Lib.hid (show (Value.slice (some ⟨v_24.heap.size, 0, none⟩) 0 0).ownBlock ≠ some (v_15.heap.size) from fun e => by have := Option.some.inj e; simp at this; omega)
              clear hv_25
              refine wpAnyL_ready (rs := [3]) (by kernel_rfl) (by simp) ?_
              refine (AllReadyL.cons rfl (fun K hK => ?_) AllReadyL.nil)
              refine step_app _ rfl (.tmp 104) (.tmp 106) _ rfl wd.heap.size 55 ii _ 34 64 Try.underlying25 Ii.out HIZ.out Iz1.out Iz2.out HZL.out (by decide) (.slice (some ⟨v_24.heap.size, 0, none⟩) 0 0) 0 [] (by rfl) rowv_25.out A i c ((t.ins.zip us).flatMap pairCells) (by rfl) HLU.out (HSR.out v_25 HBv_25.out) HOU.out (by unfold maxLen; omega) (by omega) (by omega) ?_
              intro v'26 v_26 hrow hg hat
              have hb : Below wd.heap.size v_25 v_26 := own_low9 hg rowv_25.out (Nat.le_refl _) (by omega)
              refine hK.out _ _ (Keeps.kp (S := fun i => wd.heap.size ≤ i) ⟨hb.os, hb.tape, hb.output, hb.size, fun i hi hn => hb.block i (Nat.lt_of_not_le hn)⟩ (by
                intro p hp _
                simp only [List.mem_cons, List.not_mem_nil, or_false] at hp
                rcases hp with rfl | rfl
                · show ¬ wd.heap.size ≤ w.heap.size
                  omega
                · show ¬ wd.heap.size ≤ g1
                  omega)) ?_
              clear hK K
              try simp only [Act.put, List.setIfInBounds_toArray, List.set_cons_zero, List.set_cons_succ, List.getElem_toArray, List.getElem_cons_zero, List.getElem_cons_succ]
              have HBv_26 := Lib.hid (show Below wd.heap.size wd v_26 from HBv_25.out.trans hb)
              have hsv_26 : wd.heap.size ≤ v_26.heap.size := HBv_26.out.size
              have hzv_26 : v_25.heap.size ≤ v_26.heap.size := hb.size
              have kpv_26 := Lib.hid ((Kp.refl (fun q => Value.ownBlock (.slice (some ⟨v_24.heap.size, 0, none⟩) 0 0) = some q) v_25).grown hg (fun k hk _ => hk))
              have keyv_26 := Lib.hid (keyv_25.out.kp kpv_26.out nkv_25.out)
              have ltkeyv_26 : wd.heap.size < v_26.heap.size := by omega
              have elv_26 := Lib.hid (elv_25.out.kp kpv_26.out nev_25.out)
              have ltelv_26 : v_15.heap.size < v_26.heap.size := by omega
              rw [List.nil_append, Nat.zero_add] at hrow
              obtain ⟨A26, c26, hv, hn26, hm26, _⟩ := own_form hrow
              subst hv
              have nkv_26 := Lib.hid (show Value.ownBlock (.slice A26 i c26) ≠ some (wd.heap.size) from fun e => by rcases hat with h | h <;> rw [h] at e; exact nkv_25.out e; have := Option.some.inj e; omega)
              have nev_26 := Lib.hid (show Value.ownBlock (.slice A26 i c26) ≠ some (v_15.heap.size) from fun e => by rcases hat with h | h <;> rw [h] at e; exact nev_25.out e; have := Option.some.inj e; omega)
              have rowv_26 := Lib.hid hrow
              clear hrow hg hat hb
              refine wpAnyL_ready (rs := [12]) (by kernel_rfl) (by simp) ?_
              refine (AllReadyL.cons rfl (fun K hK => ?_) AllReadyL.nil)
              refine step_app _ rfl (.tmp 107) (.tmp 115) _ rfl wd.heap.size 55 ii _ 34 64 Try.underlying25 Ii.out HIZ.out Iz1.out Iz2.out HZL.out (by decide) (.slice A26 i c26) i ((t.ins.zip us).flatMap pairCells) (by rfl) rowv_26.out (some ⟨v_15.heap.size, 0, none⟩) 1 1 cx (by rfl) (by rw [HCL.out]) (src_of_bk elv_26.out) HC1.out (by unfold maxLen; omega) (by omega) (by omega) ?_
              intro v'27 v_27 hrow hg hat
              have hb : Below wd.heap.size v_26 v_27 := own_low9 hg rowv_26.out (Nat.le_refl _) (by omega)
              refine hK.out _ _ (Keeps.kp (S := fun i => wd.heap.size ≤ i) ⟨hb.os, hb.tape, hb.output, hb.size, fun i hi hn => hb.block i (Nat.lt_of_not_le hn)⟩ (by
                intro p hp _
                simp only [List.mem_cons, List.not_mem_nil, or_false] at hp
                rcases hp with rfl | rfl
                · show ¬ wd.heap.size ≤ w.heap.size
                  omega
                · show ¬ wd.heap.size ≤ g1
                  omega)) ?_
              clear hK K
              try simp only [Act.put, List.setIfInBounds_toArray, List.set_cons_zero, List.set_cons_succ, List.getElem_toArray, List.getElem_cons_zero, List.getElem_cons_succ]
              have HBv_27 := Lib.hid (show Below wd.heap.size wd v_27 from HBv_26.out.trans hb)
              have hsv_27 : wd.heap.size ≤ v_27.heap.size := HBv_27.out.size
              have hzv_27 : v_26.heap.size ≤ v_27.heap.size := hb.size
              have kpv_27 := Lib.hid ((Kp.refl (fun q => Value.ownBlock (.slice A26 i c26) = some q) v_26).grown hg (fun k hk _ => hk))
              have keyv_27 := Lib.hid (keyv_26.out.kp kpv_27.out nkv_26.out)
              have ltkeyv_27 : wd.heap.size < v_27.heap.size := by omega
              have elv_27 := Lib.hid (elv_26.out.kp kpv_27.out nev_26.out)
              have ltelv_27 : v_15.heap.size < v_27.heap.size := by omega
              obtain ⟨A7, c7, hv7, hn7, hm7, _⟩ := own_form hrow
              subst hv7
              have HRW := Lib.hid hrow
              have HUV := Lib.hid (HUD.out.below HBv_27.out hzd)
              have HKV := Lib.hid (HKD.out.below HBv_27.out (by omega))
              have t7 : v_27.cell? ⟨wr.heap.size, 1, none⟩ = some (.slice A i c) := (HUV.out.cell 1).trans rfl
              have f7 := HUV.out.frozen 1
              clear hrow hg hat hb
              refine wpAnyL_pure (i := 13) (v := ?_) rfl (by kernel_rfl) (by kernel_rfl) (by kernel_rfl) (fun _ _ _ h => h) (Or.inl ⟨by rfl, ?_⟩) ?_
              rotate_left
              · (intro w' _; go_simp <;> with_reducible rfl)
              simp only [Act.put, List.setIfInBounds_toArray, List.set_cons_zero, List.set_cons_succ, List.getElem_toArray, List.getElem_cons_zero, List.getElem_cons_succ]
              refine wpAnyL_ready (rs := [14]) (by kernel_rfl) (by simp) ?_
              refine (AllReadyL.cons rfl (fun K hK => ?_) AllReadyL.nil)
              go_simp
              refine hK.out _ _ (Keeps.last (by kernel_rfl) _ _) ?_
              clear hK K
              try simp only [Act.put, List.setIfInBounds_toArray, List.set_cons_zero, List.set_cons_succ, List.getElem_toArray, List.getElem_cons_zero, List.getElem_cons_succ]
              refine wpAnyL_done (by kernel_rfl) ?_ _
              obtain ⟨wf, hwf⟩ : ∃ wf, wf = v_27.setCell ⟨wr.heap.size, 1, none⟩ (.slice A7 (i + 1) c7) := ⟨_, rfl⟩
              rw [← hwf]
              have KPF := Lib.hid (show Kp (fun q => q = wr.heap.size) v_27 wf by rw [hwf]; exact kp_cell1 _ _ _ _)
              have HRF := Lib.hid (own_kp HRW.out KPF.out (by intro q hq _; omega))
              have HYF := Lib.hid (keyv_27.out.kp KPF.out (by omega))
              have HBF := Lib.hid (show Below w.heap.size w wf by rw [hwf]; exact (HBD.out.trans (HBv_27.out.mono HBD.out.size)).setCell (by show w.heap.size ≤ wr.heap.size; omega) _)
              have HBDF := Lib.hid (show Below w.heap.size wd wf by rw [hwf]; exact (HBv_27.out.mono HBD.out.size).setCell (by show w.heap.size ≤ wr.heap.size; omega) _)
              have HUF := Lib.hid (show Bk wf wr.heap.size 28 #[.int .u32 (ver : Int), .slice A7 (i + 1) c7, .slice A' k c'] by rw [hwf]; exact HUV.out.set 1 _)
              have HKF := Lib.hid (HKV.out.kp KPF.out (by omega))
              clear hwf t7 f7
              have k1 : wf.cell? ⟨w.heap.size, 1, none⟩ = some (.slice A i c) := (HKF.out.cell 1).trans rfl
              have u0 : wf.cell? ⟨wr.heap.size, 0, none⟩ = some (.int .u32 (ver : Int)) := (HUF.out.cell 0).trans rfl
              have u1 : wf.cell? ⟨wr.heap.size, 1, none⟩ = some (.slice A7 (i + 1) c7) := (HUF.out.cell 1).trans rfl
              have u2 : wf.cell? ⟨wr.heap.size, 2, none⟩ = some (.slice A' k c') := (HUF.out.cell 2).trans rfl
              by_cases h8 : 8 ≤ i
              · have HCE := Lib.hid (may_check HT.out HN.out HM.out HV.out HBF.out HBF.out.size HU1.out HU3.out HBDF.out HXK.out HYF.out (by rw [← HCX.out]; exact HRF.out) HCK.out (if_pos h8))
                have h8' : (8 : Int) ≤ (i : Int) := by omega
                clear h8
                go_wp2_with fail
                refine HCE.out.mono ?_
                rintro e wz ⟨rfl, hbz⟩
                have HBZ := Lib.hid (HBF.out.trans (hbz.mono HBF.out.size))
                clear hbz
                go_wp2_with fail
                go_ret
                exact ⟨rfl, HBZ.out⟩
              · have HCE := Lib.hid (may_check HT.out HN.out HM.out HV.out HBF.out HBF.out.size HU1.out HU3.out HBDF.out HXK.out HYF.out (by rw [← HCX.out]; exact HRF.out) HCK.out (if_neg h8))
                have h8' : ¬ (8 : Int) ≤ (i : Int) := by omega
                clear h8
                go_wp2_with fail
                refine HCE.out.mono ?_
                rintro e wz ⟨rfl, hbz⟩
                have HBZ := Lib.hid (HBF.out.trans (hbz.mono HBF.out.size))
                clear hbz
                go_wp2_with fail
                go_ret
                exact ⟨rfl, HBZ.out⟩
end Go.Proofs.Ytmekgidfdlckoaa

