/- TxBR, merged: TxBase, TxRows. -/
import Derived.Test.YtpacgblddeoheaaDoorTxPut
import Derived.Laws.CopyRow
import Derived.Laws.IdiomCopy
import Derived.Laws.CopyOwn
import Derived.Laws.ResultCell
import Derived.Great.BuildSlice
/- Small laws of rows of transactions. -/
namespace Go.Proofs.YtpacgblddeoheaaDoor.T7
open Go.RowKit Go.Deep
set_option linter.unusedVariables false
set_option linter.unusedSimpArgs false
set_option maxRecDepth 100000
attribute [local go_sem ↓] Go.wp_at_zero Go.wp_at_succ

theorem info_u8 : (Tryd.prog.info? 5).map (·.size) = some 1 := by kernel_rfl
theorem size_hash : (Tryd.prog.info? 93).map (·.size) = some 32 := by kernel_rfl
theorem zero_hash : (Tryd.prog.info? 93).map (·.zero) = some (some (.agg (bytesArr (List.replicate 32 0)))) := by kernel_rfl
theorem _root_.Go.Proofs.YtpacgblddeoheaaDoor.Kp.setRow7 {S : Nat → Prop} {a w : World} (h : Kp S a w) {g : Nat} (hg : g < a.heap.size → S g) (cs : Array Value) : Kp S a (w.setRow g cs) :=
  ⟨h.os, h.tape, h.output, by simpa [World.setRow] using h.size, fun i hi hn => by
    have hne : i ≠ g := fun e => hn (by rw [e]; exact hg (by omega))
    rw [World.setRow]
    simp only [Array.getElem?_modify, Ne.symm hne, if_false]
    exact h.block i hi hn⟩
/-- bytes copied into a row of bytes -/
theorem copy_row_bytes (t : Nat) (W : World) (g o dLen sLen B k : Nat) (A : Option Addr) (row src : List UInt8) (hb : Bk W g t (bytesArr row)) (hs : BytesAt W B A src) (hl : src.length = sLen) (hk : k = min sLen dLen) (hfit : o + k ≤ row.length) :
    ∃ W2, (∀ ty dCap sCap, (Builtin.copy_ #[22, 22] ty #[.slice (some ⟨g, o, none⟩) dLen dCap, .slice A sLen sCap]).run Tryd.prog W = .ok (goInt k) W2) ∧
      Bk W2 g t (bytesArr (row.take o ++ src.take k ++ row.drop (o + k))) ∧ Kp (fun i => i = g) W W2 := by
  subst hl
  rcases Nat.eq_zero_or_pos k with h0 | h0
  · refine ⟨W, fun ty dCap sCap => ?_, ?_, Kp.refl _ _⟩
    · rw [h0]; exact run_copy_none W _ _ ty 5 _ _ dLen dCap src.length sCap Tryd.underlying22 info_u8 (by rw [← h0, hk])
    · rw [h0]; simpa using hb
  · obtain ⟨q, off, rfl, _, _⟩ := hs.cell (i := 0) (by omega)
    have hlk : (src.take k).length = k := by rw [List.length_take]; omega
    have hcl : ((src.take k).map byteV).length = k := by rw [List.length_map, hlk]
    have hsrc := BytesAt.src (BytesAt.take hs k)
    have hrun := fun ty dCap sCap => run_copy_row (P := Tryd.prog) W 22 22 ty 5 g o dLen dCap ⟨q, off, none⟩ src.length sCap (bytesArr row) t ((src.take k).map byteV)
      Tryd.underlying22 info_u8 hb (by rw [hcl, hk]) (fun j v hj => by obtain ⟨ad, ha, hc⟩ := hsrc j v hj; cases ha; exact hc) (by rw [hcl]; simpa [bytesArr] using hfit) (oneCell_bytes _)
    have hrow : ((bytesArr row).toList.take o ++ (src.take k).map byteV ++ (bytesArr row).toList.drop (o + k)).toArray = bytesArr (row.take o ++ src.take k ++ row.drop (o + k)) := by
      simp [bytesArr, List.map_take, List.map_drop]
    rw [hcl, hrow] at hrun
    exact ⟨_, hrun, setRow_heap _ _ _ _ _ _ hb, Kp.setRow7 (S := fun i => i = g) (Kp.refl _ _) (fun _ => rfl) _⟩
theorem in_info : (Tryd.prog.info? 97).map (fun i => (i.zero, i.size, i.bytes)) = some (some (.agg (inCells ⟨List.replicate 32 0, 0, []⟩ (.slice none 0 0)).toArray), 34, 64) := by kernel_rfl
theorem out_info : (Tryd.prog.info? 158).map (fun i => (i.zero, i.size, i.bytes)) = some (some (.agg (outCells ⟨0, List.replicate 32 0⟩).toArray), 33, 40) := by kernel_rfl
def txCells (v : Nat) (i o : Value) : Array Value := #[.int .u32 (v : Int), i, o]
theorem results_row_tmp {P : Program} {fn : Func} {p u : Tmp} {ty : TypeId} (h : fn.results = #[.cell p ty, .tmp u]) (tmps : Array Value) (w : World) (g : Nat) (t : TypeId) (cs : Array Value) (fr : Nat × Nat) (d : TypeDesc)
    (hp : tmps.getD p undef = .pointer (some ⟨g, 0, none⟩)) (hg : w.heap[g]? = some (.cells cs t fr))
    (hu : P.underlying ty = some d) (hd : (match d with | .struct _ | .array _ _ => true | _ => false) = true) (hi : (P.info? ty).map (·.size) = some cs.size) (v : Value) (hv : tmps.getD u undef = v) :
    (results fn tmps).run P w = .ok (.tuple #[.agg cs, v]) w := by
  rw [results_cell_tmp h, hp]
  simp [asAddr, run_loadVar_row w g t ty cs fr d hg hu hd hi, Result.andThen, ← hv]
theorem results_row_tmp2 {P : Program} {fn : Func} {p u x : Tmp} {ty : TypeId} (h : fn.results = #[.cell p ty, .tmp u, .tmp x]) (tmps : Array Value) (w : World) (g : Nat) (t : TypeId) (cs : Array Value) (fr : Nat × Nat) (d : TypeDesc)
    (hp : tmps.getD p undef = .pointer (some ⟨g, 0, none⟩)) (hg : w.heap[g]? = some (.cells cs t fr))
    (hu : P.underlying ty = some d) (hd : (match d with | .struct _ | .array _ _ => true | _ => false) = true) (hi : (P.info? ty).map (·.size) = some cs.size) (v : Value) (hv : tmps.getD u undef = v) (v2 : Value) (hv2 : tmps.getD x undef = v2) :
    (results fn tmps).run P w = .ok (.tuple #[.agg cs, v, v2]) w := by
  have e : (results fn tmps).run P w = ((asAddr (tmps.getD p undef)).run P w).andThen fun a w₁ => ((loadVar ty a).run P w₁).andThen fun v w₂ => .ok (.tuple #[v, tmps.getD u undef, tmps.getD x undef]) w₂ := by
    simp only [results, h]
    simp [Sem.run_bind, Result.andThen]
  rw [e, hp]
  simp [asAddr, run_loadVar_row w g t ty cs fr d hg hu hd hi, Result.andThen, ← hv, ← hv2]
theorem size_tx : (Tryd.prog.info? 49).map (·.size) = some 3 := by kernel_rfl
theorem kp_cell1 (w : World) (g o : Nat) (v : Value) : Kp (fun i => i = g) w (w.setCell ⟨g, o, none⟩ v) := (Kp.refl (fun i => i = g) w).setCell (p := ⟨g, o, none⟩) (fun _ => rfl) v
theorem own_lt {w : World} {base : Nat} {e : TypeId} {size : Nat} {v : Value} {n : Nat} {xs : List Value} (h : w.ownsRow base e size v n xs) : ∀ i, v.ownBlock = some i → base ≤ i ∧ i < w.heap.size := fun i hi => h.lt i hi
end Go.Proofs.YtpacgblddeoheaaDoor.T7
/- Package tx: rows of inputs and outputs, of one's own. -/
namespace Go.Proofs.YtpacgblddeoheaaDoor.T7
open Go.RowKit Go.Deep
set_option linter.unusedVariables false
set_option linter.unusedSimpArgs false
set_option maxRecDepth 100000

/-- a slice literal of one struct -/
theorem wpList_buildOne {P : Program} {ops : Array Oper} {rest : List Oper} {o : Oper} {a : Act} {w : World} {Q : Exit → Act → World → Prop} (hg : o.guard = none) (t e : TypeId) (x : Operand) (ho : o.op = .buildSlice t 1 #[(0, x)])
    (cells : Array Value) (hx : a.eval x = .agg cells) (hu : P.underlying t = some (.slice e)) (hi : (P.info? e).map (·.size) = some cells.size) (zs : Array Value) (hz : (P.info? e).map (·.zero) = some (some (.agg zs))) (hpos : 0 < cells.size) (hsmall : cells.size ≤ 1000)
    (h : wpList P ops Q rest (a.put o.dst (.slice (some ⟨w.heap.size, 0, none⟩) 1 1)) (w.alloc (.cells cells e))) : wpList P ops Q (o :: rest) a w := by
  obtain ⟨ie, hie, hsz⟩ := Option.map_eq_some_iff.1 hi
  have hzz : ie.zero = some (.agg zs) := by rw [hie] at hz; simpa using hz
  refine wpList_buildSlice hg t e 1 #[(0, x)] ho cells ie (.agg zs) hu hie hzz (by rw [hsz]; omega) (by rw [hsz]; omega) ?_ h
  have := Great.fill_whole (s := cells.size) hpos [.agg cells] ((Array.range (1 * cells.size)).map ((Value.agg zs).cells[· % (Value.agg zs).cells.size]!)) (by simp [Value.cells]) (by simp)
  rw [hsz]
  simpa [hx, Value.cells] using this
theorem Bk.setCells7 {g t : Nat} : ∀ (vs : List Value) (o : Nat) (w : World) (cs : List Value), Bk w g t cs.toArray → o + vs.length ≤ cs.length →
    Bk (w.setCells g o vs) g t (cs.take o ++ vs ++ cs.drop (o + vs.length)).toArray
  | [], o, w, cs, h, _ => by simpa [World.setCells] using h
  | v :: vs, o, w, cs, h, hl => by
    have hl' : o + 1 + vs.length ≤ cs.length := by simp at hl; omega
    have h1 : Bk (w.setCell ⟨g, o, none⟩ v) g t (cs.set o v).toArray := by have := h.set o v; simpa using this
    have := Bk.setCells7 vs (o + 1) _ _ h1 (by simpa using hl')
    have e : (cs.set o v).take (o + 1) ++ vs ++ (cs.set o v).drop (o + 1 + vs.length) = cs.take o ++ v :: vs ++ cs.drop (o + (v :: vs).length) := by
      rw [List.take_succ_eq_append_getElem (by rw [List.length_set]; omega), List.take_set_of_le (Nat.le_refl _), List.getElem_set_self, List.drop_set_of_lt (by omega)]
      simp [Nat.add_assoc, Nat.add_comm 1]
    rw [e] at this
    exact this
theorem Kp.setCells7 {S : Nat → Prop} {a : World} {g : Nat} (hg : g < a.heap.size → S g) : ∀ (vs : List Value) (o : Nat) (w : World), Kp S a w → Kp S a (w.setCells g o vs)
  | [], _, _, h => h
  | v :: vs, o, w, h => Kp.setCells7 hg vs (o + 1) _ (h.setCell (p := ⟨g, o, none⟩) hg v)
theorem there_of_bk {w : World} {g t : Nat} {cs : List Value} (h : Bk w g t cs.toArray) (o n : Nat) (hn : o + n ≤ cs.length) : w.there g o n := fun j hj => by
  refine ⟨?_, h.frozen _⟩
  rw [h.cell]
  simp only [List.getElem?_toArray]
  rw [List.getElem?_eq_getElem (by omega)]
  rfl
/-- a key that lies in no block of the row v, and above base -/
def KeyN (w : World) (base : Nat) (v u : Value) (p : List UInt8) : Prop :=
  ∃ A cap, u = .slice A p.length cap ∧ p.length ≤ cap ∧ cap ≤ maxLen ∧ BytesAt w w.heap.size A p ∧ ∀ a, A = some a → base ≤ a.block ∧ v.ownBlock ≠ some a.block ∧ a.block < w.heap.size
def pairCells (p : Txs.In × Value) : List Value := inCells p.1 p.2
def RowI (w : World) (base : Nat) (v : Value) (acc : List Txs.In) : Prop :=
  ∃ us : List Value, us.length = acc.length ∧ w.ownsRow base 97 34 v acc.length ((acc.zip us).flatMap pairCells) ∧ ∀ i (h : i < acc.length), acc[i].Ok ∧ ∃ u, us[i]? = some u ∧ KeyN w base v u acc[i].key
def RowO (w : World) (base : Nat) (v : Value) (acc : List Txs.Out) : Prop :=
  w.ownsRow base 158 33 v acc.length (acc.flatMap outCells) ∧ ∀ x ∈ acc, x.Ok
theorem RowI.nil (w : World) (base : Nat) : RowI w base (.slice none 0 0) [] := ⟨[], rfl, World.ownsRow_nil _ _ _ _, fun i h => by simp at h⟩
theorem RowO.nil (w : World) (base : Nat) : RowO w base (.slice none 0 0) [] := ⟨World.ownsRow_nil _ _ _ _, by simp⟩
theorem own_kp {w w' : World} {base : Nat} {e : TypeId} {size : Nat} {v : Value} {n : Nat} {xs : List Value} {S : Nat → Prop} (h : w.ownsRow base e size v n xs) (hk : Kp S w w') (hS : ∀ i, base ≤ i → i < w.heap.size → ¬ S i) : w'.ownsRow base e size v n xs := by
  refine ⟨h.1, ?_⟩
  rcases h.2 with h | ⟨g, cap, cur, hv, hb, hg, r⟩
  · exact .inl h
  · have hlt : g < w.heap.size := (Array.getElem?_eq_some_iff.1 hg).1
    exact .inr ⟨g, cap, cur, hv, hb, (hk.block g hlt (hS g hb hlt)).trans hg, r⟩
theorem KeyN.kp {w w' : World} {base : Nat} {v u : Value} {p : List UInt8} {S : Nat → Prop} (h : KeyN w base v u p) (hk : Kp S w w') (hS : ∀ i, base ≤ i → i < w.heap.size → ¬ S i) : KeyN w' base v u p := by
  obtain ⟨A, cap, hu, h1, h2, h3, h4⟩ := h
  refine ⟨A, cap, hu, h1, h2, fun i hi => ?_, fun a ha => ⟨(h4 a ha).1, (h4 a ha).2.1, Nat.lt_of_lt_of_le (h4 a ha).2.2 hk.size⟩⟩
  obtain ⟨b, off, vs, hA, hb, hR, hc⟩ := h3 i hi
  have := h4 _ hA
  exact ⟨b, off, vs, hA, Nat.lt_of_lt_of_le hb hk.size, hR, fun j hj => (hk.cell (p := ⟨b, _, none⟩) hb (hS b this.1 hb)).trans (hc j hj)⟩
theorem KeyN.grown {w w' : World} {base : Nat} {v v' u : Value} {p : List UInt8} (h : KeyN w base v u p) (hg : w.grownBy w' v.ownBlock) (hat : v'.ownBlock = v.ownBlock ∨ v'.ownBlock = some w.heap.size) : KeyN w' base v' u p := by
  obtain ⟨A, cap, hu, h1, h2, h3, h4⟩ := h
  refine ⟨A, cap, hu, h1, h2, fun i hi => ?_, fun a ha => ⟨(h4 a ha).1, ?_, Nat.lt_of_lt_of_le (h4 a ha).2.2 hg.size⟩⟩
  · obtain ⟨b, off, vs, hA, hb, hR, hc⟩ := h3 i hi
    refine ⟨b, off, vs, hA, Nat.lt_of_lt_of_le hb hg.size, hR, fun j hj => ?_⟩
    have hne := (h4 _ hA).2.1
    rw [World.cell?_of_block (w := w) (hg.block b hb (fun e => hne e.symm))]
    exact hc j hj
  · obtain ⟨_, h5, h6⟩ := h4 a ha
    rcases hat with e | e
    · rw [e]; exact h5
    · rw [e]; intro e'; have := Option.some.inj e'; omega
theorem RowI.kp {w w' : World} {base : Nat} {v : Value} {acc : List Txs.In} {S : Nat → Prop} (h : RowI w base v acc) (hk : Kp S w w') (hS : ∀ i, base ≤ i → i < w.heap.size → ¬ S i) : RowI w' base v acc := by
  obtain ⟨us, h1, h2, h3⟩ := h
  exact ⟨us, h1, own_kp h2 hk hS, fun i hi => ⟨(h3 i hi).1, by obtain ⟨u, hu, hp⟩ := (h3 i hi).2; exact ⟨u, hu, hp.kp hk hS⟩⟩⟩
theorem RowO.kp {w w' : World} {base : Nat} {v : Value} {acc : List Txs.Out} {S : Nat → Prop} (h : RowO w base v acc) (hk : Kp S w w') (hS : ∀ i, base ≤ i → i < w.heap.size → ¬ S i) : RowO w' base v acc := ⟨own_kp h.1 hk hS, h.2⟩
theorem RowI.push {w w' : World} {base : Nat} {v v' u : Value} {us : List Value} {acc : List Txs.In} {x : Txs.In} (h1 : us.length = acc.length) (h3 : ∀ i (h : i < acc.length), acc[i].Ok ∧ ∃ u, us[i]? = some u ∧ KeyN w base v u acc[i].key)
    (hx : x.Ok) (hu : KeyN w base v u x.key) (hrow : w'.ownsRow base 97 34 v' (acc.length + 1) ((acc.zip us).flatMap pairCells ++ inCells x u)) (hg : w.grownBy w' v.ownBlock) (hat : v'.ownBlock = v.ownBlock ∨ v'.ownBlock = some w.heap.size) : RowI w' base v' (acc ++ [x]) := by
  refine ⟨us ++ [u], by simp [h1], ?_, fun i hi => ?_⟩
  · rw [List.zip_append h1.symm, List.flatMap_append, List.length_append]
    simpa [pairCells] using hrow
  · rcases Nat.lt_or_ge i acc.length with h | h
    · obtain ⟨ho, u', hu', hp⟩ := h3 i h
      rw [List.getElem_append_left h]
      exact ⟨ho, u', by rw [List.getElem?_append_left (by omega)]; exact hu', hp.grown hg hat⟩
    · have e : i = acc.length := by simp at hi; omega
      subst e
      rw [List.getElem_append_right (Nat.le_refl _)]
      simp only [Nat.sub_self, List.getElem_cons_zero]
      exact ⟨hx, u, by rw [← h1]; simp, hu.grown hg hat⟩
theorem RowO.push {w' : World} {base : Nat} {v' : Value} {acc : List Txs.Out} {x : Txs.Out} (h : ∀ x ∈ acc, x.Ok) (hx : x.Ok) (hrow : w'.ownsRow base 158 33 v' (acc.length + 1) (acc.flatMap outCells ++ outCells x)) : RowO w' base v' (acc ++ [x]) := by
  refine ⟨by rw [List.flatMap_append, List.length_append]; simpa using hrow, fun y hy => ?_⟩
  rcases List.mem_append.1 hy with h' | h'
  · exact h y h'
  · rw [List.mem_singleton.1 h']; exact hx
theorem RowI.at_ {w : World} {base : Nat} {v : Value} {acc : List Txs.In} (h : RowI w base v acc) : ∃ A cap, v = .slice A acc.length cap ∧ acc.length ≤ cap ∧ cap ≤ maxLen ∧ InsAt w w.heap.size A acc := by
  obtain ⟨us, h1, h2, h3⟩ := h
  obtain ⟨A, cap, hv, hn, hm, hA, hc⟩ := own_form h2
  have hzl : (acc.zip us).length = acc.length := by rw [List.length_zip, h1, Nat.min_self]
  have hpl : ∀ p ∈ acc.zip us, (pairCells p).length = 34 := by
    intro p hp
    obtain ⟨i, hi, rfl⟩ := List.mem_iff_getElem.1 hp
    rw [hzl] at hi
    unfold pairCells
    rw [List.getElem_zip]
    exact inCells_len (h3 i hi).1 _
  refine ⟨A, cap, hv, hn, hm, fun i hi => ?_⟩
  obtain ⟨hok, u, hu, A', cap', rfl, k1, k2, k3, _⟩ := h3 i hi
  have hz : (acc.zip us)[i]'(by omega) = (acc[i], .slice A' acc[i].key.length cap') := by
    rw [List.getElem_zip]
    rw [List.getElem?_eq_some_iff] at hu
    obtain ⟨_, hu⟩ := hu
    rw [hu]
  have hcell : ∀ j (hj : j < (inCells acc[i] (.slice A' acc[i].key.length cap')).length), ∃ b, A = some ⟨b, 0, none⟩ ∧ base ≤ b ∧ b < w.heap.size ∧ w.cell? ⟨b, i * 34 + j, none⟩ = some (inCells acc[i] (.slice A' acc[i].key.length cap'))[j] := fun j hj =>
    hc (i * 34 + j) _ (by
      rw [flatMap_index (acc.zip us) hpl i (by omega) j (by rw [inCells_len hok] at hj; exact hj), hz]
      unfold pairCells
      rw [List.getElem?_eq_getElem hj])
  obtain ⟨b, hA, _, hlt, _⟩ := hcell 0 (by rw [inCells_len hok]; omega)
  refine ⟨b, 0, _, hA, hlt, ⟨hok, A', cap', rfl, k1, k2, k3⟩, fun j hj => ?_⟩
  obtain ⟨b', hA', _, _, hcj⟩ := hcell j hj
  rw [hA] at hA'
  injection hA' with hA'
  injection hA' with hA' _
  subst hA'
  rw [Nat.zero_add]
  exact hcj
theorem RowO.at_ {w : World} {base : Nat} {v : Value} {acc : List Txs.Out} (h : RowO w base v acc) : ∃ A cap, v = .slice A acc.length cap ∧ acc.length ≤ cap ∧ cap ≤ maxLen ∧ OutsAt w w.heap.size A acc := by
  obtain ⟨A, cap, hv, _, hn, hm, hat⟩ := At.of_own (R := IsOut) outCells (fun x hx => ⟨outCells_len (h.2 x hx), h.2 x hx, rfl⟩) (by omega) h.1
  exact ⟨A, cap, hv, hn, hm, hat⟩
/-! ### an input put together piece by piece -/
theorem in_zero : (inCells ⟨List.replicate 32 0, 0, []⟩ (.slice none 0 0)) = (List.replicate 32 (0 : UInt8)).map byteV ++ [.int .u32 0, .slice none 0 0] := rfl
theorem in_set_hash {w : World} {g t : Nat} (h : Bk w g t (inCells ⟨List.replicate 32 0, 0, []⟩ (.slice none 0 0)).toArray) {l : List UInt8} (hl : l.length = 32) :
    Bk (w.setCells g 0 (l.map byteV)) g t (inCells ⟨l, 0, []⟩ (.slice none 0 0)).toArray := by
  have := Bk.setCells7 (l.map byteV) 0 w _ h (by rw [List.length_map, hl]; simp [inCells])
  have e : (inCells ⟨List.replicate 32 0, 0, []⟩ (.slice none 0 0)).take 0 ++ l.map byteV ++ (inCells ⟨List.replicate 32 0, 0, []⟩ (.slice none 0 0)).drop (0 + (l.map byteV).length) = inCells ⟨l, 0, []⟩ (.slice none 0 0) := by
    rw [List.length_map, hl]; rfl
  rwa [e] at this
theorem in_set_n {w : World} {g t : Nat} {x : Txs.In} {u : Value} (h : Bk w g t (inCells x u).toArray) (hx : x.hash.length = 32) (m : Nat) : Bk (w.setCell ⟨g, 32, none⟩ (.int .u32 (m : Int))) g t (inCells ⟨x.hash, m, x.key⟩ u).toArray := by
  have := h.set 32 (.int .u32 (m : Int))
  have e : (inCells x u).toArray.setIfInBounds 32 (.int .u32 (m : Int)) = (inCells ⟨x.hash, m, x.key⟩ u).toArray := by
    simp only [inCells, List.setIfInBounds_toArray]
    rw [List.set_append_right _ _ (by simp [hx])]
    simp [hx]
  rwa [e] at this
theorem in_set_key {w : World} {g t : Nat} {x : Txs.In} {u : Value} (h : Bk w g t (inCells x u).toArray) (hx : x.hash.length = 32) (k : List UInt8) (u' : Value) : Bk (w.setCell ⟨g, 33, none⟩ u') g t (inCells ⟨x.hash, x.n, k⟩ u').toArray := by
  have := h.set 33 u'
  have e : (inCells x u).toArray.setIfInBounds 33 u' = (inCells ⟨x.hash, x.n, k⟩ u').toArray := by
    simp only [inCells, List.setIfInBounds_toArray]
    rw [List.set_append_right _ _ (by simp [hx])]
    simp [hx]
  rwa [e] at this
theorem out_set_value {w : World} {g t : Nat} {x : Txs.Out} (h : Bk w g t (outCells x).toArray) (m : Nat) : Bk (w.setCell ⟨g, 0, none⟩ (.int .u64 (m : Int))) g t (outCells ⟨m, x.lock⟩).toArray := by
  have := h.set 0 (.int .u64 (m : Int))
  simpa [outCells] using this
theorem out_set_lock {w : World} {g t m : Nat} (h : Bk w g t (outCells ⟨m, List.replicate 32 0⟩).toArray) {l : List UInt8} (hl : l.length = 32) :
    Bk (w.setCells g 1 (l.map byteV)) g t (outCells ⟨m, l⟩).toArray := by
  have := Bk.setCells7 (l.map byteV) 1 w _ h (by rw [List.length_map, hl]; simp [outCells])
  have e : (outCells ⟨m, List.replicate 32 0⟩).take 1 ++ l.map byteV ++ (outCells ⟨m, List.replicate 32 0⟩).drop (1 + (l.map byteV).length) = outCells ⟨m, l⟩ := by
    rw [List.length_map, hl]; simp [outCells]
  rwa [e] at this
/-- it lies in memory from block B0 on, and so stays whatever becomes of the blocks below -/
def TxNew (B0 : Nat) (w : World) (t : Txs.Tx) (A : Option Addr) (c : Nat) (A' : Option Addr) (c' : Nat) : Prop := ∀ wz, Kp (fun i => i < B0) w wz → TxAt wz wz.heap.size t A c A' c'
theorem TxNew.at_ {B0 : Nat} {w : World} {t : Txs.Tx} {A A' : Option Addr} {c c' : Nat} (h : TxNew B0 w t A c A' c') : TxAt w w.heap.size t A c A' c' := h w (Kp.refl _ _)
theorem TxNew.kp {S : Nat → Prop} {B0 : Nat} {w w' : World} {t : Txs.Tx} {A A' : Option Addr} {c c' : Nat} (h : TxNew B0 w t A c A' c') (hk : Kp S w w') (hS : ∀ i, i < w.heap.size → S i → i < B0) : TxNew B0 w' t A c A' c' :=
  fun wz hz => h wz ((hk.mono hS).trans hz)
theorem TxNew.mono {B0 B1 : Nat} {w : World} {t : Txs.Tx} {A A' : Option Addr} {c c' : Nat} (h : TxNew B0 w t A c A' c') (hb : B1 ≤ B0) : TxNew B1 w t A c A' c' :=
  fun wz hz => h wz (hz.mono fun i _ hi => Nat.lt_of_lt_of_le hi hb)
theorem none_at (w : World) (B : Nat) : TxAt w B Txs.none none 0 none 0 :=
  ⟨by show 0 < 4294967296; omega, Nat.le_refl _, by simp [maxLen], Nat.le_refl _, by simp [maxLen], At.nil _ _ _, At.nil _ _ _⟩
theorem none_new (B : Nat) (w : World) : TxNew B w Txs.none none 0 none 0 := fun _ _ => none_at _ _
theorem KeyN.mono {w : World} {base base' : Nat} {v u : Value} {p : List UInt8} (h : KeyN w base v u p) (hb : base' ≤ base) : KeyN w base' v u p := by
  obtain ⟨A, cap, hu, h1, h2, h3, h4⟩ := h
  exact ⟨A, cap, hu, h1, h2, h3, fun a ha => ⟨Nat.le_trans hb (h4 a ha).1, (h4 a ha).2⟩⟩
theorem KeyN.of_own {w : World} {base : Nat} {v A : Option Addr} {cap : Nat} {p : List UInt8} {vi : Value} (h : OwnB w base (.slice A p.length cap) p) (hv : ∀ i, vi.ownBlock = some i → i < base) : KeyN w base vi (.slice A p.length cap) p := by
  obtain ⟨A', cap', he, h1, h2, h3, h4⟩ := h.at_
  injection he with e1 e2 e3
  subst e1; subst e3
  exact ⟨A, cap, rfl, h1, h2, h3, fun a ha => ⟨(h4 a ha).1, fun e => by have := hv _ e; have := (h4 a ha).1; omega, (h4 a ha).2⟩⟩
theorem RowI.lt {w : World} {base : Nat} {v : Value} {acc : List Txs.In} (h : RowI w base v acc) : ∀ i, v.ownBlock = some i → base ≤ i ∧ i < w.heap.size := by
  obtain ⟨us, _, h2, _⟩ := h
  exact own_lt h2
theorem kp_cells1 (w : World) (g o : Nat) (vs : List Value) : Kp (fun i => i = g) w (w.setCells g o vs) := Kp.setCells7 (S := fun i => i = g) (fun _ => rfl) vs o w (Kp.refl _ _)
end Go.Proofs.YtpacgblddeoheaaDoor.T7
