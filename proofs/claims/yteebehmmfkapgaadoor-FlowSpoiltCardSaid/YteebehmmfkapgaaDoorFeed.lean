/- Package flow: Feed takes bytes. -/
import Derived.Test.YteebehmmfkapgaaDoorFlow
namespace Go.Proofs.YteebehmmfkapgaaDoor
open Go.RowKit Go.Deep
set_option linter.unusedVariables false
set_option linter.unusedSimpArgs false
set_option maxRecDepth 100000
attribute [local go_sem ↓] Go.wp_at_zero Go.wp_at_succ

theorem Laid.kp_of {S : Nat → Prop} {w w' : World} (h : Laid w) (hk : Kp S w w') (h1 : ¬ S 1) (h2 : ¬ S 0) : Laid w' := by
  exact ⟨fun i hi => (hk.cell (p := ⟨_, i, none⟩) h.lc h1).trans (h.hc i hi), fun i hi => (hk.cell (p := ⟨_, i, none⟩) h.lf h2).trans (h.hf i hi), Nat.lt_of_lt_of_le h.lc hk.size, Nat.lt_of_lt_of_le h.lf hk.size⟩
theorem flow_back {hd : List UInt8} {tl : List Value} (hl : hd.length = 24) (n k : Nat) (t : List UInt8) (ht : t.length = k) (hfit : n + k ≤ 24) :
    ((flowCells hd tl).toArray.toList.take n ++ t.map byteV ++ (flowCells hd tl).toArray.toList.drop (n + k)).toArray = (flowCells (hd.take n ++ t ++ hd.drop (n + k)) tl).toArray := by
  simp only [flowCells]
  congr 1
  rw [List.take_append_of_le_length (by rw [List.length_map, hl]; omega), List.drop_append_of_le_length (by rw [List.length_map, hl]; omega)]
  simp [List.map_take, List.map_drop]
theorem copy_head (W : World) (F n k sLen B : Nat) (A : Option Addr) (hd src : List UInt8) (tl : List Value) (hb : Bk W F 63 (flowCells hd tl).toArray) (hl : hd.length = 24) (ht : tl.length = 6) (hn : n ≤ 24) (hs : BytesAt W B A src) (hsl : src.length = sLen) (hk : k = min sLen (24 - n)) :
    ∃ W2, (∀ ty dCap sCap, (Builtin.copy_ #[28, 28] ty #[.slice (some ⟨F, n, none⟩) (24 - n) dCap, .slice A sLen sCap]).run Tryd.prog W = .ok (goInt k) W2) ∧
      Bk W2 F 63 (flowCells (hd.take n ++ src.take k ++ hd.drop (n + k)) tl).toArray ∧ Kp (fun i => i = F) W W2 := by
  subst hsl
  have hlk : (src.take k).length = k := by rw [List.length_take]; omega
  have hfit : n + k ≤ 24 := by omega
  have hrow := flow_back (tl := tl) hl n k (src.take k) hlk hfit
  rcases Nat.eq_zero_or_pos k with h0 | h0
  · refine ⟨W, fun ty dCap sCap => ?_, ?_, Kp.refl _ _⟩
    · rw [h0]; exact run_copy_none W _ _ ty 5 _ _ (24 - n) dCap src.length sCap Tryd.underlying28 info_u8 (by rw [← h0, hk])
    · rw [h0]; simpa using hb
  · obtain ⟨q, off, rfl, _, _⟩ := hs.cell (i := 0) (by omega)
    have hcl : ((src.take k).map byteV).length = k := by rw [List.length_map, hlk]
    have hsrc := BytesAt.src (BytesAt.take hs k)
    have hrun := fun ty dCap sCap => run_copy_row (P := Tryd.prog) W 28 28 ty 5 F n (24 - n) dCap ⟨q, off, none⟩ src.length sCap (flowCells hd tl).toArray 63 ((src.take k).map byteV)
      Tryd.underlying28 info_u8 hb (by rw [hcl, hk]) (fun j v hj => by obtain ⟨ad, ha, hc⟩ := hsrc j v hj; cases ha; exact hc) (by rw [hcl]; simp [flowCells, hl, ht]; omega) (oneCell_bytes _)
    rw [hcl, hrow] at hrun
    exact ⟨_, hrun, setRow_heap _ _ _ _ _ _ hb, Kp.setRow (S := fun i => i = F) (Kp.refl _ _) (fun _ => rfl) _⟩
theorem step_copy {P : Program} {w : World} {ops : Array Oper} {o : Oper} {a : Act} {K : Act → World → Prop} {Q : Exit → Act → World → Prop} {E : Prop} (hgd : o.guard = none) (s x : Operand) (t t2 : TypeId)
    (ho : o.op = .call { callee := .builtin .copy, args := #[s, x], argTypes := #[t, t2] }) (vs vx v : Value) (w' : World) (hs : a.eval s = vs) (hx : a.eval x = vx)
    (hrun : (Builtin.copy_ #[t, t2] o.type #[vs, vx]).run P w = .ok v w') (h : K (a.put o.dst v) w') : if Region.wanted o (yielded ops a.tmps) = true then Oper.wp P o a w K Q else E := by
  have hw : Region.wanted o (yielded ops a.tmps) = true := by simp [Region.wanted, hgd]
  rw [if_pos hw]
  unfold Oper.wp execOp
  simp only [ho, resolve, invoke, builtin, Sem.run_bind, Sem.run_pure, Result.andThen_ok, List.map_toArray, List.map_cons, List.map_nil, hs, hx, hrun]
  exact h
theorem BytesAt.kp_of {S : Nat → Prop} {w w' : World} {B : Nat} {A : Option Addr} {l : List UInt8} (k : BytesAt w B A l) (hB : B ≤ w.heap.size) (hk : Kp S w w') (hA : ∀ a, A = some a → a.block < B → 0 < l.length → ¬ S a.block) : BytesAt w' B A l := by
  intro i hi
  obtain ⟨b, off, vs, hA', hb, hR, hc⟩ := k i hi
  exact ⟨b, off, vs, hA', hb, hR, fun j hj => (hk.cell (p := ⟨b, off + i * 1 + j, none⟩) (Nat.lt_of_lt_of_le hb hB) (show ¬ S b from hA ⟨b, off, none⟩ hA' hb (by omega))).trans (hc j hj)⟩
/-- how a flow lies in memory -/
def FlowC (w : World) (F base : Nat) (v : Value) (hd : List UInt8) (n : Nat) (hv : Frm.Head) (body : List UInt8) (dead : Bool) : Prop :=
  hd.length = 24 ∧ Bk w F 63 (flowCells hd (flowTail n hv v dead)).toArray ∧ w.ownsRow base 5 1 v body.length (body.map byteV)
/-- a flow in which s waits; the body so far lies in v -/
def FlowS (w : World) (F base : Nat) (v : Value) (s : List UInt8 × Bool) : Prop :=
  (s.2 = true ∧ s.1 = [] ∧ v = .slice none 0 0 ∧ ∃ hd hv, FlowC w F base v hd 0 hv [] true) ∨
  (s.2 = false ∧ v = .slice none 0 0 ∧ ∃ hd n, n < 24 ∧ s.1 = hd.take n ∧ FlowC w F base v hd n noHead [] false) ∨
  (s.2 = false ∧ ∃ hd hv body, s.1 = hd ++ body ∧ Frm.head hd = (hv, 0) ∧ body.length < hv.len ∧ FlowC w F base v hd 24 hv body false)
theorem FlowC.kp {S : Nat → Prop} {w w' : World} {F base : Nat} {v : Value} {hd : List UInt8} {n : Nat} {hv : Frm.Head} {body : List UInt8} {dead : Bool} (h : FlowC w F base v hd n hv body dead) (hk : Kp S w w') (h1 : ¬ S F) (h2 : ∀ i, v.ownBlock = some i → ¬ S i) : FlowC w' F base v hd n hv body dead :=
  ⟨h.1, h.2.1.kp hk h1, own_kp2 h.2.2 hk h2⟩
theorem FlowS.kp {S : Nat → Prop} {w w' : World} {F base : Nat} {v : Value} {s : List UInt8 × Bool} (h : FlowS w F base v s) (hk : Kp S w w') (h1 : ¬ S F) (h2 : ∀ i, v.ownBlock = some i → ¬ S i) : FlowS w' F base v s := by
  rcases h with ⟨a, b, c, hd, hv, d⟩ | ⟨a, b, hd, n, c, d, e⟩ | ⟨a, hd, hv, body, b, c, d, e⟩
  · exact .inl ⟨a, b, c, hd, hv, d.kp hk h1 h2⟩
  · exact .inr (.inl ⟨a, b, hd, n, c, d, e.kp hk h1 h2⟩)
  · exact .inr (.inr ⟨a, hd, hv, body, b, c, d, e.kp hk h1 h2⟩)
theorem FlowS.lt {w : World} {F base : Nat} {v : Value} {s : List UInt8 × Bool} (h : FlowS w F base v s) : F < w.heap.size ∧ ∀ i, v.ownBlock = some i → base ≤ i ∧ i < w.heap.size := by
  rcases h with ⟨a, b, c, hd, hv, d⟩ | ⟨a, b, hd, n, c, d, e⟩ | ⟨a, hd, hv, body, b, c, d, e⟩
  · exact ⟨d.2.1.lt, own_lt d.2.2⟩
  · exact ⟨e.2.1.lt, own_lt e.2.2⟩
  · exact ⟨e.2.1.lt, own_lt e.2.2⟩
theorem FlowS.st {w : World} {F base : Nat} {v : Value} {s : List UInt8 × Bool} (h : FlowS w F base v s) : Flo.St s := by
  obtain ⟨r, dead⟩ := s
  rcases h with ⟨a, b, _⟩ | ⟨a, b, hd, n, c, d, e⟩ | ⟨a, hd, hv, body, b, c, d, e⟩
  · exact ⟨fun _ => b, fun h => by simp only at a h; rw [a] at h; cases h⟩
  · simp only at a d; subst a; subst d
    exact ⟨fun h => (by cases h), fun _ => Flo.run_short (by rw [List.length_take]; omega)⟩
  · simp only at a b; subst a; subst b
    have hl := e.1
    have ht : (hd ++ body).take 24 = hd := by rw [List.take_append_of_le_length (by omega), List.take_of_length_le (by omega)]
    exact ⟨fun h => (by cases h), fun _ => Flo.run_part (by rw [List.length_append, e.1]; omega) (by rw [ht, c]) (by rw [ht, c, List.length_append, e.1]; simp only; omega)⟩
theorem FlowS.open_ {w : World} {F base : Nat} {v : Value} {s : List UInt8 × Bool} (h : FlowS w F base v s) (hde : s.2 = false) : ∃ hd n hv body, FlowC w F base v hd n hv body false ∧
    (n < 24 ∧ v = .slice none 0 0 ∧ hv = noHead ∧ body = [] ∧ s.1 = hd.take n ∨ n = 24 ∧ Frm.head hd = (hv, 0) ∧ body.length < hv.len ∧ s.1 = hd ++ body) := by
  rcases h with ⟨a, b, c, hd, hv, d⟩ | ⟨a, b, hd, n, c, d, e⟩ | ⟨a, hd, hv, body, b, c, d, e⟩
  · rw [a] at hde; cases hde
  · exact ⟨hd, n, _, _, e, .inl ⟨c, b, rfl, rfl, d⟩⟩
  · exact ⟨hd, 24, _, _, e, .inr ⟨rfl, c, d, b⟩⟩
theorem FlowS.rebase {w : World} {F base : Nat} {v : Value} {s : List UInt8 × Bool} (h : FlowS w F base v s) (hs : s.1.length < 24) (b2 : Nat) : FlowS w F b2 v s := by
  have hn : ∀ {hd n hv dead}, v = .slice none 0 0 → FlowC w F base v hd n hv [] dead → FlowC w F b2 v hd n hv [] dead := fun hv h => ⟨h.1, h.2.1, by subst hv; exact World.ownsRow_nil _ _ _ _⟩
  rcases h with ⟨a, b, c, hd, hv, d⟩ | ⟨a, b, hd, n, c, d, e⟩ | ⟨a, hd, hv, body, b, c, d, e⟩
  · exact .inl ⟨a, b, c, hd, hv, hn c d⟩
  · exact .inr (.inl ⟨a, b, hd, n, c, d, hn b e⟩)
  · rw [b, List.length_append, e.1] at hs; omega
theorem FlowS.new (w : World) (base : Nat) (w' : World) (F : Nat) (h : Bk w' F 63 (flowCells (List.replicate 24 0) (flowTail 0 noHead (.slice none 0 0) false)).toArray) : FlowS w' F base (.slice none 0 0) ([], false) :=
  .inr (.inl ⟨rfl, rfl, List.replicate 24 0, 0, by decide, rfl, by simp, h, World.ownsRow_nil _ _ _ _⟩)
end Go.Proofs.YteebehmmfkapgaaDoor
