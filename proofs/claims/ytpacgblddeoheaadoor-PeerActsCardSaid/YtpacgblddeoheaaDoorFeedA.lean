/- FeedA, merged: Feed, Feed2. -/
import Derived.Test.YtpacgblddeoheaaDoorFlowA
import Derived.Deep.RegionLawGrows
/- Package flow: Feed takes bytes. -/
namespace Go.Proofs.YtpacgblddeoheaaDoor
open Go.RowKit Go.Deep
set_option linter.unusedVariables false
set_option linter.unusedSimpArgs false
set_option maxRecDepth 100000
attribute [local go_sem ↓] Go.wp_at_zero Go.wp_at_succ

theorem Laid.kp_of {S : Nat → Prop} {w w' : World} (h : Laid w) (hk : Kp S w w') (h1 : ¬ S 1) (h2 : ¬ S 0) : Laid w' := by
  exact ⟨fun i hi => (hk.cell (p := ⟨_, i, none⟩) h.lc h1).trans (h.hc i hi), fun i hi => (hk.cell (p := ⟨_, i, none⟩) h.lf h2).trans (h.hf i hi), Nat.lt_of_lt_of_le h.lc hk.size, Nat.lt_of_lt_of_le h.lf hk.size⟩
theorem flow_back {hd : List UInt8} {tl : List Value} (hl : hd.length = 24) (n k : Nat) (t : List UInt8) (ht : t.length = k) (hfit : n + k ≤ 24) :
    ((flowCells hd tl).toArray.toList.take n ++ t.map byteV ++ (flowCells hd tl).toArray.toList.drop (n + k)).toArray = (flowCells (hd.take n ++ t ++ hd.drop (n + k)) tl).toArray := by
  simp only [flowCells]
  congr 1
  rw [List.take_append_of_le_length (by rw [List.length_map, hl]; omega), List.drop_append_of_le_length (by rw [List.length_map, hl]; omega)]
  simp [List.map_take, List.map_drop]
theorem copy_head (W : World) (F n k sLen B : Nat) (A : Option Addr) (hd src : List UInt8) (tl : List Value) (hb : Bk W F 121 (flowCells hd tl).toArray) (hl : hd.length = 24) (ht : tl.length = 6) (hn : n ≤ 24) (hs : BytesAt W B A src) (hsl : src.length = sLen) (hk : k = min sLen (24 - n)) :
    ∃ W2, (∀ ty dCap sCap, (Builtin.copy_ #[22, 22] ty #[.slice (some ⟨F, n, none⟩) (24 - n) dCap, .slice A sLen sCap]).run Tryd.prog W = .ok (goInt k) W2) ∧
      Bk W2 F 121 (flowCells (hd.take n ++ src.take k ++ hd.drop (n + k)) tl).toArray ∧ Kp (fun i => i = F) W W2 := by
  subst hsl
  have hlk : (src.take k).length = k := by rw [List.length_take]; omega
  have hfit : n + k ≤ 24 := by omega
  have hrow := flow_back (tl := tl) hl n k (src.take k) hlk hfit
  rcases Nat.eq_zero_or_pos k with h0 | h0
  · refine ⟨W, fun ty dCap sCap => ?_, ?_, Kp.refl _ _⟩
    · rw [h0]; exact run_copy_none W _ _ ty 5 _ _ (24 - n) dCap src.length sCap Tryd.underlying22 info_u8 (by rw [← h0, hk])
    · rw [h0]; simpa using hb
  · obtain ⟨q, off, rfl, _, _⟩ := hs.cell (i := 0) (by omega)
    have hcl : ((src.take k).map byteV).length = k := by rw [List.length_map, hlk]
    have hsrc := BytesAt.src (BytesAt.take hs k)
    have hrun := fun ty dCap sCap => run_copy_row (P := Tryd.prog) W 22 22 ty 5 F n (24 - n) dCap ⟨q, off, none⟩ src.length sCap (flowCells hd tl).toArray 121 ((src.take k).map byteV)
      Tryd.underlying22 info_u8 hb (by rw [hcl, hk]) (fun j v hj => by obtain ⟨ad, ha, hc⟩ := hsrc j v hj; cases ha; exact hc) (by rw [hcl]; simp [flowCells, hl, ht]; omega) (oneCell_bytes _)
    rw [hcl, hrow] at hrun
    exact ⟨_, hrun, setRow_heap _ _ _ _ _ _ hb, Kp.setRow (S := fun i => i = F) (Kp.refl _ _) (fun _ => rfl) _⟩
theorem step_copy {P : Program} {w : World} {ops : Array Oper} {o : Oper} {a : Act} {K : Act → World → Prop} {Q : Exit → Act → World → Prop} {E : Prop} (hgd : o.guard = none) (s x : Operand) (t t2 : TypeId)
    (ho : o.op = .call { callee := .builtin .copy, args := #[s, x], argTypes := #[t, t2] }) (vs vx v : Value) (w' : World) (hs : a.eval s = vs) (hx : a.eval x = vx)
    (hrun : (Builtin.copy_ #[t, t2] o.type #[vs, vx]).run P w = .ok v w') (h : K (a.put o.dst v) w') : if Region.wanted o (yielded ops a.tmps) = true then Oper.wp P o a w K Q else E := by
  have hw : Region.wanted o (yielded ops a.tmps) = true := by simp [Region.wanted, hgd]
  rw [if_pos hw]
  unfold Oper.wp execOp
  simp only [ho, resolve, invoke, builtin, Sem.run_bind, Sem.run_pure, Result.andThen_ok, List.map_toArray, List.map_cons, List.map_nil, hs, hx, hrun]
  exact h
theorem BytesAt.kp_of {S : Nat → Prop} {w w' : World} {B : Nat} {A : Option Addr} {l : List UInt8} (k : BytesAt w B A l) (hB : B ≤ w.heap.size) (hk : Kp S w w') (hA : ∀ a, A = some a → a.block < B → 0 < l.length → ¬ S a.block) : BytesAt w' B A l := by
  intro i hi
  obtain ⟨b, off, vs, hA', hb, hR, hc⟩ := k i hi
  exact ⟨b, off, vs, hA', hb, hR, fun j hj => (hk.cell (p := ⟨b, off + i * 1 + j, none⟩) (Nat.lt_of_lt_of_le hb hB) (show ¬ S b from hA ⟨b, off, none⟩ hA' hb (by omega))).trans (hc j hj)⟩
/-- how a flow lies in memory -/
def FlowC (w : World) (F base : Nat) (v : Value) (hd : List UInt8) (n : Nat) (hv : Frm.Head) (body : List UInt8) (dead : Bool) : Prop :=
  hd.length = 24 ∧ Bk w F 121 (flowCells hd (flowTail n hv v dead)).toArray ∧ w.ownsRow base 5 1 v body.length (body.map byteV)
/-- a flow in which s waits; the body so far lies in v -/
def FlowS (w : World) (F base : Nat) (v : Value) (s : List UInt8 × Bool) : Prop :=
  (s.2 = true ∧ s.1 = [] ∧ v = .slice none 0 0 ∧ ∃ hd hv, FlowC w F base v hd 0 hv [] true) ∨
  (s.2 = false ∧ v = .slice none 0 0 ∧ ∃ hd n, n < 24 ∧ s.1 = hd.take n ∧ FlowC w F base v hd n noHead [] false) ∨
  (s.2 = false ∧ ∃ hd hv body, s.1 = hd ++ body ∧ Frm.head hd = (hv, 0) ∧ body.length < hv.len ∧ FlowC w F base v hd 24 hv body false)
theorem FlowC.kp {S : Nat → Prop} {w w' : World} {F base : Nat} {v : Value} {hd : List UInt8} {n : Nat} {hv : Frm.Head} {body : List UInt8} {dead : Bool} (h : FlowC w F base v hd n hv body dead) (hk : Kp S w w') (h1 : ¬ S F) (h2 : ∀ i, v.ownBlock = some i → ¬ S i) : FlowC w' F base v hd n hv body dead :=
  ⟨h.1, h.2.1.kp hk h1, own_kp2 h.2.2 hk h2⟩
theorem FlowS.kp {S : Nat → Prop} {w w' : World} {F base : Nat} {v : Value} {s : List UInt8 × Bool} (h : FlowS w F base v s) (hk : Kp S w w') (h1 : ¬ S F) (h2 : ∀ i, v.ownBlock = some i → ¬ S i) : FlowS w' F base v s := by
  rcases h with ⟨a, b, c, hd, hv, d⟩ | ⟨a, b, hd, n, c, d, e⟩ | ⟨a, hd, hv, body, b, c, d, e⟩
  · exact .inl ⟨a, b, c, hd, hv, d.kp hk h1 h2⟩
  · exact .inr (.inl ⟨a, b, hd, n, c, d, e.kp hk h1 h2⟩)
  · exact .inr (.inr ⟨a, hd, hv, body, b, c, d, e.kp hk h1 h2⟩)
theorem FlowS.lt {w : World} {F base : Nat} {v : Value} {s : List UInt8 × Bool} (h : FlowS w F base v s) : F < w.heap.size ∧ ∀ i, v.ownBlock = some i → base ≤ i ∧ i < w.heap.size := by
  rcases h with ⟨a, b, c, hd, hv, d⟩ | ⟨a, b, hd, n, c, d, e⟩ | ⟨a, hd, hv, body, b, c, d, e⟩
  · exact ⟨d.2.1.lt, own_lt d.2.2⟩
  · exact ⟨e.2.1.lt, own_lt e.2.2⟩
  · exact ⟨e.2.1.lt, own_lt e.2.2⟩
theorem FlowS.st {w : World} {F base : Nat} {v : Value} {s : List UInt8 × Bool} (h : FlowS w F base v s) : Flo.St s := by
  obtain ⟨r, dead⟩ := s
  rcases h with ⟨a, b, _⟩ | ⟨a, b, hd, n, c, d, e⟩ | ⟨a, hd, hv, body, b, c, d, e⟩
  · exact ⟨fun _ => b, fun h => by simp only at a h; rw [a] at h; cases h⟩
  · simp only at a d; subst a; subst d
    exact ⟨fun h => (by cases h), fun _ => Flo.run_short (by rw [List.length_take]; omega)⟩
  · simp only at a b; subst a; subst b
    have hl := e.1
    have ht : (hd ++ body).take 24 = hd := by rw [List.take_append_of_le_length (by omega), List.take_of_length_le (by omega)]
    exact ⟨fun h => (by cases h), fun _ => Flo.run_part (by rw [List.length_append, e.1]; omega) (by rw [ht, c]) (by rw [ht, c, List.length_append, e.1]; simp only; omega)⟩
theorem FlowS.open_ {w : World} {F base : Nat} {v : Value} {s : List UInt8 × Bool} (h : FlowS w F base v s) (hde : s.2 = false) : ∃ hd n hv body, FlowC w F base v hd n hv body false ∧
    (n < 24 ∧ v = .slice none 0 0 ∧ hv = noHead ∧ body = [] ∧ s.1 = hd.take n ∨ n = 24 ∧ Frm.head hd = (hv, 0) ∧ body.length < hv.len ∧ s.1 = hd ++ body) := by
  rcases h with ⟨a, b, c, hd, hv, d⟩ | ⟨a, b, hd, n, c, d, e⟩ | ⟨a, hd, hv, body, b, c, d, e⟩
  · rw [a] at hde; cases hde
  · exact ⟨hd, n, _, _, e, .inl ⟨c, b, rfl, rfl, d⟩⟩
  · exact ⟨hd, 24, _, _, e, .inr ⟨rfl, c, d, b⟩⟩
theorem FlowS.rebase {w : World} {F base : Nat} {v : Value} {s : List UInt8 × Bool} (h : FlowS w F base v s) (hs : s.1.length < 24) (b2 : Nat) : FlowS w F b2 v s := by
  have hn : ∀ {hd n hv dead}, v = .slice none 0 0 → FlowC w F base v hd n hv [] dead → FlowC w F b2 v hd n hv [] dead := fun hv h => ⟨h.1, h.2.1, by subst hv; exact World.ownsRow_nil _ _ _ _⟩
  rcases h with ⟨a, b, c, hd, hv, d⟩ | ⟨a, b, hd, n, c, d, e⟩ | ⟨a, hd, hv, body, b, c, d, e⟩
  · exact .inl ⟨a, b, c, hd, hv, hn c d⟩
  · exact .inr (.inl ⟨a, b, hd, n, c, d, hn b e⟩)
  · rw [b, List.length_append, e.1] at hs; omega
theorem FlowS.new (w : World) (base : Nat) (w' : World) (F : Nat) (h : Bk w' F 121 (flowCells (List.replicate 24 0) (flowTail 0 noHead (.slice none 0 0) false)).toArray) : FlowS w' F base (.slice none 0 0) ([], false) :=
  .inr (.inl ⟨rfl, rfl, List.replicate 24 0, 0, by decide, rfl, by simp, h, World.ownsRow_nil _ _ _ _⟩)
end Go.Proofs.YtpacgblddeoheaaDoor
/- Package flow: Feed takes bytes: the loop. -/
namespace Go.Proofs.YtpacgblddeoheaaDoor
open Go.RowKit Go.Deep
set_option linter.unusedVariables false
set_option linter.unusedSimpArgs false
set_option maxRecDepth 100000
attribute [local go_sem ↓] Go.wp_at_zero Go.wp_at_succ

/-- the items so far, and what is kept -/
structure FeedSide (w : World) (F : Nat) (vb : Value) (wr : World) (vl : Value) (l : List Flo.Item) (v : Value) : Prop where
  row : RowT (fun i => (vb.ownBlock = some i ∨ w.heap.size ≤ i) ∧ vl.ownBlock ≠ some i ∧ v.ownBlock ≠ some i) w.heap.size wr vl l
  own : ∀ i, v.ownBlock = some i → vb.ownBlock = some i ∨ w.heap.size ≤ i
  apart : ∀ i, v.ownBlock = some i → vl.ownBlock ≠ some i
  kp : Kp (fun i => i = F ∨ vb.ownBlock = some i) w wr
namespace FeedSide
variable {w wr W : World} {F : Nat} {vb vl v : Value} {l : List Flo.Item}
/-- no body waits any more -/
theorem none_ (h : FeedSide w F vb wr vl l v) : FeedSide w F vb wr vl l (.slice none 0 0) :=
  ⟨h.row.kp (Kp.refl (fun _ => False) wr) (fun _ _ h => h) (fun i hp _ => ⟨fun h => h, hp.1, hp.2.1, fun h => (by cases h)⟩), fun i h => (by cases h), fun i h => (by cases h), h.kp⟩
/-- the flow itself is written -/
theorem flow (h : FeedSide w F vb wr vl l v) (hF : F < w.heap.size) (hb : vb.ownBlock ≠ some F) (hk : Kp (fun i => i = F) wr W) : FeedSide w F vb W vl l v :=
  ⟨h.row.kp hk (fun i hi e => by have := (h.row.lt i hi).1; omega) (fun i hp _ => ⟨fun e => hp.1.elim (fun h => hb (e ▸ h)) (fun h => by omega), hp⟩), h.own, h.apart, h.kp.trans_of hk (fun i _ h => .inl h)⟩
/-- what is new is written -/
theorem below (h : FeedSide w F vb wr vl l v) (hk : Below wr.heap.size wr W) : FeedSide w F vb W vl l v :=
  ⟨h.row.kp (Kp.of_below (S := fun _ => False) hk) (fun _ _ h => h) (fun i hp _ => ⟨fun h => h, hp⟩), h.own, h.apart, h.kp.trans_of (Kp.of_below (S := fun _ => False) hk) (fun i _ h => h.elim)⟩
/-- the body grows -/
theorem grow {v' : Value} (h : FeedSide w F vb wr vl l v) (hg : wr.grownBy W v.ownBlock) (hat : v'.ownBlock = v.ownBlock ∨ v'.ownBlock = some wr.heap.size) : FeedSide w F vb W vl l v' := by
  have hk : Kp (fun i => v.ownBlock = some i) wr W := (Kp.refl _ _).grown hg (fun k hk _ => hk)
  have hsz := h.kp.size
  refine ⟨h.row.kp hk (fun i hi e => h.apart i e hi) (fun i hp hlt => ⟨hp.2.2, hp.1, hp.2.1, ?_⟩), fun i hi => ?_, fun i hi hv => ?_, h.kp.trans_of hk (fun i hi hs => ?_)⟩
  · rcases hat with e | e
    · rw [e]; exact hp.2.2
    · rw [e]; intro e2; have := Option.some.inj e2; omega
  · rcases hat with e | e
    · rw [e] at hi; exact h.own i hi
    · rw [e] at hi; have := Option.some.inj hi; exact .inr (by omega)
  · rcases hat with e | e
    · rw [e] at hi; exact h.apart i hi hv
    · rw [e] at hi; have := Option.some.inj hi; have := (h.row.lt i hv).2; omega
  · rcases h.own i hs with e | e
    · exact .inr e
    · omega
/-- an item comes -/
theorem push {u vl' : Value} {x : Flo.Item} {us : List Value} (h : FeedSide w F vb wr vl l v) (hu : KeyP (fun i => (vb.ownBlock = some i ∨ w.heap.size ≤ i) ∧ vl.ownBlock ≠ some i ∧ v.ownBlock ≠ some i) wr u x.body) (e1 : us.length = l.length)
    (e3 : ∀ i (h : i < l.length), ∃ u, us[i]? = some u ∧ KeyP (fun i => (vb.ownBlock = some i ∨ w.heap.size ≤ i) ∧ vl.ownBlock ≠ some i ∧ v.ownBlock ≠ some i) wr u l[i].body)
    (hrow : W.ownsRow w.heap.size 90 3 vl' (l.length + 1) ((l.zip us).flatMap itemPair ++ itemCells x u)) (hg : wr.grownBy W vl.ownBlock) (hat : vl'.ownBlock = vl.ownBlock ∨ vl'.ownBlock = some wr.heap.size)
    (hv : ∀ i, v.ownBlock = some i → i < wr.heap.size) : FeedSide w F vb W vl' (l ++ [x]) v := by
  have hk : Kp (fun i => vl.ownBlock = some i) wr W := (Kp.refl _ _).grown hg (fun k hk _ => hk)
  have hsz := h.kp.size
  refine ⟨RowT.push (P := fun i => (vb.ownBlock = some i ∨ w.heap.size ≤ i) ∧ vl.ownBlock ≠ some i ∧ v.ownBlock ≠ some i) (Q := fun i => (vb.ownBlock = some i ∨ w.heap.size ≤ i) ∧ vl.ownBlock ≠ some i ∧ v.ownBlock ≠ some i) (us := us) (us2 := [u]) e1 e3 rfl (fun i hi => ?_) ?_ hg hat (fun i hp hlt => ⟨hp.2.1, fun hn => ⟨hp.1, hn, hp.2.2⟩⟩) (fun i hp hlt => ⟨hp.2.1, fun hn => ⟨hp.1, hn, hp.2.2⟩⟩), h.own, fun i hi hl => ?_, h.kp.trans_of hk (fun i hi hs => ?_)⟩
  · have : i = 0 := by simpa using hi
    subst this
    exact ⟨u, rfl, hu⟩
  · simpa [itemPair] using hrow
  · rcases hat with e | e
    · rw [e] at hl; exact h.apart i hi hl
    · rw [e] at hl; have := Option.some.inj hl; have := hv i hi; omega
  · have := (h.row.lt i hs).1; omega
end FeedSide
/-- the items so far, the flow so far, the bytes that are left -/
structure FeedRel (w : World) (F base : Nat) (vb : Value) (b : List UInt8) (total : Flo.Out) (p vl : Value) (wr : World) (r : List UInt8) (A : Option Addr) (c : Nat) (l : List Flo.Item) (s : List UInt8 × Bool) (v : Value) : Prop where
  pe : p = .slice A r.length c
  rc : r.length ≤ c
  cm : c ≤ maxLen
  at_ : BytesAt w base A r
  ne : ∀ a, A = some a → 0 < r.length → a.block ≠ F
  tot : total = (l ++ (Flo.feed s r).1, (Flo.feed s r).2)
  len : l.length + r.length ≤ b.length
  fs : FlowS wr F base v s
  side : FeedSide w F vb wr vl l v
/-- behind the head -/
structure FeedMid (w : World) (F base : Nat) (vb : Value) (b : List UInt8) (total : Flo.Out) (p vl : Value) (wr : World) (r : List UInt8) (A : Option Addr) (c : Nat) (l : List Flo.Item) (hd : List UInt8) (hv : Frm.Head) (body : List UInt8) (v : Value) (d : Bool) (N : Nat) : Prop where
  pe : p = .slice A r.length c
  rc : r.length ≤ c
  cm : c ≤ maxLen
  at_ : BytesAt w base A r
  ne : ∀ a, A = some a → 0 < r.length → a.block ≠ F
  tot : total = (l ++ (Flo.run (hd ++ body ++ r)).1, (Flo.run (hd ++ body ++ r)).2)
  len : l.length + r.length + (if d then 1 else 0) ≤ b.length
  shr : r.length + (if d then 1 else 0) ≤ N
  eats : d = false → body.length < hv.len ∧ 0 < r.length
  head : Frm.head hd = (hv, 0)
  room : body.length ≤ hv.len
  fs : FlowC wr F base v hd 24 hv body false
  side : FeedSide w F vb wr vl l v
/-- what Feed leaves -/
def FeedPost (w : World) (F base : Nat) (vb : Value) (out : Flo.Out) (vl : Value) (w' : World) : Prop := ∃ v, FlowS w' F base v out.2 ∧ FeedSide w F vb w' vl out.1 v
theorem FeedRel.done {w wr : World} {F base : Nat} {vb p vl v : Value} {b r : List UInt8} {total : Flo.Out} {A : Option Addr} {c : Nat} {l : List Flo.Item} {s : List UInt8 × Bool} (h : FeedRel w F base vb b total p vl wr r A c l s v) (hr : r = [] ∨ s.2 = true) : FeedPost w F base vb total vl wr := by
  have e : Flo.feed s r = ([], s) := by
    rcases hr with rfl | hd
    · exact Flo.feed_nil h.fs.st
    · unfold Flo.feed; rw [if_pos hd]
      obtain ⟨a, d⟩ := s
      have := h.fs.st.1 hd
      simp only at hd this; subst hd; subst this; rfl
  rw [h.tot, e, List.append_nil]
  exact ⟨v, h.fs, h.side⟩
/-- the head isn't whole yet -/
theorem FeedRel.part {w wr W : World} {F base : Nat} {vb p vl : Value} {b r hd hd' : List UInt8} {total : Flo.Out} {A : Option Addr} {c n k : Nat} {l : List Flo.Item} {s : List UInt8 × Bool} (h : FeedRel w F base vb b total p vl wr r A c l s (.slice none 0 0)) (hs : s.2 = false) (hs1 : s.1 = hd.take n)
    (hl : hd.length = 24) (hk : k = min r.length (24 - n)) (hnk : n + k < 24) (hhd : hd' = hd.take n ++ r.take k ++ hd.drop (n + k)) (hl2 : hd'.length = 24) (hW : Bk W F 121 (flowCells hd' (flowTail (n + k) noHead (.slice none 0 0) false)).toArray) (hF : F < w.heap.size) (hb : vb.ownBlock ≠ some F) (hkp : Kp (fun i => i = F) wr W) : FeedPost w F base vb total vl W := by
  have ek : k = r.length := by omega
  have e : Flo.feed s r = ([], hd.take n ++ r, false) := by
    unfold Flo.feed
    rw [hs, hs1]
    exact Flo.run_short (by rw [List.length_append, List.length_take]; omega)
  have e2 : hd'.take (n + k) = hd.take n ++ r := by
    rw [hhd, ek, List.take_of_length_le (Nat.le_refl r.length), List.take_append_of_le_length (by rw [List.length_append, List.length_take]; omega), List.take_of_length_le (by rw [List.length_append, List.length_take]; omega)]
  rw [h.tot, e, List.append_nil]
  exact ⟨.slice none 0 0, .inr (.inl ⟨rfl, rfl, hd', n + k, hnk, e2.symm, hl2, hW, World.ownsRow_nil _ _ _ _⟩), h.side.flow hF hb hkp⟩
theorem feed_hd {hd r hd' : List UInt8} {n k : Nat} (hl : hd.length = 24) (hnk : n + k = 24) (hhd : hd' = hd.take n ++ r.take k ++ hd.drop (n + k)) : hd.take n ++ r = hd' ++ r.drop k := by
  rw [hhd, List.drop_of_length_le (by omega), List.append_nil, List.append_assoc, List.take_append_drop]
/-- the head is whole, and says what it ought to -/
theorem FeedRel.mid {w wr W : World} {F base : Nat} {vb vl : Value} {b r hd hd' : List UInt8} {total : Flo.Out} {q off c n k : Nat} {A1 : Option Addr} {l : List Flo.Item} {s : List UInt8 × Bool} {hv : Frm.Head} (h : FeedRel w F base vb b total (.slice (some ⟨q, off, none⟩) r.length c) vl wr r (some ⟨q, off, none⟩) c l s (.slice none 0 0)) (hs : s.2 = false) (hs1 : s.1 = hd.take n)
    (hl : hd.length = 24) (hk0 : 0 < k) (hkr : k ≤ r.length) (hnk : n + k = 24) (hhd : hd' = hd.take n ++ r.take k ++ hd.drop (n + k)) (hl2 : hd'.length = 24) (hA1 : (if c = k then some (⟨q, off, none⟩ : Addr) else some ⟨q, off + k, none⟩) = A1) (hh : (hv, 0) = Frm.head hd')
    (hW : Bk W F 121 (flowCells hd' (flowTail 24 hv (.slice none 0 0) false)).toArray) (hF : F < w.heap.size) (hb : vb.ownBlock ≠ some F) (hkp : Kp (fun i => i = F) wr W) :
    ∃ r' A' c' hd' hv' body' v' d, FeedMid w F base vb b total (.slice A1 (r.length - k) (c - k)) vl W r' A' c' l hd' hv' body' v' d r.length := by
  have hrc := h.rc
  have hcm := h.cm
  have hlen := h.len
  have e : Flo.feed s r = Flo.run (hd' ++ [] ++ r.drop k) := by
    unfold Flo.feed
    rw [hs, hs1, feed_hd hl hnk hhd, List.append_nil]
    rfl
  refine ⟨r.drop k, A1, c - k, hd', hv, [], .slice none 0 0, true, by rw [List.length_drop], by rw [List.length_drop]; omega, by omega, ?_, ?_, by rw [h.tot, e], by rw [List.length_drop, if_pos rfl]; omega, by rw [List.length_drop, if_pos rfl]; omega, fun h => (by cases h), hh.symm, Nat.zero_le _, ⟨hl2, hW, World.ownsRow_nil _ _ _ _⟩, h.side.flow hF hb hkp⟩
  · subst hA1
    by_cases e : c = k
    · rw [List.drop_of_length_le (by omega)]; exact fun i hi => by simp at hi
    · rw [if_neg e]; exact h.at_.drop k
  · intro a ha _
    have := h.ne _ rfl (by omega)
    rw [← hA1] at ha
    by_cases e : c = k
    · rw [if_pos e] at ha; cases ha; exact this
    · rw [if_neg e] at ha; cases ha; exact this
theorem addr_block (a : Addr) (k : Nat) : (a.add k).block = a.block := by unfold Addr.add; split <;> rfl
theorem bytes_next {w : World} {B c k : Nat} {A : Option Addr} {r : List UInt8} (h : BytesAt w B A r) (hk : k ≤ r.length) (hrc : r.length ≤ c) : BytesAt w B (if c = k then A else Option.map (fun x => x.add k) A) (r.drop k) := by
  by_cases e : c = k
  · rw [List.drop_of_length_le (by omega)]; exact fun i hi => by simp at hi
  · rw [if_neg e]
    rcases Nat.lt_or_ge 0 r.length with h0 | h0
    · obtain ⟨q, off, rfl, _, _⟩ := h.cell (i := 0) h0
      have e2 : (⟨q, off, none⟩ : Addr).add k = ⟨q, off + k, none⟩ := by unfold Addr.add; split <;> simp_all
      rw [Option.map_some, e2]
      exact h.drop k
    · rw [List.drop_of_length_le (by omega)]; exact fun i hi => by simp at hi
theorem ne_next {A : Option Addr} {F c k : Nat} {r : List UInt8} (h : ∀ a, A = some a → 0 < r.length → a.block ≠ F) : ∀ a, (if c = k then A else Option.map (fun x => x.add k) A) = some a → 0 < (r.drop k).length → a.block ≠ F := by
  intro a ha h0
  rw [List.length_drop] at h0
  by_cases e : c = k
  · rw [if_pos e] at ha; exact h a ha (by omega)
  · rw [if_neg e] at ha
    cases A with
    | none => cases ha
    | some x => cases ha; rw [addr_block]; exact h x rfl (by omega)
/-- the body isn't whole yet -/
theorem FeedMid.part {w wr W : World} {F base : Nat} {vb vl v v6 : Value} {b r hd body : List UInt8} {total : Flo.Out} {A A7 : Option Addr} {c k N : Nat} {l : List Flo.Item} {hv : Frm.Head} {d : Bool} (h : FeedMid w F base vb b total (.slice A r.length c) vl wr r A c l hd hv body v d N) (hk : k = min (hv.len - body.length) r.length)
    (hne : body.length + k ≠ hv.len) (hA : (if c = k then A else Option.map (fun x => x.add k) A) = A7) (hW : FlowC W F base v6 hd 24 hv (body ++ r.take k) false) (hs : FeedSide w F vb W vl l v6) : ∃ r' A' c' l' s' v', FeedRel w F base vb b total (.slice A7 (r.length - k) (c - k)) vl W r' A' c' l' s' v' := by
  have hrc := h.rc
  have hcm := h.cm
  have hlen := h.len
  have hroom := h.room
  have hkr : k ≤ r.length := by omega
  refine ⟨r.drop k, A7, c - k, l, (hd ++ (body ++ r.take k), false), v6, by rw [List.length_drop], by rw [List.length_drop]; omega, by omega, by subst hA; exact bytes_next h.at_ hkr hrc, by subst hA; exact ne_next h.ne, ?_, by rw [List.length_drop]; omega, ?_, hs⟩
  · rw [h.tot]
    have e : Flo.feed (hd ++ (body ++ r.take k), false) (r.drop k) = Flo.run (hd ++ body ++ r) := by
      unfold Flo.feed
      rw [if_neg (by simp)]
      simp only
      rw [List.append_assoc, List.append_assoc, List.append_assoc, List.take_append_drop]
    rw [e]
  · exact .inr (.inr ⟨rfl, hd, hv, body ++ r.take k, rfl, h.head, by rw [List.length_append, List.length_take]; omega, hW⟩)
/-- the frame is whole -/
theorem FeedMid.whole {w wr W W' : World} {F base : Nat} {vb vl vl' v u : Value} {b r hd hd2 body : List UInt8} {total : Flo.Out} {A A7 : Option Addr} {c k N : Nat} {l : List Flo.Item} {hv : Frm.Head} {d : Bool} {us : List Value} {it : Flo.Item} (hit : it = Flo.item hv (body ++ r.take k)) (h : FeedMid w F base vb b total (.slice A r.length c) vl wr r A c l hd hv body v d N) (hk : k = min (hv.len - body.length) r.length)
    (he : body.length + k = hv.len) (hA : (if c = k then A else Option.map (fun x => x.add k) A) = A7)
    (hs : FeedSide w F vb W vl l (.slice none 0 0)) (hl2 : hd2.length = 24) (hW : Bk W' F 121 (flowCells hd2 (flowTail 0 noHead (.slice none 0 0) false)).toArray)
    (hu : KeyP (fun i => (vb.ownBlock = some i ∨ w.heap.size ≤ i) ∧ vl.ownBlock ≠ some i ∧ (Value.slice none 0 0).ownBlock ≠ some i) W u it.body) (e1 : us.length = l.length)
    (e3 : ∀ i (h : i < l.length), ∃ u, us[i]? = some u ∧ KeyP (fun i => (vb.ownBlock = some i ∨ w.heap.size ≤ i) ∧ vl.ownBlock ≠ some i ∧ (Value.slice none 0 0).ownBlock ≠ some i) W u l[i].body)
    (hrow : W'.ownsRow w.heap.size 90 3 vl' (l.length + 1) ((l.zip us).flatMap itemPair ++ itemCells it u)) (hg : W.grownBy W' vl.ownBlock) (hat : vl'.ownBlock = vl.ownBlock ∨ vl'.ownBlock = some W.heap.size) :
    ∃ r' A' c' l' s' v', FeedRel w F base vb b total (.slice A7 (r.length - k) (c - k)) vl' W' r' A' c' l' s' v' := by
  subst hit
  have hrc := h.rc
  have hcm := h.cm
  have hlen := h.len
  have hroom := h.room
  have heats := h.eats
  have hl := h.fs.1
  have hkr : k ≤ r.length := by omega
  have hlen2 : l.length + 1 + (r.length - k) ≤ b.length := by
    cases d with
    | true => simp at hlen; omega
    | false => have := heats rfl; simp at hlen; omega
  refine ⟨r.drop k, A7, c - k, l ++ [Flo.item hv (body ++ r.take k)], ([], false), .slice none 0 0, by rw [List.length_drop], by rw [List.length_drop]; omega, by omega, by subst hA; exact bytes_next h.at_ hkr hrc, by subst hA; exact ne_next h.ne, ?_, by rw [List.length_append, List.length_drop]; exact hlen2, ?_, hs.push hu e1 e3 hrow hg hat (fun i h => (by cases h))⟩
  · have ht : (hd ++ body ++ r).take 24 = hd := by rw [List.append_assoc, List.take_append_of_le_length (by omega), List.take_of_length_le (by omega)]
    have hh := h.head
    have hd24 : (hd ++ body ++ r).drop 24 = body ++ r := by
      rw [List.append_assoc, List.drop_append_of_le_length (by omega), List.drop_of_length_le (by omega), List.nil_append]
    have htk : (body ++ r).take hv.len = body ++ r.take k := by
      rw [List.take_append, List.take_of_length_le (by omega)]
      congr 2; omega
    have hdr : (hd ++ body ++ r).drop (24 + hv.len) = r.drop k := by
      rw [← List.drop_drop, hd24, List.drop_append, List.drop_of_length_le (by omega), List.nil_append]
      congr 1; omega
    have e := Flo.run_whole (x := hd ++ body ++ r) (by rw [List.length_append, List.length_append]; omega) (by rw [ht, hh]) (by rw [ht, hh, List.length_append, List.length_append]; simp only; omega)
    rw [ht, hh, hd24] at e
    simp only at e
    rw [htk, hdr] at e
    rw [h.tot, e]
    unfold Flo.feed
    simp
  · exact .inr (.inl ⟨rfl, rfl, hd2, 0, by decide, rfl, hl2, hW, World.ownsRow_nil _ _ _ _⟩)
/-- the head is whole, and isn't one -/
theorem FeedRel.bad {w wr wx W : World} {F base : Nat} {vb vl vl' p : Value} {b r hd hd' : List UInt8} {total : Flo.Out} {A : Option Addr} {c n k : Nat} {l : List Flo.Item} {s : List UInt8 × Bool} {hv hv2 : Frm.Head} {err : Int} {us : List Value} (h : FeedRel w F base vb b total p vl wr r A c l s (.slice none 0 0)) (hs : s.2 = false) (hs1 : s.1 = hd.take n)
    (hl : hd.length = 24) (hnk : n + k = 24) (hhd : hd' = hd.take n ++ r.take k ++ hd.drop (n + k)) (hl2 : hd'.length = 24) (hh : (hv, err) = Frm.head hd') (he : err ≠ 0)
    (hside : FeedSide w F vb wx vl l (.slice none 0 0)) (hW : Bk W F 121 (flowCells hd' (flowTail 0 hv2 (.slice none 0 0) true)).toArray) (e1 : us.length = l.length)
    (e3 : ∀ i (h : i < l.length), ∃ u, us[i]? = some u ∧ KeyP (fun i => (vb.ownBlock = some i ∨ w.heap.size ≤ i) ∧ vl.ownBlock ≠ some i ∧ (Value.slice none 0 0).ownBlock ≠ some i) wx u l[i].body)
    (hrow : W.ownsRow w.heap.size 90 3 vl' (l.length + 1) ((l.zip us).flatMap itemPair ++ itemCells ⟨[], [], err⟩ (.slice none 0 0))) (hg : wx.grownBy W vl.ownBlock) (hat : vl'.ownBlock = vl.ownBlock ∨ vl'.ownBlock = some wx.heap.size) :
    FeedPost w F base vb total vl' W := by
  have e : Flo.feed s r = ([⟨[], [], err⟩], [], true) := by
    unfold Flo.feed
    have ht : (hd' ++ r.drop k).take 24 = hd' := by rw [List.take_append_of_le_length (by omega), List.take_of_length_le (by omega)]
    rw [hs, hs1, feed_hd hl hnk hhd, if_neg (by simp), Flo.run_bad (by rw [List.length_append]; omega) (by rw [ht, ← hh]; exact he), ht, ← hh]
  rw [h.tot, e]
  exact ⟨.slice none 0 0, .inl ⟨rfl, rfl, rfl, hd', hv2, hl2, hW, World.ownsRow_nil _ _ _ _⟩, hside.push KeyP.nil e1 e3 hrow hg hat (fun i h => (by cases h))⟩
theorem flow_bytes {w : World} {F T : Nat} {hd : List UInt8} {tl : List Value} (h : Bk w F T (flowCells hd tl).toArray) : BytesAt w (F + 1) (some ⟨F, 0, none⟩) hd := by
  intro i hi
  refine ⟨F, 0, [byteV hd[i]], rfl, by omega, rfl, fun j hj => ?_⟩
  have hj0 : j = 0 := by simpa using hj
  subst hj0
  rw [h.cell]
  simp only [flowCells, List.getElem?_toArray]
  rw [List.getElem?_append_left (by rw [List.length_map]; omega)]
  simp [hi]
set_option maxHeartbeats 4000000 in
theorem feed_any (F base c : Nat) (A : Option Addr) (b : List UInt8) (vb : Value) (s : List UInt8 × Bool) (w : World) (hF : F < base) (hbs : base ≤ w.heap.size) (hs : FlowS w F base vb s) (hat : BytesAt w base A b) (hne : ∀ a, A = some a → 0 < b.length → a.block ≠ F)
    (hlay : Laid w) (h1 : 1 < base) (h2 : 0 < base) (h3 : 1 ≠ F) (h4 : 0 ≠ F) (hbl : b.length ≤ 1000000000) (hc : b.length ≤ c) (hm : c ≤ maxLen) :
    Calls Tryd.prog 32 #[.pointer (some ⟨F, 0, none⟩), .slice A b.length c] w fun e w' => ∃ vl, e = .returned vl ∧ FeedPost w F base vb (Flo.feed s b) vl w' := by
  have HS := Lib.hid hs
  have HAT := Lib.hid hat
  have HNE := Lib.hid hne
  have HLAY := Lib.hid hlay
  have HVB := Lib.hid hs.lt.2
  obtain ⟨total, htot⟩ : ∃ t, t = Flo.feed s b := ⟨_, rfl⟩
  rw [← htot]
  have HT := Lib.hid htot
  clear hs hat hne hlay htot
  go_enter Tryd.func32, Tryd.ntmps32
  go_wp2_with fail
  go_loopw [1, 5] (fun p vl wr => ∃ r A c l s v, FeedRel w F base vb b total p vl wr r A c l s v) (fun p _ _ => match p with | .slice _ l _ => l | _ => 0)
  case atStart => exact ⟨b, A, c, [], s, vb, rfl, hc, hm, HAT.out, HNE.out, by rw [HT.out]; rfl, by simp, HS.out, ⟨RowT.nil _ _ _, fun i hi => .inl hi, fun i hi h => (by cases h), Kp.refl _ _⟩⟩
  case round =>
    clear hc hm HAT HNE HS HT
    obtain ⟨r, A, c, l, s, v, hrel⟩ := hrel
    have HREL := Lib.hid hrel
    obtain ⟨hpe, hrc, hcm, hat, hne, htot, hlen, hfs, hside⟩ := hrel
    subst hpe
    have HATR := Lib.hid hat
    have HAV : Hid (∀ a, A = some a → a.block < base → 0 < r.length → ¬ (a.block = F ∨ vb.ownBlock = some a.block)) := Lib.hid (fun a ha hb h0 h => h.elim (hne a ha h0) (fun h => by have := (HVB.out _ h).1; omega))
    clear hat hne htot hside
    unfold maxLen at hcm
    by_cases hr0 : r.length = 0
    · have hr1 : ¬ (0 : Int) < (r.length : Int) := by omega
      clear hfs
      go_wp2_with fail
      go_ret
      exact ⟨_, rfl, HREL.out.done (.inl (List.length_eq_zero_iff.1 hr0))⟩
    · have hr1 : (0 : Int) < (r.length : Int) := by omega
      have hr2 : 0 < r.length := by omega
      obtain ⟨q, off, rfl, hx1, hx2⟩ := HATR.out.cell (i := 0) hr2
      clear hx1 hx2
      by_cases hdead : s.2 = true
      · rcases hfs with ⟨hd, hs1, hv, hdb, hhv, hl, hk, _⟩ | ⟨hd, _⟩ | ⟨hd, _⟩
        · obtain ⟨c0, c1, c2, c3, c4, c5⟩ := flow_tail hk hl
          clear hk hl hv hs1
          have HD := Lib.hid hd
          clear hd hdead
          go_wp2_with fail
          go_ret
          exact ⟨_, rfl, HREL.out.done (.inr HD.out)⟩
        · rw [hdead] at hd; cases hd
        · rw [hdead] at hd; cases hd
      · have hdead : s.2 = false := by simpa using hdead
        obtain ⟨hd, n, hv, body, ⟨hl, hk, hob⟩, hcase⟩ := hfs.open_ hdead
        obtain ⟨c0, c1, c2, c3, c4, c5⟩ := flow_tail hk hl
        have HD := Lib.hid hdead
        have HK := Lib.hid hk
        have HL := Lib.hid hl
        have HOB := Lib.hid hob
        have HC := Lib.hid hcase
        clear hk hl hdead hob hcase hfs
        go_upto_if 26 with (fail)
        go_cut [1, 6, 7, 8] from 12 to 121 (fun p _ _ _ wx => ∃ r' A' c' hd' hv' body' v' d, FeedMid w F base vb b total p u5 wx r' A' c' l hd' hv' body' v' d r.length)
        case first =>
          rcases HC.out with ⟨hn, hv, hhv, hbd, hs1⟩ | ⟨hn, hhd, hbl, hs1⟩
          · have HV := Lib.hid hv
            have HHV := Lib.hid hhv
            have HBD := Lib.hid hbd
            have HS1 := Lib.hid hs1
            have hn' : (n : Int) < 24 := by omega
            have hn2 : ¬ (24 = n) := by omega
            have hn3 : (n : Int) ≤ 24 := by omega
            have hn4 : (0 : Int) ≤ (n : Int) := by omega
            clear hv hhv hbd hs1 HC
            obtain ⟨k, hk⟩ : ∃ k, k = min r.length (24 - n) := ⟨_, rfl⟩
            obtain ⟨W2, hcp, hb2, hk2⟩ := copy_head wr.drew F n k r.length base (some ⟨q, off, none⟩) hd r _ HK.out.drew HL.out rfl (by omega) (HATR.out.kp_of hbs (HREL.out.side.kp.drew) (HAV.out)) rfl hk
            obtain ⟨hd', hhd'⟩ : ∃ x, x = hd.take n ++ r.take k ++ hd.drop (n + k) := ⟨_, rfl⟩
            rw [← hhd'] at hb2
            have hkr : k ≤ r.length := by omega
            have hl2 : hd'.length = 24 := by rw [hhd', List.length_append, List.length_append, List.length_take, List.length_take, List.length_drop, HL.out]; omega
            obtain ⟨g0, g1, g2, g3, g4, g5⟩ := flow_tail hb2 hl2
            have HKK := Lib.hid hk
            have HHD := Lib.hid hhd'
            have HB2 := Lib.hid hb2
            have HK2 := Lib.hid hk2
            clear hk hhd' hb2 hk2
            go_upto_region 6 with (fail)
            go_region_held3 (fun w' => w'.cell? ⟨F, 24, none⟩ = some (.int .i64 (n : Int))) (first | go_keep | exact g0) ((refine step_copy (by rfl) (.tmp 34) (.tmp 35) 22 22 (by rfl) _ _ (goInt k) W2 (by rfl) (by rfl) (hcp _ _ _) ?_))
            have fr := HB2.out.frozen
            have hk0 : (0 : Int) ≤ (k : Int) := by omega
            have hk1 : (k : Int) ≤ (r.length : Int) := by omega
            have hk2 : (k : Int) ≤ (c : Int) := by omega
            go_upto_region 9 with (fail)
            generalize hA1 : (if c = k then some (⟨q, off, none⟩ : Addr) else some ⟨q, off + k, none⟩) = A1
            have HA1 := Lib.hid hA1
            obtain ⟨W3, hW3⟩ : ∃ W3, W3 = W2.setCell ⟨F, 24, none⟩ (.int .i64 ((n : Int) + (k : Int))) := ⟨_, rfl⟩
            rw [← hW3]
            have b3 : Bk W3 F 121 (flowCells hd' (flowTail (n + k) hv v false)).toArray := by rw [hW3]; exact flow_set HB2.out hl2 0 (.int .i64 ((n : Int) + (k : Int)))
            have k3 : Kp (fun i => i = F) wr W3 := by rw [hW3]; exact ((Kp.refl _ wr).drew.trans (HK2.out.mono (fun _ _ h => h))).setCell (p := ⟨F, 24, none⟩) (fun _ => rfl) _
            clear g0 g1 g2 g3 g4 g5 c0 c1 c2 c3 c4 c5 fr hA1 hW3 HK2 HB2 hcp
            obtain ⟨c0, c1, c2, c3, c4, c5⟩ := flow_tail b3 hl2
            have fr := b3.frozen
            have B3 := Lib.hid b3
            have K3 := Lib.hid k3
            clear b3 k3
            by_cases hnk : n + k < 24
            · have hnk' : (n : Int) + (k : Int) < 24 := by omega
              have hnk2 : ((n + k : Nat) : Int) < 24 := by omega
              go_wp2_with fail
              go_ret
              have hrel := HREL.out
              rw [HV.out] at hrel
              have hb3 := B3.out
              rw [HV.out, HHV.out] at hb3
              exact ⟨_, rfl, hrel.part HD.out HS1.out HL.out HKK.out hnk HHD.out hl2 hb3 (by omega) (fun e => by have := (HVB.out _ e).1; omega) K3.out⟩
            · have hnk' : ¬ (n : Int) + (k : Int) < 24 := by omega
              have hnk2 : ¬ ((n + k : Nat) : Int) < 24 := by omega
              have hk1 : 0 < k := by have := HKK.out; omega
              have HNK := Lib.hid (show n + k = 24 by have := HKK.out; omega)
              go_wp2_with fail
              refine (head_yes F 0 24 (F + 1) hd' W3 hl2 (flow_bytes B3.out) B3.out.lt (Nat.le_refl _)).mono ?_
              rintro e W4 ⟨rfl, hb4⟩
              obtain ⟨⟨⟨cmd, len, sum⟩, err⟩, hhd⟩ : ∃ x, x = Frm.head hd' := ⟨_, rfl⟩
              rw [← hhd]
              simp only [headV]
              have HH := Lib.hid hhd
              have B4 := Lib.hid (B3.out.below hb4 B3.out.lt)
              have K4 := Lib.hid (K3.out.trans_of (Kp.of_below (S := fun _ => False) hb4) (fun i _ h => h.elim))
              have LT4 : F < W4.heap.size := B4.out.lt
              have n1 : ¬ (F = W4.heap.size) := by omega
              have n2 : ¬ (W4.heap.size = F) := by omega
              clear hhd hb4 c0 c1 c2 c3 c4 c5 fr
              obtain ⟨c0, c1, c2, c3, c4, c5⟩ := flow_tail B4.out hl2
              have fr := B4.out.frozen
              by_cases he : err = 0
              · subst he
                go_wp2_with fail
                go_meet
                have hrel := HREL.out
                rw [HV.out] at hrel
                have hb4 := B4.out
                rw [HV.out, HNK.out] at hb4
                refine hrel.mid HD.out HS1.out HL.out hk1 hkr HNK.out HHD.out hl2 HA1.out HH.out ?_ (by omega) (fun e => by have := (HVB.out _ e).1; omega) ((((K4.out.setCell (p := ⟨F, 25, none⟩) (fun _ => rfl) _).setCell (p := ⟨F, 26, none⟩) (fun _ => rfl) _).setCell (p := ⟨F, 27, none⟩) (fun _ => rfl) _).alloc _)
                exact (flow_set (flow_set (flow_set hb4 hl2 1 (.string ⟨cmd.toArray⟩)) hl2 2 (.int .i64 (len : Int))) hl2 3 (.int .u32 (sum : Int))).alloc _
              · have he' : (err != 0) = true := by rw [bne_iff_ne]; exact he
                have HE := Lib.hid he
                clear he
                go_upto_region 14 with (fail)
                obtain ⟨W5, hW5⟩ : ∃ W5, W5 = ((W4.setCell ⟨F, 29, none⟩ (.bool true)).setCell ⟨F, 24, none⟩ (.int .i64 0)).alloc (.cells #[.string ⟨cmd.toArray⟩, .int .i64 (len : Int), .int .u32 (sum : Int)] 119) := ⟨_, rfl⟩
                rw [← hW5]
                have hrel := HREL.out
                rw [HV.out] at hrel
                have hb4 := B4.out
                rw [HV.out, HNK.out] at hb4
                have b5 : Bk W5 F 121 (flowCells hd' (flowTail 0 hv (.slice none 0 0) true)).toArray := by
                  rw [hW5]
                  exact (flow_set (flow_set hb4 hl2 5 (.bool true)) hl2 0 (.int .i64 0)).alloc _
                have k5 : Kp (fun i => i = F) wr W5 := by rw [hW5]; exact ((K4.out.setCell (p := ⟨F, 29, none⟩) (fun _ => rfl) _).setCell (p := ⟨F, 24, none⟩) (fun _ => rfl) _).alloc _
                have side5 := (hrel.side.flow (by omega) (fun e => by have := (HVB.out _ e).1; omega) k5).below ((Below.refl _ _).alloc (Nat.le_refl _) (.cells #[.string ⟨#[]⟩, .slice none 0 0, .int .i64 err] 90))
                have b6 := b5.alloc (.cells #[.string ⟨#[]⟩, .slice none 0 0, .int .i64 err] 90)
                obtain ⟨us, e1, e2, e3⟩ := side5.row
                have hsrc := Src.at_ W5 [.string ⟨#[]⟩, .slice none 0 0, .int .i64 err] 90 #[.string ⟨#[]⟩, .slice none 0 0, .int .i64 err] W5.heap.size rfl rfl
                have hz5 := side5.kp.size
                have HREL2 := Lib.hid hrel
                have HB6 := Lib.hid b6
                have HS5 := Lib.hid side5
                have HE2 := Lib.hid e2
                have HE3 := Lib.hid e3
                have HSRC := Lib.hid hsrc
                have HZ5 := Lib.hid hz5
                obtain ⟨i0, hi, hz0, hz1', hz2⟩ := info_parts item_info
                have Hi := Lib.hid hi
                have Hz := Lib.hid hz0
                have Hz1 := Lib.hid hz1'
                have Hz2 := Lib.hid hz2
                clear hi hz0 hz1' hz2 hsrc hz5 e3 e2 side5 b6 k5 b5 hb4 hrel hW5
                go_wp2_with (at_builtin; refine wpList_app _ rfl (.tmp 69) (.tmp 72) _ rfl w.heap.size 90 i0 _ 3 48 Tryd.underlying87 Hi.out Hz.out Hz1.out Hz2.out rfl (by decide) u5 l.length ((l.zip us).flatMap itemPair) rfl HE2.out (some ⟨W5.heap.size, 0, none⟩) 1 1 [.string ⟨#[]⟩, .slice none 0 0, .int .i64 err] rfl rfl HSRC.out (itemCells_one ⟨[], [], err⟩ none 0 0) (by unfold maxLen; omega) (by omega) HZ5.out ?_; intro v6 w6 hrow6 hg6 hat6)
                go_ret
                exact ⟨_, rfl, HREL2.out.bad HD.out HS1.out HL.out HNK.out HHD.out hl2 HH.out HE.out HS5.out (HB6.out.kp (S := fun i => u5.ownBlock = some i) ((Kp.refl _ _).grown hg6 (fun k hk _ => hk)) (fun e => by have := (HS5.out.row.lt _ e).1; omega)) e1 HE3.out hrow6 hg6 hat6⟩
          · have hn' : ¬ (n : Int) < 24 := by omega
            go_wp2_with fail
            go_meet
            have hrel := HREL.out
            refine ⟨r, some ⟨q, off, none⟩, c, hd, hv, body, v, false, rfl, hrc, by unfold maxLen; exact hcm, HATR.out, hrel.ne, ?_, by simpa using hlen, by simp, fun _ => ⟨hbl, hr2⟩, hhd, Nat.le_of_lt hbl, ⟨HL.out, by rw [← hn]; exact HK.out, HOB.out⟩, hrel.side⟩
            rw [hrel.tot]
            unfold Flo.feed
            rw [HD.out, hs1]
            rfl
        case rest =>
          clear HC HK HL HOB c0 c1 c2 c3 c4 c5 HREL HATR HAV HD hrc hcm hlen hr0 hr1 hr2
          obtain ⟨N, hN⟩ : ∃ N, N = r.length := ⟨_, rfl⟩
          rw [← hN] at hcut
          obtain ⟨r, A, c, hd, hv, body, v, d, hmid⟩ := hcut
          have HM := Lib.hid hmid
          obtain ⟨hpe, hrc, hcm, hat, hne, htot, hlen, hshr, heats, hhead, hroom, ⟨hl, hk, hob⟩, hside⟩ := hmid
          subst hpe
          obtain ⟨Av, cv, rfl, hn1, hm1, _⟩ := own_form hob
          have hlv : hv.len ≤ 2048 := by have := Flo.head_len (b := hd); rw [hhead] at this; exact this rfl
          have HAT := Lib.hid hat
          have HAV : Hid (∀ a, A = some a → a.block < base → 0 < r.length → ¬ (a.block = F ∨ vb.ownBlock = some a.block)) := Lib.hid (fun a ha hb h0 h => h.elim (hne a ha h0) (fun h => by have := (HVB.out _ h).1; omega))
          have HL := Lib.hid hl
          have HK := Lib.hid hk
          have HOB := Lib.hid hob
          obtain ⟨c0, c1, c2, c3, c4, c5⟩ := flow_tail hk hl
          clear hat hne htot hhead hside hk hob hl
          unfold maxLen at hcm hm1
          obtain ⟨k, hk⟩ : ∃ k, k = min (hv.len - body.length) r.length := ⟨_, rfl⟩
          go_upto_region 16 with (fail)
          go_quiet (fail)
          have hki : (if (r.length : Int) < (hv.len : Int) - (body.length : Int) then (r.length : Int) else (hv.len : Int) - (body.length : Int)) = (k : Int) := by
            split <;> omega
          rw [hki]
          have HKI := Lib.hid hk
          have hkr : k ≤ r.length := by omega
          have hk0 : (0 : Int) ≤ (k : Int) := by omega
          have hk1 : (k : Int) ≤ (r.length : Int) := by omega
          have hk2 : (k : Int) ≤ (c : Int) := by omega
          clear hki hk c0 c1 c2 c3 c4 c5
          obtain ⟨W1, hW1⟩ : ∃ W1, W1 = wc.drewN nq := ⟨_, rfl⟩
          rw [← hW1]
          have K1 : Hid (Bk W1 F 121 _) := Lib.hid (by rw [hW1]; exact HK.out.drewN nq)
          have kp1 : Kp (fun _ => False) wc W1 := by rw [hW1]; exact (Kp.refl _ wc).drewN nq
          have O1 := Lib.hid (own_kp2 HOB.out kp1 (fun _ _ h => h))
          have S1 := Lib.hid (HM.out.side.below kp1.below)
          have HB1 := Lib.hid kp1.below
          have hwc : wc.heap.size = W1.heap.size := by rw [hW1]; rfl
          clear hW1 HK HOB kp1
          obtain ⟨c0, c1, c2, c3, c4, c5⟩ := flow_tail K1.out HL.out
          go_upto_region 17 with (fail)
          have hsrc : ∀ i, Src (W1.drewN i) (A) ((r.take k).map byteV) := fun i => BytesAt.src (BytesAt.take (HAT.out.kp_of hbs ((HM.out.side.kp.trans_of (Kp.of_below (S := fun _ => False) HB1.out) (fun i _ h => h.elim)).drewN i) (HAV.out)) k)
          have HSRC := Lib.hid hsrc
          have HZ1 := Lib.hid S1.out.kp.size
          have hbw : base ≤ W1.heap.size := Nat.le_trans hbs HZ1.out
          have hkl : ((r.take k).map byteV).length = k * 1 := by rw [List.length_map, List.length_take, Nat.mul_one]; omega
          have HKL := Lib.hid hkl
          have hvF : (Value.slice Av body.length cv).ownBlock ≠ some F := fun e => by have := (O1.out.lt _ e).1; omega
          have LTF : F < W1.heap.size := K1.out.lt
          obtain ⟨i0, hi, hz0, hz1', hz2⟩ := info_parts byte_info
          have Hi := Lib.hid hi
          have Hz := Lib.hid hz0
          have Hz1 := Lib.hid hz1'
          have Hz2 := Lib.hid hz2
          have fr := K1.out.frozen
          clear hi hz0 hz1' hz2 hsrc hkl
          go_region_law ((refine step_app _ (by rfl) (.tmp 96) (.tmp 99) 22 (by rfl) base 5 i0 _ 1 1 Tryd.underlying22 Hi.out Hz.out Hz1.out Hz2.out rfl (by decide) (.slice Av body.length cv) body.length (body.map byteV) (by rfl) (own_kp2 O1.out ((Kp.refl (fun _ => False) W1).drewN 1) (fun _ _ h => h)) A k c ((r.take k).map byteV) (by rfl) HKL.out (HSRC.out 1) (oneCell_bytes _) (by unfold maxLen; omega) (by omega) hbw ?_; intro v5 w5 hrow5 hg5 hat5; obtain ⟨A5, cv5, rfl, hn5, hm5, hx5⟩ := own_form hrow5; clear hx5; have g4 : w5.cell? ⟨F, 28, none⟩ = some (.slice Av body.length cv) := (World.cell?_of_block (hg5.block _ LTF (fun e => hvF e.symm))).trans c4; have g5 : w5.frozen? ⟨F, 28, none⟩ = false := (World.frozen?_of_block (hg5.block _ LTF (fun e => hvF e.symm))).trans (fr 28)))
          obtain ⟨v6, hv6⟩ : ∃ v6, v6 = Value.slice A5 (body.length + k) cv5 := ⟨_, rfl⟩
          obtain ⟨W6, hW6⟩ : ∃ W6, W6 = w5.setCell ⟨F, 28, none⟩ v6 := ⟨_, rfl⟩
          rw [← hv6] at hrow5 hat5
          rw [← hv6, ← hW6]
          have kp5 : Kp (fun i => (Value.slice Av body.length cv).ownBlock = some i) W1 w5 := ((Kp.refl _ W1).drew).grown hg5 (fun k hk _ => hk)
          have kF5 := K1.out.kp kp5 hvF
          have kp6 : Kp (fun i => i = F) w5 W6 := by rw [hW6]; exact kp_cell1 _ _ _ _
          have v6F : v6.ownBlock ≠ some F := fun e => by have := (own_lt hrow5 _ e).1; omega
          have K6 : Hid (Bk W6 F 121 (flowCells hd (flowTail 24 hv v6 false)).toArray) := Lib.hid (by rw [hW6]; exact flow_set kF5 HL.out 4 v6)
          have O6 := Lib.hid (own_kp2 hrow5 kp6 (fun i hi e => v6F (e ▸ hi)))
          have S6 := Lib.hid (((S1.out.below ((Kp.refl (fun _ => False) W1).drewN 1).below).grow hg5 hat5).flow (by omega) (fun e => by have := (HVB.out _ e).1; omega) kp6)
          clear c0 c1 c2 c3 c4 c5 fr g4 g5 kp5 kF5 kp6 hW6 hrow5 hg5 hat5 K1 O1 S1 HSRC
          obtain ⟨c0, c1, c2, c3, c4, c5⟩ := flow_tail K6.out HL.out
          have hbl : (body ++ r.take k).length = body.length + k := by rw [List.length_append, List.length_take]; omega
          have OB : Hid (OwnB W6 base v6 (body ++ r.take k)) := Lib.hid (by show W6.ownsRow _ _ 1 v6 _ _; rw [hbl, List.map_append]; exact O6.out)
          have HBL := Lib.hid hbl
          have HVV := Lib.hid hv6
          rw [hv6] at c4
          clear hbl hv6 O6
          go_upto_region 19 with (fail)
          generalize hA7 : (if c = k then A else Option.map (fun x => x.add k) A) = A7
          have HA7 := Lib.hid hA7
          clear hA7
          go_quiet (fail)
          obtain ⟨W7, hW7⟩ : ∃ W7, W7 = W6.drewN nq := ⟨_, rfl⟩
          rw [← hW7]
          have kp7 : Kp (fun _ => False) W6 W7 := by rw [hW7]; exact (Kp.refl _ W6).drewN nq
          have K7 := Lib.hid (K6.out.kp kp7 (fun h => h))
          have O7 := Lib.hid (own_kp2 OB.out kp7 (fun _ _ h => h))
          have S7 := Lib.hid (S6.out.below kp7.below)
          clear hW7 kp7 K6 OB S6 c0 c1 c2 c3 c4 c5
          obtain ⟨c0, c1, c2, c3, c4, c5⟩ := flow_tail K7.out HL.out
          have hmeas : r.length - k < N := by
            have := HKI.out
            cases d with
            | true => simp at hshr; omega
            | false => have := heats rfl; simp at hshr; omega
          by_cases hfull : body.length + k = hv.len
          · have hfi : (body.length : Int) + (k : Int) = (hv.len : Int) := by omega
            have HFU := Lib.hid hfull
            clear hfull
            have hlay7 := HLAY.out.kp_of S7.out.kp (fun h => h.elim h3 (fun h => by have := (HVB.out _ h).1; omega)) (fun h => h.elim h4 (fun h => by have := (HVB.out _ h).1; omega))
            have hk7 := K7.out
            rw [HVV.out] at hk7
            obtain ⟨A8, c8, hv8, hc8, hm8, hb8, ho8⟩ := OwnB.at_ (base := base) O7.out
            rw [HBL.out] at hv8 hc8
            rw [HVV.out] at hv8
            injection hv8 with hA8 _ hc8'
            subst hA8
            subst hc8'
            have hsum : hv.sum < 4294967296 := by have := Flo.head_sum (b := hd); rw [HM.out.head] at this; exact this
            have hwh := whole_any F hd hv A5 (body.length + k) cv5 W7.heap.size (body ++ r.take k) W7 hk7 HL.out hlay7 hb8 (Nat.le_refl _) HBL.out hc8 hm8 (by omega) hsum
            have HWH := Lib.hid hwh
            have HB8 := Lib.hid hb8
            have HO8 := Lib.hid ho8
            clear hwh hb8 hlay7 hk7 ho8
            go_wp2_with fail
            refine HWH.out.mono ?_
            rintro e W8 ⟨u, rfl, hu, hk8, hkp8⟩
            have HU := Lib.hid hu
            have K8 := Lib.hid hk8
            have S8 := Lib.hid ((S7.out.flow (by omega) (fun e => by have := (HVB.out _ e).1; omega) hkp8).none_.below ((Below.refl _ _).alloc (Nat.le_refl _) (.cells (itemCells (Flo.item hv (body ++ r.take k)) u).toArray 90)))
            have KP8 := Lib.hid hkp8
            clear hu hk8 hkp8 c0 c1 c2 c3 c4 c5 HWH
            obtain ⟨it, hit⟩ : ∃ it, it = Flo.item hv (body ++ r.take k) := ⟨_, rfl⟩
            rw [← hit] at HU S8 ⊢
            have HIT := Lib.hid hit
            have hone : ∀ z ∈ itemCells it u, z.oneCell' = true := by
              rcases HU.out with ⟨h, _⟩ | ⟨h, _⟩ <;> (rw [h]; exact itemCells_one it _ _ _)
            have hic : (itemCells it u).toArray = #[.string ⟨it.cmd.toArray⟩, u, .int .i64 it.err] := rfl
            rw [hic] at S8 ⊢
            have hkey : KeyP (fun i => (vb.ownBlock = some i ∨ w.heap.size ≤ i) ∧ u5.ownBlock ≠ some i ∧ (Value.slice none 0 0).ownBlock ≠ some i) (W8.alloc (.cells #[.string ⟨it.cmd.toArray⟩, u, .int .i64 it.err] 90)) u it.body := by
              rcases HU.out with ⟨h, hb⟩ | ⟨h, hb⟩
              · rw [hb, h]
                refine ⟨A5, cv5, by rw [HBL.out], by rw [HBL.out]; exact hc8, hm8, (BytesAt.kp_of HB8.out (Nat.le_refl _) (KP8.out.alloc _) (fun a ha _ _ e => v6F (by rw [HVV.out, ha, ← e]; rfl))).mono (KP8.out.alloc _).size, fun a ha => ?_⟩
                have hv6b : v6.ownBlock = some a.block := by rw [HVV.out, ha]; rfl
                exact ⟨⟨S7.out.own _ hv6b, S7.out.apart _ hv6b, fun h => (by cases h)⟩, Nat.lt_of_lt_of_le (HO8.out a ha).2 (KP8.out.alloc _).size⟩
              · rw [hb, h]; exact KeyP.nil
            have HKEY := Lib.hid hkey
            have HSRC := Lib.hid (Src.at_ W8 (itemCells it u) 90 #[.string ⟨it.cmd.toArray⟩, u, .int .i64 it.err] W8.heap.size rfl rfl)
            have HONE := Lib.hid hone
            have K9 := Lib.hid (K8.out.alloc (.cells #[.string ⟨it.cmd.toArray⟩, u, .int .i64 it.err] 90))
            obtain ⟨us, e1, e2, e3⟩ := S8.out.row
            have HE2 := Lib.hid e2
            have HE3 := Lib.hid e3
            have HZ8 := Lib.hid S8.out.kp.size
            obtain ⟨i1, hi, hz0, hz1', hz2⟩ := info_parts item_info
            have Ji := Lib.hid hi
            have Jz := Lib.hid hz0
            have Jz1 := Lib.hid hz1'
            have Jz2 := Lib.hid hz2
            clear hi hz0 hz1' hz2 hkey hone e3 e2 hit hic
            go_wp2_with (at_builtin; refine wpList_app _ rfl (.tmp 117) (.tmp 120) _ rfl w.heap.size 90 i1 _ 3 48 Tryd.underlying87 Ji.out Jz.out Jz1.out Jz2.out rfl (by decide) u5 l.length ((l.zip us).flatMap itemPair) rfl HE2.out (some ⟨W8.heap.size, 0, none⟩) 1 1 (itemCells it u) rfl rfl HSRC.out HONE.out (by unfold maxLen; omega) (by omega) HZ8.out ?_; intro v9 w9 hrow9 hg9 hat9)
            refine ⟨HM.out.whole HIT.out HKI.out HFU.out HA7.out S8.out HL.out (K9.out.kp (S := fun i => u5.ownBlock = some i) ((Kp.refl _ _).grown hg9 (fun k hk _ => hk)) (fun e => by have := (S8.out.row.lt _ e).1; omega)) HKEY.out e1 HE3.out hrow9 hg9 hat9, ?_⟩
            simp only
            omega
          · have hfi : ¬ ((body.length : Int) + (k : Int) = (hv.len : Int)) := by omega
            have HFU := Lib.hid hfull
            clear hfull
            go_wp2_with fail
            refine ⟨HM.out.part HKI.out HFU.out HA7.out ⟨HL.out, K7.out, O7.out⟩ S7.out, ?_⟩
            simp only
            omega
end Go.Proofs.YtpacgblddeoheaaDoor
