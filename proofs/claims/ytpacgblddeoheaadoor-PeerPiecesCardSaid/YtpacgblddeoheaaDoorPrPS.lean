/- What one reads of two lanes, in turn. -/
import Derived.Test.YtpacgblddeoheaaDoorPrRows
namespace Go.Proofs.YtpacgblddeoheaaDoor.P22
open Go.RowKit Go.Deep M8 T7
set_option linter.unusedVariables false
set_option linter.unusedSimpArgs false
set_option maxRecDepth 100000
def IsCut (vs : List Value) (k : Nat) : Prop := vs = [.int .u16 (k : Int)] ∧ k ≤ 65535
theorem isCut_open {H : Type} {enc : TypeId × Value → H} {W : World} (n : Nat) (cs : List Value) (x : DataW H × List MemPlace) (_hl : cs.length = 1)
    (h : DataW.trod enc Tryd.prog W 0 (fun _ => true) true n 32 cs = some x) : ∃ y : Nat, IsCut cs y := by
  obtain ⟨m, rfl, _, hw⟩ := DataW.trod_int Tryd.underlying32 h
  have := wf_u16 hw
  exact ⟨m.toNat, by rw [show ((m.toNat : Nat) : Int) = m by omega], by omega⟩
theorem cut_cell {w : World} {B : Nat} {A : Option Addr} {cs : List Nat} (h : At 1 IsCut w B A cs) {i : Nat} (hi : i < cs.length) : ∃ b off, A = some ⟨b, off, none⟩ ∧ b < B ∧ w.cell? ⟨b, off + i, none⟩ = some (.int .u16 (cs[i] : Int)) ∧ cs[i] ≤ 65535 := by
  obtain ⟨b, off, vs, hA, hb, ⟨rfl, hk⟩, hc⟩ := h i hi
  exact ⟨b, off, hA, hb, by simpa using hc 0 (by simp), hk⟩
/-- the blocks that may change: what is elder than B0, the bodies that wait, the rows that grow -/
def TT (B0 : Nat) (vF vG xv yv : Value) : Nat → Prop := fun i => i < B0 ∨ vF.ownBlock = some i ∨ vG.ownBlock = some i ∨ xv.ownBlock = some i ∨ yv.ownBlock = some i
structure PS (B0 F G : Nat) (wr : World) (vF vG xv yv wv ov : Value) (sF sG : List UInt8 × Bool) (px py pw po : List IP) : Prop where
  fF : FlowS wr F B0 vF sF
  fG : FlowS wr G B0 vG sG
  xr : RowIn 86 wr B0 xv px
  yr : RowIn 86 wr B0 yv py
  wr_ : RowIn 86 wr B0 wv pw
  or_ : RowIn 86 wr B0 ov po
  ax : ∀ p ∈ px, InPers (TT B0 vF vG xv yv) wr p
  ay : ∀ p ∈ py, InPers (TT B0 vF vG xv yv) wr p
  aw : ∀ p ∈ pw, InPers (TT B0 vF vG xv yv) wr p
  ao : ∀ p ∈ po, InPers (TT B0 vF vG xv yv) wr p
  nx : ∀ i, xv.ownBlock = some i → vF.ownBlock ≠ some i ∧ vG.ownBlock ≠ some i ∧ yv.ownBlock ≠ some i
  ny : ∀ i, yv.ownBlock = some i → vF.ownBlock ≠ some i ∧ vG.ownBlock ≠ some i ∧ xv.ownBlock ≠ some i
  nw : ∀ i, wv.ownBlock = some i → vF.ownBlock ≠ some i ∧ vG.ownBlock ≠ some i ∧ xv.ownBlock ≠ some i ∧ yv.ownBlock ≠ some i
  no : ∀ i, ov.ownBlock = some i → vF.ownBlock ≠ some i ∧ vG.ownBlock ≠ some i ∧ xv.ownBlock ≠ some i ∧ yv.ownBlock ≠ some i
  nF : ∀ i, vF.ownBlock = some i → vG.ownBlock ≠ some i
  lt : F < B0 ∧ G < B0 ∧ F ≠ G
  bw : B0 ≤ wr.heap.size
variable {B0 F G : Nat} {wr w1 : World} {vF vG xv yv wv ov : Value} {sF sG : List UInt8 × Bool} {px py pw po : List IP}
theorem RowIn.lt {T : TypeId} {w : World} {base : Nat} {v : Value} {ps : List IP} (h : RowIn T w base v ps) : ∀ i, v.ownBlock = some i → base ≤ i ∧ i < w.heap.size := own_lt h
theorem PS.swap (h : PS B0 F G wr vF vG xv yv wv ov sF sG px py pw po) : PS B0 G F wr vG vF yv xv ov wv sG sF py px po pw := by
  have ht : ∀ i, TT B0 vG vF yv xv i → TT B0 vF vG xv yv i := fun i hi => by
    rcases hi with e | e | e | e | e
    · exact .inl e
    · exact .inr (.inr (.inl e))
    · exact .inr (.inl e)
    · exact .inr (.inr (.inr (.inr e)))
    · exact .inr (.inr (.inr (.inl e)))
  have hs : ∀ p, InPers (TT B0 vF vG xv yv) wr p → InPers (TT B0 vG vF yv xv) wr p := fun p hp => hp.step (S := fun _ => False) (Kp.refl _ _) (fun _ _ h => h.elim) (fun i _ hi => ht i hi)
  exact ⟨h.fG, h.fF, h.yr, h.xr, h.or_, h.wr_, fun p hp => hs p (h.ay p hp), fun p hp => hs p (h.ax p hp), fun p hp => hs p (h.ao p hp), fun p hp => hs p (h.aw p hp),
    fun i hi => ⟨(h.ny i hi).2.1, (h.ny i hi).1, (h.ny i hi).2.2⟩, fun i hi => ⟨(h.nx i hi).2.1, (h.nx i hi).1, (h.nx i hi).2.2⟩,
    fun i hi => ⟨(h.no i hi).2.1, (h.no i hi).1, (h.no i hi).2.2.2, (h.no i hi).2.2.1⟩, fun i hi => ⟨(h.nw i hi).2.1, (h.nw i hi).1, (h.nw i hi).2.2.2, (h.nw i hi).2.2.1⟩,
    fun i hi e => h.nF i e hi, ⟨h.lt.2.1, h.lt.1, fun e => h.lt.2.2 e.symm⟩, h.bw⟩
theorem PS.low (h : PS B0 F G wr vF vG xv yv wv ov sF sG px py pw po) (hb : Below wr.heap.size wr w1) : PS B0 F G w1 vF vG xv yv wv ov sF sG px py pw po := by
  have hk : Kp (fun _ => False) wr w1 := Kp.of_below hb
  have hs : ∀ p, InPers (TT B0 vF vG xv yv) wr p → InPers (TT B0 vF vG xv yv) w1 p := fun p hp => hp.step hk (fun _ _ h => h.elim) (fun i _ hi => hi)
  exact ⟨h.fF.kp hk (fun h => h) (fun _ _ h => h), h.fG.kp hk (fun h => h) (fun _ _ h => h), h.xr.kp hk (fun _ _ h => h), h.yr.kp hk (fun _ _ h => h), h.wr_.kp hk (fun _ _ h => h), h.or_.kp hk (fun _ _ h => h),
    fun p hp => hs p (h.ax p hp), fun p hp => hs p (h.ay p hp), fun p hp => hs p (h.aw p hp), fun p hp => hs p (h.ao p hp), h.nx, h.ny, h.nw, h.no, h.nF, h.lt, Nat.le_trans h.bw hb.size⟩
/-- the first lane is read -/
theorem PS.read (h : PS B0 F G wr vF vG xv yv wv ov sF sG px py pw po) {v rv : Value} {s2 : List UInt8 × Bool} {ps : List IP} (hf : FlowS w1 F B0 v s2) (hv : ∀ i, v.ownBlock = some i → vF.ownBlock = some i ∨ wr.heap.size ≤ i)
    (hk : Kp (fun i => i = F ∨ vF.ownBlock = some i) wr w1) (hp : ∀ p ∈ ps, InPers (fun i => i < wr.heap.size ∨ v.ownBlock = some i ∨ rv.ownBlock = some i) w1 p) :
    PS B0 F G w1 v vG xv yv wv ov s2 sG px py pw po ∧ ∀ p ∈ ps, InPers (TT B0 v vG xv yv) w1 p := by
  have lG := h.fG.lt.2
  have lF := h.fF.lt.2
  have lx := h.xr.lt
  have ly := h.yr.lt
  have lw := h.wr_.lt
  have lo := h.or_.lt
  obtain ⟨h1, h2, h3⟩ := h.lt
  have hne : ∀ i, B0 ≤ i → vF.ownBlock ≠ some i → ¬ (i = F ∨ vF.ownBlock = some i) := fun i hi hn e => e.elim (fun e => by omega) hn
  have hvn : ∀ i, i < wr.heap.size → vF.ownBlock ≠ some i → v.ownBlock ≠ some i := fun i hi hn e => (hv i e).elim hn (fun h => by omega)
  have hs : ∀ p, InPers (TT B0 vF vG xv yv) wr p → InPers (TT B0 v vG xv yv) w1 p := fun p hp => hp.step hk (fun i _ e => e.elim (fun e => .inl (by omega)) (fun e => .inr (.inl e))) (fun i hi e => by
    rcases e with e | e | e | e | e
    · exact .inl e
    · rcases hv i e with h' | h'
      · exact .inr (.inl h')
      · omega
    · exact .inr (.inr (.inl e))
    · exact .inr (.inr (.inr (.inl e)))
    · exact .inr (.inr (.inr (.inr e))))
  refine ⟨⟨hf, h.fG.kp hk (fun e => e.elim (fun e => h3 e.symm) (fun e => by have := (lF _ e).1; omega)) (fun i hi => hne i (lG i hi).1 (fun e => h.nF i e hi)),
    h.xr.kp hk (fun i hi => hne i (lx i hi).1 (h.nx i hi).1), h.yr.kp hk (fun i hi => hne i (ly i hi).1 (h.ny i hi).1), h.wr_.kp hk (fun i hi => hne i (lw i hi).1 (h.nw i hi).1), h.or_.kp hk (fun i hi => hne i (lo i hi).1 (h.no i hi).1),
    fun p hp => hs p (h.ax p hp), fun p hp => hs p (h.ay p hp), fun p hp => hs p (h.aw p hp), fun p hp => hs p (h.ao p hp),
    fun i hi => ⟨hvn i (lx i hi).2 (h.nx i hi).1, (h.nx i hi).2⟩, fun i hi => ⟨hvn i (ly i hi).2 (h.ny i hi).1, (h.ny i hi).2⟩, fun i hi => ⟨hvn i (lw i hi).2 (h.nw i hi).1, (h.nw i hi).2⟩, fun i hi => ⟨hvn i (lo i hi).2 (h.no i hi).1, (h.no i hi).2⟩,
    fun i hi e => hvn i (lG i e).2 (fun e' => h.nF i e' e) hi, h.lt, Nat.le_trans h.bw hk.size⟩, fun p hq => (hp p hq).step (S := fun _ => False) (Kp.refl _ _) (fun _ _ h => h.elim) (fun i _ e => ?_)⟩
  have hbw := h.bw
  rcases e with e | e | e | e | e
  · exact .inl (by omega)
  · exact .inr (.inl e)
  · exact .inl (lG i e).2
  · exact .inl (lx i e).2
  · exact .inl (ly i e).2
/-- the first lane's row grows -/
theorem PS.app (h : PS B0 F G wr vF vG xv yv wv ov sF sG px py pw po) {xv' : Value} {ps : List IP} (hp : ∀ p ∈ ps, InPers (TT B0 vF vG xv yv) wr p)
    (hrow : w1.ownsRow B0 86 8 xv' (px.length + ps.length) (px.flatMap ipCells ++ ps.flatMap ipCells)) (hg : wr.grownBy w1 xv.ownBlock) (hat : xv'.ownBlock = xv.ownBlock ∨ xv'.ownBlock = some wr.heap.size) :
    PS B0 F G w1 vF vG xv' yv wv ov sF sG (px ++ ps) py pw po := by
  have hk : Kp (fun i => xv.ownBlock = some i) wr w1 := (Kp.refl _ _).grown hg (fun k hk _ => hk)
  have lG := h.fG.lt.2
  have lF := h.fF.lt.2
  have lx := h.xr.lt
  have ly := h.yr.lt
  have lw := h.wr_.lt
  have lo := h.or_.lt
  obtain ⟨h1, h2, h3⟩ := h.lt
  have hx' : ∀ i, i < wr.heap.size → xv'.ownBlock = some i → xv.ownBlock = some i := fun i hi e => by
    rcases hat with h' | h'
    · rw [← h']; exact e
    · rw [h'] at e; injection e with e; omega
  have hs : ∀ p, InPers (TT B0 vF vG xv yv) wr p → InPers (TT B0 vF vG xv' yv) w1 p := fun p hp => hp.step hk (fun i _ e => .inr (.inr (.inr (.inl e)))) (fun i hi e => by
    rcases e with e | e | e | e | e
    · exact .inl e
    · exact .inr (.inl e)
    · exact .inr (.inr (.inl e))
    · exact .inr (.inr (.inr (.inl (hx' i hi e))))
    · exact .inr (.inr (.inr (.inr e))))
  refine ⟨h.fF.kp hk (fun e => by have := (lx _ e).1; omega) (fun i hi e => (h.nx i e).1 hi), h.fG.kp hk (fun e => by have := (lx _ e).1; omega) (fun i hi e => (h.nx i e).2.1 hi),
    ?_, h.yr.kp hk (fun i hi e => (h.ny i hi).2.2 e), h.wr_.kp hk (fun i hi e => (h.nw i hi).2.2.1 e), h.or_.kp hk (fun i hi e => (h.no i hi).2.2.1 e),
    fun p hq => (List.mem_append.1 hq).elim (fun hq => hs p (h.ax p hq)) (fun hq => hs p (hp p hq)), fun p hp => hs p (h.ay p hp), fun p hp => hs p (h.aw p hp), fun p hp => hs p (h.ao p hp),
    fun i hi => ?_, fun i hi => ⟨(h.ny i hi).1, (h.ny i hi).2.1, fun e => (h.ny i hi).2.2 (hx' i (ly i hi).2 e)⟩, fun i hi => ⟨(h.nw i hi).1, (h.nw i hi).2.1, fun e => (h.nw i hi).2.2.1 (hx' i (lw i hi).2 e), (h.nw i hi).2.2.2⟩,
    fun i hi => ⟨(h.no i hi).1, (h.no i hi).2.1, fun e => (h.no i hi).2.2.1 (hx' i (lo i hi).2 e), (h.no i hi).2.2.2⟩, h.nF, h.lt, Nat.le_trans h.bw hk.size⟩
  · show w1.ownsRow _ _ _ _ _ _
    rw [List.length_append, List.flatMap_append]
    exact hrow
  · have key : vF.ownBlock ≠ some i ∧ vG.ownBlock ≠ some i ∧ yv.ownBlock ≠ some i := by
      by_cases hlt : i < wr.heap.size
      · exact h.nx i (hx' i hlt hi)
      · exact ⟨fun e => hlt (lF i e).2, fun e => hlt (lG i e).2, fun e => hlt (ly i e).2⟩
    exact key
theorem RowIn.src {T : TypeId} {w : World} {base : Nat} {A : Option Addr} {n c : Nat} {ps : List IP} (h : RowIn T w base (.slice A n c) ps) : Src w A (ps.flatMap ipCells) := by
  obtain ⟨A', cap, hv, _, _, _, hc⟩ := own_form (show w.ownsRow _ _ _ _ _ _ from h)
  injection hv with hv _ _
  subst hv
  intro j u hu
  obtain ⟨b, hA, _, _, hcj⟩ := hc j u hu
  refine ⟨_, hA, ?_⟩
  have e : (⟨b, 0, none⟩ : Addr).add j = ⟨b, j, none⟩ := by unfold Addr.add; split <;> simp_all
  rw [e]
  exact hcj
theorem ips_one {T : Nat → Prop} {w : World} {ps : List IP} (h : ∀ p ∈ ps, InPers T w p) : ∀ u ∈ ps.flatMap ipCells, u.oneCell' = true := by
  intro u hu
  obtain ⟨p, hp, hu⟩ := List.mem_flatMap.1 hu
  exact (h p hp).one u hu
theorem ips_len (ps : List IP) : (ps.flatMap ipCells).length = ps.length * 8 := by
  induction ps with
  | nil => rfl
  | cons p l ih => rw [List.flatMap_cons, List.length_append, ih, ipCells_len, List.length_cons]; omega
end Go.Proofs.YtpacgblddeoheaaDoor.P22
