/- Small plain lemmas that every text of this seat uses: worlds that differ only in new memory, laws whose arguments stay as they were. -/
import Derived.Test.YtmghjghjnolfoaaRows
import Derived.WalkKit
import Derived.WalkSpells
import Derived.WalkLawsBesides
import Derived.BigQuiet
import Derived.BigGuardPart
import Derived.Deep.QuietTactic
import Derived.Deep.RegionWith
import Derived.Deep.RegionHeld3
import Derived.Deep.RegionLaw
import Derived.Deep.AppendLies
import Derived.Deep.DrawnRows
import Derived.Deep.DeepCutAuto
import Derived.Deep.DeepFit
import Derived.Deep.Slices
import Derived.Deep.Fields
import Derived.Deep.Draws
import Derived.Maps.AppendAt
import Derived.ChangeSame
import Derived.Lib.Hide
import Derived.ProofKit
import Derived.OpenShut
import Derived.JoinedCond
namespace Go.Proofs.Ytmghjghjnolfoaa
open Go.RowKit Go.ChangeShapes Go.WideShapes Go.ChangeAt Go.Deep

/-- What was there stays, but for the blocks in S. -/
structure Kp (S : Nat → Prop) (w w' : World) : Prop where
  os : w'.os = w.os
  tape : w'.tape = w.tape
  output : w'.output = w.output
  size : w.heap.size ≤ w'.heap.size
  block : ∀ k, k < w.heap.size → ¬ S k → w'.heap[k]? = w.heap[k]?

namespace Kp
variable {S T : Nat → Prop} {a b c w w' : World}
theorem refl (S : Nat → Prop) (w : World) : Kp S w w := ⟨rfl, rfl, rfl, Nat.le_refl _, fun _ _ _ => rfl⟩
theorem trans_of (h : Kp S a b) (k : Kp T b c) (hs : ∀ i, i < a.heap.size → T i → S i) : Kp S a c :=
  ⟨k.os.trans h.os, k.tape.trans h.tape, k.output.trans h.output, Nat.le_trans h.size k.size,
    fun i hi hn => (k.block i (Nat.lt_of_lt_of_le hi h.size) (fun ht => hn (hs i hi ht))).trans (h.block i hi hn)⟩
theorem trans (h : Kp S a b) (k : Kp S b c) : Kp S a c := h.trans_of k fun _ _ h => h
theorem mono (h : Kp S a b) (hs : ∀ i, i < a.heap.size → S i → T i) : Kp T a b :=
  ⟨h.os, h.tape, h.output, h.size, fun i hi hn => h.block i hi (fun hs' => hn (hs i hi hs'))⟩
theorem drew (h : Kp S a w) : Kp S a w.drew := ⟨h.os, h.tape, h.output, h.size, h.block⟩
theorem drewN (h : Kp S a w) (n : Nat) : Kp S a (w.drewN n) := ⟨h.os, h.tape, h.output, h.size, h.block⟩
theorem alloc (h : Kp S a w) (o : Obj) : Kp S a (w.alloc o) :=
  ⟨h.os, h.tape, h.output, Nat.le_trans h.size (by simp), fun i hi hn => (Below.heap_alloc w o i (Nat.lt_of_lt_of_le hi h.size)).trans (h.block i hi hn)⟩
theorem setCell (h : Kp S a w) {p : Addr} (hp : p.block < a.heap.size → S p.block) (u : Value) : Kp S a (w.setCell p u) :=
  ⟨h.os, h.tape, h.output, by simpa using h.size, fun i hi hn => (Below.heap_setCell w p u i (fun e => hn (by rw [e]; exact hp (by omega)))).trans (h.block i hi hn)⟩
theorem of_below (h : Below a.heap.size a b) : Kp S a b := ⟨h.os, h.tape, h.output, h.size, fun i hi _ => h.block i hi⟩
theorem below (h : Kp (fun _ => False) a b) : Below a.heap.size a b := ⟨h.os, h.tape, h.output, h.size, fun i hi => h.block i hi (fun x => x)⟩
theorem below_of (h : Kp S a b) (hs : ∀ i, i < a.heap.size → ¬ S i) : Below a.heap.size a b := ⟨h.os, h.tape, h.output, h.size, fun i hi => h.block i hi (hs i hi)⟩
/-- A frame seen from an elder world. -/
theorem from_elder (h : Below a.heap.size a b) (k : Kp S b c) (hs : ∀ i, i < a.heap.size → ¬ S i) : Below a.heap.size a c :=
  ((of_below (S := fun _ => False) h).trans_of k (fun i hi hs' => hs i hi hs')).below
theorem cell (h : Kp S w w') {p : Addr} (hp : p.block < w.heap.size) (hn : ¬ S p.block) : w'.cell? p = w.cell? p := World.cell?_of_block (w := w) (h.block _ hp hn)
theorem frozen (h : Kp S w w') {p : Addr} (hp : p.block < w.heap.size) (hn : ¬ S p.block) : w'.frozen? p = w.frozen? p := World.frozen?_of_block (w := w) (h.block _ hp hn)
theorem grown {row : Option Nat} (h : Kp S a w) (hg : w.grownBy w' row) (hr : ∀ k, row = some k → k < a.heap.size → S k) : Kp S a w' :=
  ⟨hg.os.trans h.os, hg.tape.trans h.tape, hg.output.trans h.output, Nat.le_trans h.size hg.size,
    fun i hi hn => (hg.block i (Nat.lt_of_lt_of_le hi h.size) (fun e => hn (hr i e.symm hi))).trans (h.block i hi hn)⟩
end Kp

/-- A block of cells that is known whole. -/
def Bk (w : World) (b : Nat) (t : TypeId) (cs : Array Value) : Prop := w.heap[b]? = some (.cells cs t (0, 0))
namespace Bk
variable {w w' : World} {b : Nat} {t : TypeId} {cs : Array Value}
theorem lt (h : Bk w b t cs) : b < w.heap.size := by
  rcases Nat.lt_or_ge b w.heap.size with hlt | hge
  · exact hlt
  · unfold Bk at h; rw [Array.getElem?_eq_none hge] at h; cases h
theorem cell (h : Bk w b t cs) (i : Nat) : w.cell? ⟨b, i, none⟩ = cs[i]? := by unfold Bk at h; simp [World.cell?, h]
theorem frozen (h : Bk w b t cs) (i : Nat) : w.frozen? ⟨b, i, none⟩ = false := by unfold Bk at h; simp [World.frozen?, h]
theorem new (w : World) (t : TypeId) (cs : Array Value) : Bk (w.alloc (.cells cs t)) w.heap.size t cs := heap_alloc_new w _
theorem set (h : Bk w b t cs) (i : Nat) (u : Value) : Bk (w.setCell ⟨b, i, none⟩ u) b t (cs.setIfInBounds i u) := by
  unfold Bk at h ⊢; simp [World.setCell, Array.getElem?_modify, h]
theorem far (h : Bk w b t cs) {p : Addr} (hp : b ≠ p.block) (u : Value) : Bk (w.setCell p u) b t cs := (Below.heap_setCell w p u b hp).trans h
theorem drew (h : Bk w b t cs) : Bk w.drew b t cs := h
theorem drewN (h : Bk w b t cs) (n : Nat) : Bk (w.drewN n) b t cs := h
theorem alloc (h : Bk w b t cs) (o : Obj) : Bk (w.alloc o) b t cs := (Below.heap_alloc w o b h.lt).trans h
theorem kp {S : Nat → Prop} (h : Bk w b t cs) (k : Kp S w w') (hn : ¬ S b) : Bk w' b t cs := (k.block b h.lt hn).trans h
theorem below {B : Nat} (h : Bk w b t cs) (k : Below B w w') (hb : b < B) : Bk w' b t cs := (k.block b hb).trans h
end Bk

/-- What an argument reads as, it reads as in every later world in which the old blocks are as they were. -/
theorem trodAll_stays {H : Type} {enc : TypeId × Value → H} {P : Program} (hl : laidOutB P = true) {W W' : World} (hb : Below W.heap.size W W') {sp' : Nat → Bool} :
    ∀ {ts : List TypeId} {vs : List Value} {ds : List (DataW H)} {ps : List MemPlace}, (∀ t ∈ ts, P.readableRec t = true ∧ t < P.types.size) →
      (∀ x ∈ ps, x.block < W.heap.size) → (∀ x ∈ ps, sp' x.block = true) →
      DataW.TrodAll enc P W 0 (fun _ => true) true ts vs ds ps → DataW.TrodAll enc P W' 0 sp' true ts vs ds ps
  | [], _, _, _, _, _, _, h => by
    obtain ⟨rfl, rfl, rfl⟩ := trodAll_nil h
    exact trodAll_mk0
  | t :: ts, _, _, _, ht, hlt, hsp, h => by
    obtain ⟨v, vs', d, ds', p, q, rfl, rfl, rfl, h1, h2⟩ := trodAll_cons h
    refine trodAll_cons_mk (WideElems.Trod_stays hl (ht t (by simp)).1 (ht t (by simp)).2 h1 (fun x hx => hb.same (hlt x (by simp [hx]))) (fun x hx => hsp x (by simp [hx]))) ?_
    exact trodAll_stays hl hb (fun t' h' => ht t' (by simp [h'])) (fun x hx => hlt x (by simp [hx])) (fun x hx => hsp x (by simp [hx])) h2

/-- A law that answers true and leaves what was there alone meets its statement's post. -/
theorem post_true {H : Type} {enc : TypeId × Value → H} {P : Program} {f : Func} {s : ChangeSpec} {W W' : World} {args : Array Value} {ds gs : List (DataW H)} {before : List MemPlace} {tb : TypeId}
    (hvs : s.vars = []) (hW : DataW.Whole enc P f.params.toList s.vars false W args.toList ds gs before)
    (hfn : s.fn H (ds ++ gs) = { results := [.lit (.bool true)], args := ds })
    (hbt : P.underlying tb = some .bool) (hrt : f.resultTypes = #[tb]) (hl : laidOutB P = true)
    (hpar : ∀ t ∈ f.params.toList, P.readableRec t = true ∧ t < P.types.size) (hb : Below W.heap.size W W') :
    s.post enc P f false true false false W args (.bool true) W' := by
  have hlt : ∀ p ∈ before, p.block < W.heap.size := fun p hp => hW.lt p hp
  have hW' := hW
  obtain ⟨p, q, hA, hV, rfl, hz, hn⟩ := hW'
  rw [hvs] at hV
  obtain ⟨rfl, rfl⟩ := trodVars_none hV
  rw [List.append_nil] at *
  have hargs : ∀ sp : Nat → Bool, (∀ x ∈ p, sp x.block = true) → DataW.TrodAll enc P W' 0 sp true f.params.toList args.toList ds p :=
    fun sp hsp => trodAll_stays hl hb hpar hlt hsp hA
  have hold : ∀ x ∈ p, (fun b => decide (b < W.heap.size)) x.block = true := fun x hx => by simpa using hlt x hx
  have hres : ∀ (b : Nat) (sp : Nat → Bool) (hd : Bool), DataW.TrodAll enc P W' b sp hd f.resultTypes.toList ((Value.bool true).resultList f.resultTypes.size) [.lit (.bool true)] [] := by
    intro b sp hd
    rw [hrt]
    exact trodAll_mk1 (shut_bool hbt true)
  refine ⟨ds, [], p, [], p, [], (by rw [hvs]; exact ⟨p, [], hA, rfl, by simp, hz, hn⟩), ?_, ?_, ?_, World.keptBut_mono (fun x hx => ⟨hx, .inr (.inl hx)⟩) (hb.frame (· ∈ p)), fun h => by cases h⟩
  · rw [List.append_nil, hfn]; exact hres _ _ _
  · rw [List.append_nil, hfn]; exact hargs _ hold
  · rw [hvs, List.append_nil, hfn]; rfl

/-- From address A on there lie, k cells each, elements that are told by R; they lie below block B. -/
def At {α : Type} (k : Nat) (R : List Value → α → Prop) (w : World) (B : Nat) (A : Option Addr) (l : List α) : Prop :=
  ∀ i (h : i < l.length), ∃ b off vs, A = some ⟨b, off, none⟩ ∧ b < B ∧ R vs l[i] ∧ ∀ j (hj : j < vs.length), w.cell? ⟨b, off + i * k + j, none⟩ = some vs[j]
namespace At
variable {α : Type} {k : Nat} {R : List Value → α → Prop} {w w' : World} {B B' : Nat} {A : Option Addr} {l : List α}
theorem kp {S : Nat → Prop} (h : At k R w B A l) (kp : Kp S w w') (hB : B ≤ w.heap.size) (hS : ∀ i, i < B → ¬ S i) : At k R w' B A l := by
  intro i hi
  obtain ⟨b, off, vs, hA, hb, hR, hc⟩ := h i hi
  exact ⟨b, off, vs, hA, hb, hR, fun j hj => (kp.cell (p := ⟨b, _, none⟩) (Nat.lt_of_lt_of_le hb hB) (hS b hb)).trans (hc j hj)⟩
theorem below (h : At k R w B A l) (hb : Below B w w') : At k R w' B A l := by
  intro i hi
  obtain ⟨b, off, vs, hA, hlt, hR, hc⟩ := h i hi
  exact ⟨b, off, vs, hA, hlt, hR, fun j hj => (hb.cell (p := ⟨b, _, none⟩) hlt).trans (hc j hj)⟩
theorem mono (h : At k R w B A l) (hB : B ≤ B') : At k R w B' A l := by
  intro i hi
  obtain ⟨b, off, vs, hA, hlt, hR, hc⟩ := h i hi
  exact ⟨b, off, vs, hA, Nat.lt_of_lt_of_le hlt hB, hR, hc⟩
theorem imp {R' : List Value → α → Prop} (h : At k R w B A l) (hR : ∀ vs x, R vs x → R' vs x) : At k R' w B A l := by
  intro i hi
  obtain ⟨b, off, vs, hA, hlt, hr, hc⟩ := h i hi
  exact ⟨b, off, vs, hA, hlt, hR _ _ hr, hc⟩
theorem nil (w : World) (B : Nat) (A : Option Addr) : At k R w B A ([] : List α) := fun i hi => by cases hi
end At

theorem addr_of_cell {w : World} {a : Addr} {v : Value} (h : w.cell? a = some v) : a = ⟨a.block, a.off, none⟩ := by
  obtain ⟨b, o, s⟩ := a
  cases s with
  | none => rfl
  | some s => simp only [World.cell?] at h; split at h <;> simp at h

/-- A slice that came in, opened: its elements lie where it says, and read as it reads. -/
theorem open_at {α : Type} {H : Type} {enc : TypeId × Value → H} {P : Program} {w : World} {t e : TypeId} {v : Value} {d : DataW H} {p : List MemPlace} {base : Nat}
    (R : List Value → α → Prop) (k : Nat) (hk : 0 < k) (ht : P.underlying t = some (.slice e)) (hC : P.cellsOf e = k)
    (hv : Value.okWide P w .any base t v) (h : DataW.Trod enc P w 0 (fun _ => true) true t v d p)
    (hR : ∀ (n : Nat) (cs : List Value) (x : DataW H × List MemPlace), cs.length = k → DataW.trod enc P w 0 (fun _ => true) true n e cs = some x → ∃ y : α, R cs y) :
    ∃ (A : Option Addr) (len cap : Nat) (l : List α), v = .slice A len cap ∧ l.length = len ∧ len ≤ cap ∧ cap ≤ maxLen ∧ At k R w w.heap.size A l := by
  obtain ⟨A, len, cap, rfl⟩ := okWide_slice ht hv
  obtain ⟨fuel, hf⟩ := h
  rcases open_slice ht hf with ⟨hcs, _⟩ | ⟨a, len', cap', m, n, D, Pl, hcs, _, hl, hm, hmm, _, hi⟩
  · simp [Value.cells] at hcs
    obtain ⟨rfl, rfl, rfl⟩ := hcs
    exact ⟨none, 0, 0, [], rfl, rfl, Nat.le_refl _, by simp [maxLen], At.nil _ _ _⟩
  · simp [Value.cells] at hcs
    obtain ⟨rfl, rfl, rfl⟩ := hcs
    simp only [if_true] at hmm
    rcases Nat.eq_zero_or_pos len with h0 | hpos
    · subst h0
      exact ⟨some a, 0, cap, [], rfl, rfl, Nat.zero_le _, hm, At.nil _ _ _⟩
    have ha : a = ⟨a.block, a.off, none⟩ := by
      obtain ⟨cs', hc, _⟩ := hi 0 (by omega)
      rw [hC] at hc
      obtain ⟨_, hcl, hat⟩ := World.cells?_some hc
      have := hat 0 hk
      rw [Nat.zero_mul, List.getElem?_eq_getElem (by omega)] at this
      exact addr_of_cell (v := cs'[0]'(by omega)) this
    generalize a.block = b at ha
    generalize a.off = off at ha
    subst ha
    have key : ∀ i, i < len → ∃ (y : α) (vs : List Value), vs.length = k ∧ R vs y ∧ ∀ j (hj : j < vs.length), w.cell? ⟨b, off + i * k + j, none⟩ = some vs[j] := by
      intro i hil
      obtain ⟨cs', hc, htr⟩ := hi i (by omega)
      rw [hC] at hc
      obtain ⟨_, hcl, hat⟩ := World.cells?_some hc
      obtain ⟨y, hy⟩ := hR n cs' _ hcl htr
      refine ⟨y, cs', hcl, hy, fun j hj => ?_⟩
      have := hat j (by omega)
      rw [Go.Deep.add_add, List.getElem?_eq_getElem hj] at this
      rw [← this]
      by_cases e : i * k + j = 0
      · simp [Addr.add, e, Nat.add_assoc]
      · simp only [Addr.add, if_neg e, Nat.add_assoc]
    have hfs := fun i : Fin len => Classical.choose_spec (key i i.2)
    refine ⟨some ⟨b, off, none⟩, len, cap, List.ofFn (fun i : Fin len => Classical.choose (key i i.2)), rfl, by simp, hl, hm, fun i hi => ?_⟩
    have hil : i < len := by simpa using hi
    obtain ⟨vs, hlen, hR', hc⟩ := hfs ⟨i, hil⟩
    exact ⟨b, off, vs, rfl, World.block_lt_of_cell? w _ (hc 0 (by omega)), by simpa using hR', hc⟩
end Go.Proofs.Ytmghjghjnolfoaa
