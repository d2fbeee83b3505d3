/- Small plain lemmas that every text of this seat uses: worlds that differ only in new memory, laws whose arguments stay as they were. -/
import Derived.Test.YtpacgblddeoheaaDoorRows
import Derived.WalkKit
import Derived.WalkSpells
import Derived.WalkLawsBesides
import Derived.BigQuiet
import Derived.BigGuardPart
import Derived.Deep.QuietTactic
import Derived.Deep.RegionWith
import Derived.Deep.RegionHeld3
import Derived.Deep.RegionLaw
import Derived.Deep.AppendLies
import Derived.Deep.DrawnRows
import Derived.Deep.DeepCutAuto
import Derived.Deep.DeepFit
import Derived.Deep.Slices
import Derived.Deep.Fields
import Derived.Deep.Draws
import Derived.Deep.OwnRows
import Derived.Maps.AppendAt
import Derived.ChangeSame
import Derived.Lib.Hide
import Derived.ProofKit
import Derived.OpenShut
import Derived.JoinedCond
namespace Go.Proofs.YtpacgblddeoheaaDoor
open Go.RowKit Go.ChangeShapes Go.WideShapes Go.ChangeAt Go.Deep

/-- What was there stays, but for the blocks in S. -/
structure Kp (S : Nat → Prop) (w w' : World) : Prop where
  os : w'.os = w.os
  tape : w'.tape = w.tape
  output : w'.output = w.output
  size : w.heap.size ≤ w'.heap.size
  block : ∀ k, k < w.heap.size → ¬ S k → w'.heap[k]? = w.heap[k]?

namespace Kp
variable {S T : Nat → Prop} {a b c w w' : World}
theorem refl (S : Nat → Prop) (w : World) : Kp S w w := ⟨rfl, rfl, rfl, Nat.le_refl _, fun _ _ _ => rfl⟩
theorem trans_of (h : Kp S a b) (k : Kp T b c) (hs : ∀ i, i < a.heap.size → T i → S i) : Kp S a c :=
  ⟨k.os.trans h.os, k.tape.trans h.tape, k.output.trans h.output, Nat.le_trans h.size k.size,
    fun i hi hn => (k.block i (Nat.lt_of_lt_of_le hi h.size) (fun ht => hn (hs i hi ht))).trans (h.block i hi hn)⟩
theorem trans (h : Kp S a b) (k : Kp S b c) : Kp S a c := h.trans_of k fun _ _ h => h
theorem mono (h : Kp S a b) (hs : ∀ i, i < a.heap.size → S i → T i) : Kp T a b :=
  ⟨h.os, h.tape, h.output, h.size, fun i hi hn => h.block i hi (fun hs' => hn (hs i hi hs'))⟩
theorem drew (h : Kp S a w) : Kp S a w.drew := ⟨h.os, h.tape, h.output, h.size, h.block⟩
theorem drewN (h : Kp S a w) (n : Nat) : Kp S a (w.drewN n) := ⟨h.os, h.tape, h.output, h.size, h.block⟩
theorem alloc (h : Kp S a w) (o : Obj) : Kp S a (w.alloc o) :=
  ⟨h.os, h.tape, h.output, Nat.le_trans h.size (by simp), fun i hi hn => (Below.heap_alloc w o i (Nat.lt_of_lt_of_le hi h.size)).trans (h.block i hi hn)⟩
theorem setCell (h : Kp S a w) {p : Addr} (hp : p.block < a.heap.size → S p.block) (u : Value) : Kp S a (w.setCell p u) :=
  ⟨h.os, h.tape, h.output, by simpa using h.size, fun i hi hn => (Below.heap_setCell w p u i (fun e => hn (by rw [e]; exact hp (by omega)))).trans (h.block i hi hn)⟩
theorem of_below (h : Below a.heap.size a b) : Kp S a b := ⟨h.os, h.tape, h.output, h.size, fun i hi _ => h.block i hi⟩
theorem below (h : Kp (fun _ => False) a b) : Below a.heap.size a b := ⟨h.os, h.tape, h.output, h.size, fun i hi => h.block i hi (fun x => x)⟩
theorem below_of (h : Kp S a b) (hs : ∀ i, i < a.heap.size → ¬ S i) : Below a.heap.size a b := ⟨h.os, h.tape, h.output, h.size, fun i hi => h.block i hi (hs i hi)⟩
/-- A frame seen from an elder world. -/
theorem from_elder (h : Below a.heap.size a b) (k : Kp S b c) (hs : ∀ i, i < a.heap.size → ¬ S i) : Below a.heap.size a c :=
  ((of_below (S := fun _ => False) h).trans_of k (fun i hi hs' => hs i hi hs')).below
theorem cell (h : Kp S w w') {p : Addr} (hp : p.block < w.heap.size) (hn : ¬ S p.block) : w'.cell? p = w.cell? p := World.cell?_of_block (w := w) (h.block _ hp hn)
theorem frozen (h : Kp S w w') {p : Addr} (hp : p.block < w.heap.size) (hn : ¬ S p.block) : w'.frozen? p = w.frozen? p := World.frozen?_of_block (w := w) (h.block _ hp hn)
theorem grown {row : Option Nat} (h : Kp S a w) (hg : w.grownBy w' row) (hr : ∀ k, row = some k → k < a.heap.size → S k) : Kp S a w' :=
  ⟨hg.os.trans h.os, hg.tape.trans h.tape, hg.output.trans h.output, Nat.le_trans h.size hg.size,
    fun i hi hn => (hg.block i (Nat.lt_of_lt_of_le hi h.size) (fun e => hn (hr i e.symm hi))).trans (h.block i hi hn)⟩
end Kp

theorem below_drewN {B : Nat} {a w : World} (h : Below B a w) (n : Nat) : Below B a (w.drewN n) := ⟨h.os, h.tape, h.output, h.size, h.block⟩

/-- A block of cells that is known whole. -/
def Bk (w : World) (b : Nat) (t : TypeId) (cs : Array Value) : Prop := w.heap[b]? = some (.cells cs t (0, 0))
namespace Bk
variable {w w' : World} {b : Nat} {t : TypeId} {cs : Array Value}
theorem lt (h : Bk w b t cs) : b < w.heap.size := by
  rcases Nat.lt_or_ge b w.heap.size with hlt | hge
  · exact hlt
  · unfold Bk at h; rw [Array.getElem?_eq_none hge] at h; cases h
theorem cell (h : Bk w b t cs) (i : Nat) : w.cell? ⟨b, i, none⟩ = cs[i]? := by unfold Bk at h; simp [World.cell?, h]
theorem frozen (h : Bk w b t cs) (i : Nat) : w.frozen? ⟨b, i, none⟩ = false := by unfold Bk at h; simp [World.frozen?, h]
theorem new (w : World) (t : TypeId) (cs : Array Value) : Bk (w.alloc (.cells cs t)) w.heap.size t cs := heap_alloc_new w _
theorem set (h : Bk w b t cs) (i : Nat) (u : Value) : Bk (w.setCell ⟨b, i, none⟩ u) b t (cs.setIfInBounds i u) := by
  unfold Bk at h ⊢; simp [World.setCell, Array.getElem?_modify, h]
theorem far (h : Bk w b t cs) {p : Addr} (hp : b ≠ p.block) (u : Value) : Bk (w.setCell p u) b t cs := (Below.heap_setCell w p u b hp).trans h
theorem drew (h : Bk w b t cs) : Bk w.drew b t cs := h
theorem drewN (h : Bk w b t cs) (n : Nat) : Bk (w.drewN n) b t cs := h
theorem alloc (h : Bk w b t cs) (o : Obj) : Bk (w.alloc o) b t cs := (Below.heap_alloc w o b h.lt).trans h
theorem kp {S : Nat → Prop} (h : Bk w b t cs) (k : Kp S w w') (hn : ¬ S b) : Bk w' b t cs := (k.block b h.lt hn).trans h
theorem below {B : Nat} (h : Bk w b t cs) (k : Below B w w') (hb : b < B) : Bk w' b t cs := (k.block b hb).trans h
end Bk

/-- What an argument reads as, it reads as in every later world in which the old blocks are as they were. -/
theorem trodAll_stays {H : Type} {enc : TypeId × Value → H} {P : Program} (hl : laidOutB P = true) {W W' : World} (hb : Below W.heap.size W W') {sp' : Nat → Bool} :
    ∀ {ts : List TypeId} {vs : List Value} {ds : List (DataW H)} {ps : List MemPlace}, (∀ t ∈ ts, P.readableRec t = true ∧ t < P.types.size) →
      (∀ x ∈ ps, x.block < W.heap.size) → (∀ x ∈ ps, sp' x.block = true) →
      DataW.TrodAll enc P W 0 (fun _ => true) true ts vs ds ps → DataW.TrodAll enc P W' 0 sp' true ts vs ds ps
  | [], _, _, _, _, _, _, h => by
    obtain ⟨rfl, rfl, rfl⟩ := trodAll_nil h
    exact trodAll_mk0
  | t :: ts, _, _, _, ht, hlt, hsp, h => by
    obtain ⟨v, vs', d, ds', p, q, rfl, rfl, rfl, h1, h2⟩ := trodAll_cons h
    refine trodAll_cons_mk (WideElems.Trod_stays hl (ht t (by simp)).1 (ht t (by simp)).2 h1 (fun x hx => hb.same (hlt x (by simp [hx]))) (fun x hx => hsp x (by simp [hx]))) ?_
    exact trodAll_stays hl hb (fun t' h' => ht t' (by simp [h'])) (fun x hx => hlt x (by simp [hx])) (fun x hx => hsp x (by simp [hx])) h2

/-- A law that answers true and leaves what was there alone meets its statement's post. -/
theorem post_true {H : Type} {enc : TypeId × Value → H} {P : Program} {f : Func} {s : ChangeSpec} {W W' : World} {args : Array Value} {ds gs : List (DataW H)} {before : List MemPlace} {tb : TypeId}
    (hvs : s.vars = []) (hW : DataW.Whole enc P f.params.toList s.vars false W args.toList ds gs before)
    (hfn : s.fn H (ds ++ gs) = { results := [.lit (.bool true)], args := ds })
    (hbt : P.underlying tb = some .bool) (hrt : f.resultTypes = #[tb]) (hl : laidOutB P = true)
    (hpar : ∀ t ∈ f.params.toList, P.readableRec t = true ∧ t < P.types.size) (hb : Below W.heap.size W W') :
    s.post enc P f false true false false W args (.bool true) W' := by
  have hlt : ∀ p ∈ before, p.block < W.heap.size := fun p hp => hW.lt p hp
  have hW' := hW
  obtain ⟨p, q, hA, hV, rfl, hz, hn⟩ := hW'
  rw [hvs] at hV
  obtain ⟨rfl, rfl⟩ := trodVars_none hV
  rw [List.append_nil] at *
  have hargs : ∀ sp : Nat → Bool, (∀ x ∈ p, sp x.block = true) → DataW.TrodAll enc P W' 0 sp true f.params.toList args.toList ds p :=
    fun sp hsp => trodAll_stays hl hb hpar hlt hsp hA
  have hold : ∀ x ∈ p, (fun b => decide (b < W.heap.size)) x.block = true := fun x hx => by simpa using hlt x hx
  have hres : ∀ (b : Nat) (sp : Nat → Bool) (hd : Bool), DataW.TrodAll enc P W' b sp hd f.resultTypes.toList ((Value.bool true).resultList f.resultTypes.size) [.lit (.bool true)] [] := by
    intro b sp hd
    rw [hrt]
    exact trodAll_mk1 (shut_bool hbt true)
  refine ⟨ds, [], p, [], p, [], (by rw [hvs]; exact ⟨p, [], hA, rfl, by simp, hz, hn⟩), ?_, ?_, ?_, World.keptBut_mono (fun x hx => ⟨hx, .inr (.inl hx)⟩) (hb.frame (· ∈ p)), fun h => by cases h⟩
  · rw [List.append_nil, hfn]; exact hres _ _ _
  · rw [List.append_nil, hfn]; exact hargs _ hold
  · rw [hvs, List.append_nil, hfn]; rfl

/-- From address A on there lie, k cells each, elements that are told by R; they lie below block B. -/
def At {α : Type} (k : Nat) (R : List Value → α → Prop) (w : World) (B : Nat) (A : Option Addr) (l : List α) : Prop :=
  ∀ i (h : i < l.length), ∃ b off vs, A = some ⟨b, off, none⟩ ∧ b < B ∧ R vs l[i] ∧ ∀ j (hj : j < vs.length), w.cell? ⟨b, off + i * k + j, none⟩ = some vs[j]
namespace At
variable {α : Type} {k : Nat} {R : List Value → α → Prop} {w w' : World} {B B' : Nat} {A : Option Addr} {l : List α}
theorem kp {S : Nat → Prop} (h : At k R w B A l) (kp : Kp S w w') (hB : B ≤ w.heap.size) (hS : ∀ i, i < B → ¬ S i) : At k R w' B A l := by
  intro i hi
  obtain ⟨b, off, vs, hA, hb, hR, hc⟩ := h i hi
  exact ⟨b, off, vs, hA, hb, hR, fun j hj => (kp.cell (p := ⟨b, _, none⟩) (Nat.lt_of_lt_of_le hb hB) (hS b hb)).trans (hc j hj)⟩
theorem below (h : At k R w B A l) (hb : Below B w w') : At k R w' B A l := by
  intro i hi
  obtain ⟨b, off, vs, hA, hlt, hR, hc⟩ := h i hi
  exact ⟨b, off, vs, hA, hlt, hR, fun j hj => (hb.cell (p := ⟨b, _, none⟩) hlt).trans (hc j hj)⟩
theorem mono (h : At k R w B A l) (hB : B ≤ B') : At k R w B' A l := by
  intro i hi
  obtain ⟨b, off, vs, hA, hlt, hR, hc⟩ := h i hi
  exact ⟨b, off, vs, hA, Nat.lt_of_lt_of_le hlt hB, hR, hc⟩
theorem imp {R' : List Value → α → Prop} (h : At k R w B A l) (hR : ∀ vs x, R vs x → R' vs x) : At k R' w B A l := by
  intro i hi
  obtain ⟨b, off, vs, hA, hlt, hr, hc⟩ := h i hi
  exact ⟨b, off, vs, hA, hlt, hR _ _ hr, hc⟩
theorem nil (w : World) (B : Nat) (A : Option Addr) : At k R w B A ([] : List α) := fun i hi => by cases hi
end At

theorem addr_of_cell {w : World} {a : Addr} {v : Value} (h : w.cell? a = some v) : a = ⟨a.block, a.off, none⟩ := by
  obtain ⟨b, o, s⟩ := a
  cases s with
  | none => rfl
  | some s => simp only [World.cell?] at h; split at h <;> simp at h

section
variable {H : Type} {enc : TypeId × Value → H} {P : Program} {w : World} {base : Nat} {sp : Nat → Bool} {held : Bool} {m : Nat} {fs : Array Field} {cs : List Value} {xs : List (DataW H × List MemPlace)}
theorem field_cell (hf : ∀ (i : Nat) (f : Field), fs[i]? = some f → DataW.trod enc P w base sp held m f.type ((cs.drop f.offset).take (P.cellsOf f.type)) = xs[i]?) (hlen : xs.length = fs.size)
    (i : Nat) (f : Field) (hi : fs[i]? = some f) (hc : P.cellsOf f.type = 1) (ho : f.offset < cs.length) :
    ∃ v x, cs[f.offset]? = some v ∧ DataW.trod enc P w base sp held m f.type [v] = some x := by
  have h := hf i f hi
  have hil : i < xs.length := by rw [hlen]; exact (Array.getElem?_eq_some_iff.1 hi).1
  rw [hc, List.getElem?_eq_getElem hil, List.drop_eq_getElem_cons ho] at h
  exact ⟨cs[f.offset], _, List.getElem?_eq_getElem ho, h⟩
theorem field_int (hf : ∀ (i : Nat) (f : Field), fs[i]? = some f → DataW.trod enc P w base sp held m f.type ((cs.drop f.offset).take (P.cellsOf f.type)) = xs[i]?) (hlen : xs.length = fs.size)
    (i : Nat) (f : Field) (hi : fs[i]? = some f) (hc : P.cellsOf f.type = 1) (ho : f.offset < cs.length) {k : IntKind} (hu : P.underlying f.type = some (.int k)) :
    ∃ n, cs[f.offset]? = some (.int k n) ∧ (Lit.int k n).wf = true := by
  obtain ⟨v, x, hv, hx⟩ := field_cell hf hlen i f hi hc ho
  obtain ⟨n, h1, _, h2⟩ := DataW.trod_int hu hx
  injection h1 with h1 _
  exact ⟨n, by rw [hv, h1], h2⟩
end
theorem wf_u64 {n : Int} (h : (Lit.int .u64 n).wf = true) : 0 ≤ n ∧ n ≤ 18446744073709551615 := by simpa [Lit.wf, IntKind.min, IntKind.max, IntKind.signed, IntKind.bits] using h
theorem wf_u32 {n : Int} (h : (Lit.int .u32 n).wf = true) : 0 ≤ n ∧ n ≤ 4294967295 := by simpa [Lit.wf, IntKind.min, IntKind.max, IntKind.signed, IntKind.bits] using h
theorem wf_u16 {n : Int} (h : (Lit.int .u16 n).wf = true) : 0 ≤ n ∧ n ≤ 65535 := by simpa [Lit.wf, IntKind.min, IntKind.max, IntKind.signed, IntKind.bits] using h
theorem wf_u8 {n : Int} (h : (Lit.int .u8 n).wf = true) : 0 ≤ n ∧ n ≤ 255 := by simpa [Lit.wf, IntKind.min, IntKind.max, IntKind.signed, IntKind.bits] using h
theorem wf_i64 {n : Int} (h : (Lit.int .i64 n).wf = true) : -9223372036854775808 ≤ n ∧ n ≤ 9223372036854775807 := by simpa [Lit.wf, IntKind.min, IntKind.max, IntKind.signed, IntKind.bits] using h

/-- A slice that came in, opened: its elements lie where it says, and read as it reads. -/
theorem open_at_of {α : Type} {H : Type} {enc : TypeId × Value → H} {P : Program} {w : World} {t e : TypeId} {v : Value}
    (R : List Value → α → Prop) (k : Nat) (hk : 0 < k) (ht : P.underlying t = some (.slice e)) (hC : P.cellsOf e = k)
    {fuel : Nat} {x : DataW H × List MemPlace} (hf : DataW.trod enc P w 0 (fun _ => true) true fuel t [v] = some x)
    (hR : ∀ (n : Nat) (cs : List Value) (x : DataW H × List MemPlace), cs.length = k → DataW.trod enc P w 0 (fun _ => true) true n e cs = some x → ∃ y : α, R cs y) :
    ∃ (A : Option Addr) (len cap : Nat) (l : List α), v = .slice A len cap ∧ l.length = len ∧ len ≤ cap ∧ cap ≤ maxLen ∧ At k R w w.heap.size A l := by
  rcases open_slice ht hf with ⟨hcs, _⟩ | ⟨a, len, cap, m, n, D, Pl, hcs, _, hl, hm, hmm, _, hi⟩
  · obtain rfl : v = .slice none 0 0 := by simpa using hcs
    exact ⟨none, 0, 0, [], rfl, rfl, Nat.le_refl _, by simp [maxLen], At.nil _ _ _⟩
  · obtain rfl : v = .slice (some a) len cap := by simpa using hcs
    simp only [if_true] at hmm
    rcases Nat.eq_zero_or_pos len with h0 | hpos
    · subst h0
      exact ⟨some a, 0, cap, [], rfl, rfl, Nat.zero_le _, hm, At.nil _ _ _⟩
    have ha : a = ⟨a.block, a.off, none⟩ := by
      obtain ⟨cs', hc, _⟩ := hi 0 (by omega)
      rw [hC] at hc
      obtain ⟨_, hcl, hat⟩ := World.cells?_some hc
      have := hat 0 hk
      rw [Nat.zero_mul, List.getElem?_eq_getElem (by omega)] at this
      exact addr_of_cell (v := cs'[0]'(by omega)) this
    generalize a.block = b at ha
    generalize a.off = off at ha
    subst ha
    have key : ∀ i, i < len → ∃ (y : α) (vs : List Value), vs.length = k ∧ R vs y ∧ ∀ j (hj : j < vs.length), w.cell? ⟨b, off + i * k + j, none⟩ = some vs[j] := by
      intro i hil
      obtain ⟨cs', hc, htr⟩ := hi i (by omega)
      rw [hC] at hc
      obtain ⟨_, hcl, hat⟩ := World.cells?_some hc
      obtain ⟨y, hy⟩ := hR n cs' _ hcl htr
      refine ⟨y, cs', hcl, hy, fun j hj => ?_⟩
      have := hat j (by omega)
      rw [Go.Deep.add_add, List.getElem?_eq_getElem hj] at this
      rw [← this]
      by_cases e : i * k + j = 0
      · simp [Addr.add, e, Nat.add_assoc]
      · simp only [Addr.add, if_neg e, Nat.add_assoc]
    have hfs := fun i : Fin len => Classical.choose_spec (key i i.2)
    refine ⟨some ⟨b, off, none⟩, len, cap, List.ofFn (fun i : Fin len => Classical.choose (key i i.2)), rfl, by simp, hl, hm, fun i hi => ?_⟩
    have hil : i < len := by simpa using hi
    obtain ⟨vs, hlen, hR', hc⟩ := hfs ⟨i, hil⟩
    exact ⟨b, off, vs, rfl, World.block_lt_of_cell? w _ (hc 0 (by omega)), by simpa using hR', hc⟩

theorem open_at {α : Type} {H : Type} {enc : TypeId × Value → H} {P : Program} {w : World} {t e : TypeId} {v : Value} {d : DataW H} {p : List MemPlace} {base : Nat}
    (R : List Value → α → Prop) (k : Nat) (hk : 0 < k) (ht : P.underlying t = some (.slice e)) (hC : P.cellsOf e = k)
    (hv : Value.okWide P w .any base t v) (h : DataW.Trod enc P w 0 (fun _ => true) true t v d p)
    (hR : ∀ (n : Nat) (cs : List Value) (x : DataW H × List MemPlace), cs.length = k → DataW.trod enc P w 0 (fun _ => true) true n e cs = some x → ∃ y : α, R cs y) :
    ∃ (A : Option Addr) (len cap : Nat) (l : List α), v = .slice A len cap ∧ l.length = len ∧ len ≤ cap ∧ cap ≤ maxLen ∧ At k R w w.heap.size A l := by
  obtain ⟨A, len, cap, rfl⟩ := okWide_slice ht hv
  obtain ⟨fuel, hf⟩ := h
  exact open_at_of R k hk ht hC (fuel := fuel) (by simpa [Value.cells] using hf) hR

/-! ### append onto a row of the call's own, whatever the source -/
/-- these cells lie from A on -/
def Src (w : World) (A : Option Addr) (news : List Value) : Prop := ∀ j u, news[j]? = some u → ∃ ad, A = some ad ∧ w.cell? (ad.add j) = some u
section
variable {P : Program} (w : World)
theorem run_app (base : Nat) (t ty e : TypeId) (i : TypeInfo) (z : Value) (size bytes : Nat) (ht : P.underlying t = some (.slice e)) (hi : P.info? e = some i) (hz : i.zero = some z)
    (hsize : i.size = size) (hby : i.bytes = bytes) (hzs : z.cells.size = size) (hsz : 0 < size)
    (v : Value) (n : Nat) (xs : List Value) (hown : w.ownsRow base e size v n xs)
    (A : Option Addr) (m c : Nat) (news : List Value) (hl : news.length = m * size) (hsrc : Src w A news) (h1 : ∀ u ∈ news, u.oneCell' = true)
    (h63 : n + m ≤ maxLen) (hbytes : (n + m) * bytes ≤ 140737488355328) (hbase : base ≤ w.heap.size) :
    ∃ v' w', (Builtin.append_ #[t, t] ty #[v, .slice A m c]).run P w = .ok v' w' ∧ w'.ownsRow base e size v' (n + m) (xs ++ news) ∧ w.grownBy w' v.ownBlock ∧
      (v'.ownBlock = v.ownBlock ∨ v'.ownBlock = some w.heap.size) := by
  cases A with
  | some ad =>
    have hn : ∀ j u, news[j]? = some u → w.cell? (ad.add j) = some u := by
      intro j u hu
      obtain ⟨ad', e', h⟩ := hsrc j u hu
      injection e' with e'
      exact e' ▸ h
    obtain ⟨v', w', hr, h2, h3, _, h5⟩ := run_append_own_at (P := P) w base t ty e i z size bytes ht hi hz hsize hby hzs hsz v n xs hown ad m c news hl hn h1 h63 hbytes hbase
    exact ⟨v', w', hr, h2, h3, h5⟩
  | none =>
    have hnil : news = [] := by
      cases news with
      | nil => rfl
      | cons u us => obtain ⟨_, e', _⟩ := hsrc 0 u rfl; cases e'
    subst hnil
    have hm : m = 0 := by
      rcases Nat.eq_zero_or_pos m with h | h
      · exact h
      · have := Nat.mul_pos h hsz; simp at hl; omega
    subst hm
    refine ⟨v, w, ?_, by simpa using hown, ⟨rfl, rfl, rfl, Nat.le_refl _, fun _ _ _ => rfl⟩, .inl rfl⟩
    rcases hown.2 with ⟨rfl, rfl⟩ | ⟨g, cap, cur, rfl, _, _, hnc, _⟩
    · simp [Builtin.append_, run_underlying ht, sizeOf, typeInfo, hi, Builtin.lenOf, Builtin.firstCells]
    · simp [Builtin.append_, run_underlying ht, sizeOf, typeInfo, hi, Builtin.lenOf, Builtin.firstCells, hnc, storeCells]

theorem wp_app {o : Oper} {a : Act} {K : Act → World → Prop} {Q : Exit → Act → World → Prop} (s x : Operand) (t : TypeId)
    (ho : o.op = .call { callee := .builtin .append, args := #[s, x], argTypes := #[t, t] })
    (base : Nat) (e : TypeId) (i : TypeInfo) (z : Value) (size bytes : Nat) (ht : P.underlying t = some (.slice e)) (hi : P.info? e = some i) (hz : i.zero = some z)
    (hsize : i.size = size) (hby : i.bytes = bytes) (hzs : z.cells.size = size) (hsz : 0 < size)
    (v : Value) (n : Nat) (xs : List Value) (hs : a.eval s = v) (hown : w.ownsRow base e size v n xs)
    (A : Option Addr) (m c : Nat) (news : List Value) (hx : a.eval x = .slice A m c) (hl : news.length = m * size) (hsrc : Src w A news) (h1 : ∀ u ∈ news, u.oneCell' = true)
    (h63 : n + m ≤ maxLen) (hbytes : (n + m) * bytes ≤ 140737488355328) (hbase : base ≤ w.heap.size)
    (h : ∀ v' w', w'.ownsRow base e size v' (n + m) (xs ++ news) → w.grownBy w' v.ownBlock → (v'.ownBlock = v.ownBlock ∨ v'.ownBlock = some w.heap.size) → K (a.put o.dst v') w') : o.wp P a w K Q := by
  obtain ⟨v', w', hr, h2, h3, h5⟩ := run_app (P := P) w base t o.type e i z size bytes ht hi hz hsize hby hzs hsz v n xs hown A m c news hl hsrc h1 h63 hbytes hbase
  unfold Oper.wp execOp
  simp only [ho, resolve, invoke, builtin, Sem.run_bind, Sem.run_pure, Result.andThen_ok, List.map_toArray, List.map_cons, List.map_nil, hs, hx, hr]
  exact h v' w' h2 h3 h5
theorem wpList_app {ops : Array Oper} {rest : List Oper} {o : Oper} {a : Act} {Q : Exit → Act → World → Prop} (hgd : o.guard = none) (s x : Operand) (t : TypeId)
    (ho : o.op = .call { callee := .builtin .append, args := #[s, x], argTypes := #[t, t] })
    (base : Nat) (e : TypeId) (i : TypeInfo) (z : Value) (size bytes : Nat) (ht : P.underlying t = some (.slice e)) (hi : P.info? e = some i) (hz : i.zero = some z)
    (hsize : i.size = size) (hby : i.bytes = bytes) (hzs : z.cells.size = size) (hsz : 0 < size)
    (v : Value) (n : Nat) (xs : List Value) (hs : a.eval s = v) (hown : w.ownsRow base e size v n xs)
    (A : Option Addr) (m c : Nat) (news : List Value) (hx : a.eval x = .slice A m c) (hl : news.length = m * size) (hsrc : Src w A news) (h1 : ∀ u ∈ news, u.oneCell' = true)
    (h63 : n + m ≤ maxLen) (hbytes : (n + m) * bytes ≤ 140737488355328) (hbase : base ≤ w.heap.size)
    (h : ∀ v' w', w'.ownsRow base e size v' (n + m) (xs ++ news) → w.grownBy w' v.ownBlock → (v'.ownBlock = v.ownBlock ∨ v'.ownBlock = some w.heap.size) → wpList P ops Q rest (a.put o.dst v') w') : wpList P ops Q (o :: rest) a w :=
  wpList_plain hgd fun _ hK => wp_app w s x t ho base e i z size bytes ht hi hz hsize hby hzs hsz v n xs hs hown A m c news hx hl hsrc h1 h63 hbytes hbase fun v' w' h2 h3 h4 => hK _ _ (h v' w' h2 h3 h4)
theorem step_app {ops : Array Oper} {o : Oper} {a : Act} {K : Act → World → Prop} {Q : Exit → Act → World → Prop} {E : Prop} (hgd : o.guard = none) (s x : Operand) (t : TypeId)
    (ho : o.op = .call { callee := .builtin .append, args := #[s, x], argTypes := #[t, t] })
    (base : Nat) (e : TypeId) (i : TypeInfo) (z : Value) (size bytes : Nat) (ht : P.underlying t = some (.slice e)) (hi : P.info? e = some i) (hz : i.zero = some z)
    (hsize : i.size = size) (hby : i.bytes = bytes) (hzs : z.cells.size = size) (hsz : 0 < size)
    (v : Value) (n : Nat) (xs : List Value) (hs : a.eval s = v) (hown : w.ownsRow base e size v n xs)
    (A : Option Addr) (m c : Nat) (news : List Value) (hx : a.eval x = .slice A m c) (hl : news.length = m * size) (hsrc : Src w A news) (h1 : ∀ u ∈ news, u.oneCell' = true)
    (h63 : n + m ≤ maxLen) (hbytes : (n + m) * bytes ≤ 140737488355328) (hbase : base ≤ w.heap.size)
    (h : ∀ v' w', w'.ownsRow base e size v' (n + m) (xs ++ news) → w.grownBy w' v.ownBlock → (v'.ownBlock = v.ownBlock ∨ v'.ownBlock = some w.heap.size) → K (a.put o.dst v') w') :
    if Region.wanted o (yielded ops a.tmps) = true then Oper.wp P o a w K Q else E := by
  have hw : Region.wanted o (yielded ops a.tmps) = true := by simp [Region.wanted, hgd]
  rw [if_pos hw]
  exact wp_app w s x t ho base e i z size bytes ht hi hz hsize hby hzs hsz v n xs hs hown A m c news hx hl hsrc h1 h63 hbytes hbase h
end

theorem Src.one (w : World) (x : Value) (t : TypeId) : Src (w.alloc (.cells #[x] t)) (some ⟨w.heap.size, 0, none⟩) [x] := fun j u hu => ⟨_, rfl, cell_one_new w x t j u hu⟩
theorem Src.new (w : World) (xs : List Value) (t : TypeId) : Src (w.alloc (.cells xs.toArray t)) (some ⟨w.heap.size, 0, none⟩) xs := by
  intro j u hu
  refine ⟨_, rfl, ?_⟩
  have e : (⟨w.heap.size, 0, none⟩ : Addr).add j = ⟨w.heap.size, j, none⟩ := by unfold Addr.add; split <;> simp_all
  rw [e, (Bk.new w t xs.toArray).cell]
  simpa using hu

theorem Src.at_ (w : World) (xs : List Value) (t : TypeId) (cs : Array Value) (n : Nat) (hn : n = w.heap.size) (hc : cs = xs.toArray) : Src (w.alloc (.cells cs t)) (some ⟨n, 0, none⟩) xs := by
  subst hn; subst hc; exact Src.new w xs t
theorem flatMap_index {α β : Type} {f : α → List β} {k : Nat} : ∀ (l : List α), (∀ x ∈ l, (f x).length = k) → ∀ i (hi : i < l.length) j, j < k → (l.flatMap f)[i * k + j]? = (f l[i])[j]?
  | [], _, i, hi, _, _ => by cases hi
  | x :: l, h, 0, _, j, hj => by
    have hx := h x (by simp)
    rw [List.flatMap_cons, List.getElem?_append_left (by omega)]
    simp
  | x :: l, h, i + 1, hi, j, hj => by
    have hx := h x (by simp)
    rw [List.flatMap_cons, List.getElem?_append_right (by rw [hx]; rw [Nat.add_mul]; omega)]
    have := flatMap_index l (fun y hy => h y (by simp [hy])) i (by simpa using hi) j hj
    rw [hx, show (i + 1) * k + j - k = i * k + j by rw [Nat.add_mul]; omega, this]
    simp
theorem own_form {w : World} {base : Nat} {e : TypeId} {size : Nat} {v : Value} {n : Nat} {xs : List Value} (h : w.ownsRow base e size v n xs) :
    ∃ A cap, v = .slice A n cap ∧ n ≤ cap ∧ cap ≤ maxLen ∧ (∀ a, A = some a → base ≤ a.block ∧ a.block < w.heap.size) ∧
      ∀ j u, xs[j]? = some u → ∃ b, A = some ⟨b, 0, none⟩ ∧ base ≤ b ∧ b < w.heap.size ∧ w.cell? ⟨b, j, none⟩ = some u := by
  have hx := h.1
  have hc := @World.ownsRow.cells w base e size v n xs h
  rcases h.2 with ⟨rfl, rfl⟩ | ⟨g, cap, cur, rfl, hb, hg, hnc, hm, _, _⟩
  · have : xs = [] := List.eq_nil_of_length_eq_zero (by simpa using hx)
    subst this
    exact ⟨none, 0, rfl, Nat.le_refl _, by simp [maxLen], by simp, by simp⟩
  · have hlt : g < w.heap.size := (Array.getElem?_eq_some_iff.1 hg).1
    refine ⟨some ⟨g, 0, none⟩, cap, rfl, hnc, hm, ?_, fun j u hu => ⟨g, rfl, hb, hlt, ?_⟩⟩
    · intro a ha; injection ha with ha; subst ha; exact ⟨hb, hlt⟩
    · have := hc (g := g) (by simp [Value.ownBlock]) j u hu
      have e : (⟨g, 0, none⟩ : Addr).add j = ⟨g, j, none⟩ := by unfold Addr.add; split <;> simp_all
      rwa [e] at this
/-- What the call has put together, read as a list of elements. -/
theorem At.of_own {α : Type} {k : Nat} {R : List Value → α → Prop} {w : World} {base : Nat} {e : TypeId} {v : Value} {n : Nat} (f : α → List Value) {l : List α}
    (hf : ∀ x ∈ l, (f x).length = k ∧ R (f x) x) (hk : 0 < k) (h : w.ownsRow base e k v n (l.flatMap f)) : ∃ A cap, v = .slice A n cap ∧ n = l.length ∧ n ≤ cap ∧ cap ≤ maxLen ∧ At k R w w.heap.size A l := by
  obtain ⟨A, cap, hv, hn, hm, _, hc⟩ := own_form h
  have hlen : n = l.length := by
    have h1 := h.1
    have : (l.flatMap f).length = l.length * k := by
      clear h hc h1 hv
      induction l with
      | nil => simp
      | cons x l ih =>
        rw [List.flatMap_cons, List.length_append, ih (fun y hy => hf y (by simp [hy])), (hf x (by simp)).1, List.length_cons, Nat.add_mul]
        omega
    rw [this] at h1
    exact (Nat.eq_of_mul_eq_mul_right hk h1).symm
  refine ⟨A, cap, hv, hlen, hn, hm, fun i hi => ?_⟩
  have hi' := hf l[i] (List.getElem_mem hi)
  have hcell : ∀ j (hj : j < (f l[i]).length), ∃ b, A = some ⟨b, 0, none⟩ ∧ base ≤ b ∧ b < w.heap.size ∧ w.cell? ⟨b, i * k + j, none⟩ = some (f l[i])[j] := fun j hj =>
    hc (i * k + j) _ (by rw [flatMap_index l (fun x hx => (hf x hx).1) i hi j (by omega), List.getElem?_eq_getElem hj])
  obtain ⟨b, hA, _, hlt, _⟩ := hcell 0 (by omega)
  refine ⟨b, 0, f l[i], hA, hlt, hi'.2, fun j hj => ?_⟩
  obtain ⟨b', hA', _, _, hcj⟩ := hcell j hj
  rw [hA] at hA'
  injection hA' with hA'
  injection hA' with hA' _
  subst hA'
  rw [Nat.zero_add]
  exact hcj

/-! ### bytes -/
/-- the cell of a byte -/
def byteV (b : UInt8) : Value := .int .u8 (b.toNat : Int)
def IsByte (vs : List Value) (b : UInt8) : Prop := vs = [byteV b]
/-- from A on there lie these bytes -/
abbrev BytesAt (w : World) (B : Nat) (A : Option Addr) (l : List UInt8) : Prop := At 1 IsByte w B A l
theorem BytesAt.cell {w : World} {B : Nat} {A : Option Addr} {l : List UInt8} (h : BytesAt w B A l) {i : Nat} (hi : i < l.length) :
    ∃ b off, A = some ⟨b, off, none⟩ ∧ b < B ∧ w.cell? ⟨b, off + i, none⟩ = some (.int .u8 (l[i].toNat : Int)) := by
  obtain ⟨b, off, vs, hA, hb, rfl, hc⟩ := h i hi
  exact ⟨b, off, hA, hb, by simpa [byteV] using hc 0 (by simp)⟩
theorem byte_of {n : Int} (h : (Lit.int .u8 n).wf = true) : ∃ b : UInt8, n = (b.toNat : Int) := by
  have := wf_u8 h
  refine ⟨UInt8.ofNat n.toNat, ?_⟩
  rw [UInt8.toNat_ofNat_of_lt' (by show n.toNat < 256; omega)]
  omega
theorem isByte_open {H : Type} {enc : TypeId × Value → H} {W : World} (n : Nat) (cs : List Value) (x : DataW H × List MemPlace) (_hl : cs.length = 1)
    (h : DataW.trod enc Tryd.prog W 0 (fun _ => true) true n 5 cs = some x) : ∃ y : UInt8, IsByte cs y := by
  obtain ⟨m, rfl, _, hw⟩ := DataW.trod_int Tryd.underlying5 h
  obtain ⟨b, rfl⟩ := byte_of hw
  exact ⟨b, rfl⟩

def bytesArr (bs : List UInt8) : Array Value := (bs.map byteV).toArray
/-- what the call owns: bytes -/
abbrev OwnB (w : World) (base : Nat) (v : Value) (bs : List UInt8) : Prop := w.ownsRow base 5 1 v bs.length (bs.map byteV)
theorem Bk.setByte {w : World} {g t : Nat} {bs : List UInt8} (h : Bk w g t (bytesArr bs)) (k : Nat) (c : UInt8) : Bk (w.setCell ⟨g, k, none⟩ (byteV c)) g t (bytesArr (bs.set k c)) := by
  have := h.set k (byteV c)
  rwa [show (bytesArr bs).setIfInBounds k (byteV c) = bytesArr (bs.set k c) by simp [bytesArr, List.map_set]] at this
theorem Bk.own {w : World} {base g : Nat} {bs : List UInt8} (h : Bk w g 5 (bytesArr bs)) (hb : base ≤ g) (hm : bs.length ≤ maxLen) : OwnB w base (.slice (some ⟨g, 0, none⟩) bs.length bs.length) bs :=
  ⟨by simp, .inr ⟨g, bs.length, bytesArr bs, rfl, hb, h, Nat.le_refl _, hm, by simp [bytesArr], by rw [List.take_of_length_le (by simp [bytesArr])]; simp [bytesArr]⟩⟩
theorem own_mono {w : World} {base base' : Nat} {e : TypeId} {size : Nat} {v : Value} {n : Nat} {xs : List Value} (h : w.ownsRow base e size v n xs) (hb : base' ≤ base) : w.ownsRow base' e size v n xs := by
  refine ⟨h.1, ?_⟩
  rcases h.2 with h | ⟨g, cap, cur, hv, hg, r⟩
  · exact .inl h
  · exact .inr ⟨g, cap, cur, hv, Nat.le_trans hb hg, r⟩
theorem own_nil (w : World) (base : Nat) : OwnB w base (.slice none 0 0) [] := World.ownsRow_nil _ _ _ _
theorem made_zero (n : Nat) : madeCells #[.int .u8 0] n = bytesArr (List.replicate n 0) := by
  apply Array.ext_getElem?
  intro i
  simp only [madeCells, bytesArr]
  by_cases h : i < n
  · simp [h, byteV, Nat.mod_one]
  · simp [h]
theorem map_flat (bs : List UInt8) : bs.map byteV = bs.flatMap (fun b => [byteV b]) := by
  induction bs with
  | nil => rfl
  | cons x l ih => simp [ih]
theorem OwnB.at_ {w : World} {base : Nat} {v : Value} {bs : List UInt8} (h : OwnB w base v bs) :
    ∃ A cap, v = .slice A bs.length cap ∧ bs.length ≤ cap ∧ cap ≤ maxLen ∧ BytesAt w w.heap.size A bs ∧ ∀ a, A = some a → base ≤ a.block ∧ a.block < w.heap.size := by
  obtain ⟨A, cap, hv, hn, hm, ha, _⟩ := own_form h
  have e := map_flat bs
  have h' : w.ownsRow base 5 1 v bs.length (bs.flatMap fun b => [byteV b]) := by rw [← e]; exact h
  obtain ⟨A', cap', hv', _, _, _, hat⟩ := At.of_own (R := IsByte) (fun b => [byteV b]) (fun x _ => ⟨rfl, rfl⟩) Nat.one_pos h'
  rw [hv] at hv'
  injection hv' with hv' _
  subst hv'
  exact ⟨A, cap, hv, hn, hm, hat, ha⟩
/-- bytes that lie there, as append wants them -/
theorem BytesAt.src {w : World} {B : Nat} {A : Option Addr} {bs : List UInt8} (h : BytesAt w B A bs) : Src w A (bs.map byteV) := by
  intro j u hu
  have hj : j < bs.length := by
    have := (List.getElem?_eq_some_iff.1 hu).1
    simpa using this
  obtain ⟨b, off, hA, _, hc⟩ := h.cell hj
  refine ⟨⟨b, off, none⟩, hA, ?_⟩
  have e : (⟨b, off, none⟩ : Addr).add j = ⟨b, off + j, none⟩ := by unfold Addr.add; split <;> simp_all
  rw [e, hc]
  rw [List.getElem?_map, List.getElem?_eq_getElem hj] at hu
  simpa [byteV] using hu
/-- a part of bytes -/
theorem BytesAt.drop {w : World} {B b off : Nat} {bs : List UInt8} (h : BytesAt w B (some ⟨b, off, none⟩) bs) (k : Nat) : BytesAt w B (some ⟨b, off + k, none⟩) (bs.drop k) := by
  intro i hi
  have hi' : k + i < bs.length := by simp at hi; omega
  obtain ⟨b', off', hA, hb, hc⟩ := h.cell hi'
  injection hA with hA
  injection hA with h1 h2
  subst h1; subst h2
  refine ⟨b, off + k, [byteV bs[k + i]], rfl, hb, by simp [IsByte], fun j hj => ?_⟩
  obtain rfl : j = 0 := by simpa using hj
  simpa [byteV, Nat.add_assoc] using hc
theorem BytesAt.take {w : World} {B : Nat} {A : Option Addr} {bs : List UInt8} (h : BytesAt w B A bs) (k : Nat) : BytesAt w B A (bs.take k) := by
  intro i hi
  have hi' : i < bs.length := by simp at hi; omega
  obtain ⟨b, off, vs, hA, hb, hR, hc⟩ := h i hi'
  exact ⟨b, off, vs, hA, hb, by simpa using hR, hc⟩
theorem oneCell_bytes (bs : List UInt8) : ∀ u ∈ bs.map byteV, u.oneCell' = true := by
  intro u hu
  obtain ⟨b, _, rfl⟩ := List.mem_map.1 hu
  rfl
theorem byte_info : (Tryd.prog.info? 5).map (fun i => (i.zero, i.size, i.bytes)) = some (some (.int .u8 0), 1, 1) := by kernel_rfl

theorem grown_of_below {w w' : World} (h : Below w.heap.size w w') (row : Option Nat) : w.grownBy w' row := ⟨h.os, h.tape, h.output, h.size, fun i hi _ => h.block i hi⟩
theorem own_below {w w' : World} {base : Nat} {e : TypeId} {size : Nat} {v : Value} {n : Nat} {xs : List Value} (h : w.ownsRow base e size v n xs) (hb : Below w.heap.size w w') : w'.ownsRow base e size v n xs :=
  h.kept (grown_of_below hb none) (by cases hv : v.ownBlock <;> simp)
/-! ### lists of lists of bytes -/
def IsPart (w : World) (B : Nat) (vs : List Value) (l : List UInt8) : Prop := ∃ A cap, vs = [.slice A l.length cap] ∧ l.length ≤ cap ∧ cap ≤ maxLen ∧ BytesAt w B A l
abbrev PartsAt (w : World) (B : Nat) (A : Option Addr) (ls : List (List UInt8)) : Prop := At 1 (IsPart w B) w B A ls
theorem PartsAt.below {w w' : World} {B : Nat} {A : Option Addr} {ls : List (List UInt8)} (h : PartsAt w B A ls) (hb : Below B w w') : PartsAt w' B A ls :=
  At.imp (At.below h hb) fun _ _ ⟨A', c', e, h1, h2, h3⟩ => ⟨A', c', e, h1, h2, At.below h3 hb⟩
theorem PartsAt.mono {w : World} {B B' : Nat} {A : Option Addr} {ls : List (List UInt8)} (h : PartsAt w B A ls) (hb : B ≤ B') : PartsAt w B' A ls :=
  At.imp (At.mono h hb) fun _ _ ⟨A', c', e, h1, h2, h3⟩ => ⟨A', c', e, h1, h2, At.mono h3 hb⟩
theorem PartsAt.cell {w : World} {B : Nat} {A : Option Addr} {ls : List (List UInt8)} (h : PartsAt w B A ls) {i : Nat} (hi : i < ls.length) :
    ∃ b off A' cap', A = some ⟨b, off, none⟩ ∧ b < B ∧ w.cell? ⟨b, off + i, none⟩ = some (.slice A' ls[i].length cap') ∧ ls[i].length ≤ cap' ∧ cap' ≤ maxLen ∧ BytesAt w B A' ls[i] := by
  obtain ⟨b, off, vs, hA, hb, ⟨A', cap', rfl, h1, h2, h3⟩, hc⟩ := h i hi
  exact ⟨b, off, A', cap', hA, hb, by simpa using hc 0 (by simp), h1, h2, h3⟩
theorem isPart_open {H : Type} {enc : TypeId × Value → H} {W : World} (n : Nat) (cs : List Value) (x : DataW H × List MemPlace) (hl : cs.length = 1)
    (h : DataW.trod enc Tryd.prog W 0 (fun _ => true) true n 22 cs = some x) : ∃ y : List UInt8, IsPart W W.heap.size cs y := by
  match cs, hl with
  | [v], _ =>
    obtain ⟨A, len, cap, l, rfl, hl, hc, hm, hat⟩ := open_at_of IsByte 1 (by omega) Tryd.underlying22 (by kernel_rfl) h isByte_open
    subst hl
    exact ⟨l, A, cap, rfl, hc, hm, hat⟩
end Go.Proofs.YtpacgblddeoheaaDoor
