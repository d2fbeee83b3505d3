/- Rows of items, as they lie in memory. -/
import Derived.Test.YteebehmmfkapgaaDoorFlowPure
import Derived.Test.YteebehmmfkapgaaDoorFrameOut
namespace Go.Proofs.YteebehmmfkapgaaDoor
open Go.RowKit Go.Deep
set_option linter.unusedVariables false
set_option linter.unusedSimpArgs false
set_option maxRecDepth 100000
def itemCells (x : Flo.Item) (u : Value) : List Value := [.string ⟨x.cmd.toArray⟩, u, .int .i64 x.err]
def itemPair (p : Flo.Item × Value) : List Value := itemCells p.1 p.2
/-- bytes, in a block for which P -/
def KeyP (P : Nat → Prop) (w : World) (u : Value) (p : List UInt8) : Prop :=
  ∃ A cap, u = .slice A p.length cap ∧ p.length ≤ cap ∧ cap ≤ maxLen ∧ BytesAt w w.heap.size A p ∧ ∀ a, A = some a → P a.block ∧ a.block < w.heap.size
theorem KeyP.kp {P Q S : Nat → Prop} {w w' : World} {u : Value} {p : List UInt8} (h : KeyP P w u p) (hk : Kp S w w') (hS : ∀ i, P i → i < w.heap.size → ¬ S i ∧ Q i) : KeyP Q w' u p := by
  obtain ⟨A, cap, hu, h1, h2, h3, h4⟩ := h
  refine ⟨A, cap, hu, h1, h2, fun i hi => ?_, fun a ha => ⟨(hS _ (h4 a ha).1 (h4 a ha).2).2, Nat.lt_of_lt_of_le (h4 a ha).2 hk.size⟩⟩
  obtain ⟨b, off, vs, hA, hb, hR, hc⟩ := h3 i hi
  exact ⟨b, off, vs, hA, Nat.lt_of_lt_of_le hb hk.size, hR, fun j hj => (hk.cell (p := ⟨b, _, none⟩) hb (hS b (h4 _ hA).1 hb).1).trans (hc j hj)⟩
theorem KeyP.at_ {P : Nat → Prop} {w : World} {u : Value} {p : List UInt8} (h : KeyP P w u p) : ∃ A cap, u = .slice A p.length cap ∧ p.length ≤ cap ∧ cap ≤ maxLen ∧ BytesAt w w.heap.size A p := by
  obtain ⟨A, cap, hu, h1, h2, h3, _⟩ := h
  exact ⟨A, cap, hu, h1, h2, h3⟩
theorem KeyP.nil {P : Nat → Prop} {w : World} : KeyP P w (.slice none 0 0) [] := ⟨none, 0, rfl, Nat.le_refl _, by simp [maxLen], fun i hi => by simp at hi, fun a ha => by cases ha⟩
theorem own_kp2 {w w' : World} {base : Nat} {e : TypeId} {size : Nat} {v : Value} {n : Nat} {xs : List Value} {S : Nat → Prop} (h : w.ownsRow base e size v n xs) (hk : Kp S w w') (hS : ∀ i, v.ownBlock = some i → ¬ S i) : w'.ownsRow base e size v n xs := by
  refine ⟨h.1, ?_⟩
  rcases h.2 with h | ⟨g, cap, cur, hv, hb, hg, r⟩
  · exact .inl h
  · have hlt : g < w.heap.size := (Array.getElem?_eq_some_iff.1 hg).1
    exact .inr ⟨g, cap, cur, hv, hb, (hk.block g hlt (hS g (by rw [hv]; rfl))).trans hg, r⟩
theorem own_lt {w : World} {base : Nat} {e : TypeId} {size : Nat} {v : Value} {n : Nat} {xs : List Value} (h : w.ownsRow base e size v n xs) : ∀ i, v.ownBlock = some i → base ≤ i ∧ i < w.heap.size := fun i hi => h.lt i hi
/-- a row of items of one's own; their bodies lie in blocks for which P -/
def RowT (P : Nat → Prop) (base : Nat) (w : World) (v : Value) (l : List Flo.Item) : Prop :=
  ∃ us : List Value, us.length = l.length ∧ w.ownsRow base 52 3 v l.length ((l.zip us).flatMap itemPair) ∧ ∀ i (h : i < l.length), ∃ u, us[i]? = some u ∧ KeyP P w u l[i].body
theorem RowT.nil (P : Nat → Prop) (base : Nat) (w : World) : RowT P base w (.slice none 0 0) [] := ⟨[], rfl, World.ownsRow_nil _ _ _ _, fun i h => by simp at h⟩
theorem RowT.lt {P : Nat → Prop} {base : Nat} {w : World} {v : Value} {l : List Flo.Item} (h : RowT P base w v l) : ∀ i, v.ownBlock = some i → base ≤ i ∧ i < w.heap.size := by
  obtain ⟨us, _, h2, _⟩ := h
  exact own_lt h2
theorem RowT.kp {P Q S : Nat → Prop} {base : Nat} {w w' : World} {v : Value} {l : List Flo.Item} (h : RowT P base w v l) (hk : Kp S w w') (h1 : ∀ i, v.ownBlock = some i → ¬ S i) (h2 : ∀ i, P i → i < w.heap.size → ¬ S i ∧ Q i) : RowT Q base w' v l := by
  obtain ⟨us, e1, e2, e3⟩ := h
  exact ⟨us, e1, own_kp2 e2 hk h1, fun i hi => by obtain ⟨u, hu, hp⟩ := e3 i hi; exact ⟨u, hu, hp.kp hk h2⟩⟩
theorem RowT.mono {P : Nat → Prop} {base base' : Nat} {w : World} {v : Value} {l : List Flo.Item} (h : RowT P base w v l) (hb : base' ≤ base) : RowT P base' w v l := by
  obtain ⟨us, e1, e2, e3⟩ := h
  exact ⟨us, e1, own_mono e2 hb, e3⟩
theorem itemPair_len (p : Flo.Item × Value) : (itemPair p).length = 3 := rfl
theorem flat_len (z : List (Flo.Item × Value)) : (z.flatMap itemPair).length = z.length * 3 := by
  induction z with
  | nil => rfl
  | cons p z ih => rw [List.flatMap_cons, List.length_append, itemPair_len, ih, List.length_cons]; omega
/-- more items come behind -/
theorem RowT.push {P Q R : Nat → Prop} {base : Nat} {w w' : World} {v v' : Value} {us us2 : List Value} {l l2 : List Flo.Item} (h1 : us.length = l.length) (h3 : ∀ i (h : i < l.length), ∃ u, us[i]? = some u ∧ KeyP P w u l[i].body)
    (k1 : us2.length = l2.length) (k3 : ∀ i (h : i < l2.length), ∃ u, us2[i]? = some u ∧ KeyP Q w u l2[i].body)
    (hrow : w'.ownsRow base 52 3 v' (l.length + l2.length) ((l.zip us).flatMap itemPair ++ (l2.zip us2).flatMap itemPair)) (hg : w.grownBy w' v.ownBlock) (hat : v'.ownBlock = v.ownBlock ∨ v'.ownBlock = some w.heap.size)
    (hP : ∀ i, P i → i < w.heap.size → v.ownBlock ≠ some i ∧ (v'.ownBlock ≠ some i → R i)) (hQ : ∀ i, Q i → i < w.heap.size → v.ownBlock ≠ some i ∧ (v'.ownBlock ≠ some i → R i)) : RowT R base w' v' (l ++ l2) := by
  have hk : Kp (fun i => v.ownBlock = some i) w w' := (Kp.refl _ w).grown hg (fun k hk _ => hk)
  have hne : ∀ i, i < w.heap.size → v.ownBlock ≠ some i → v'.ownBlock ≠ some i := fun i hi h e => by
    rcases hat with h' | h' <;> rw [h'] at e
    · exact h e
    · have := Option.some.inj e; omega
  refine ⟨us ++ us2, by simp [h1, k1], ?_, fun i hi => ?_⟩
  · rw [List.zip_append h1.symm, List.flatMap_append, List.length_append]
    exact hrow
  · rcases Nat.lt_or_ge i l.length with h | h
    · obtain ⟨u, hu, hp⟩ := h3 i h
      rw [List.getElem_append_left h]
      exact ⟨u, by rw [List.getElem?_append_left (by omega)]; exact hu, hp.kp hk fun j hj hl => ⟨(hP j hj hl).1, (hP j hj hl).2 (hne j hl (hP j hj hl).1)⟩⟩
    · have hi2 : i - l.length < l2.length := by rw [List.length_append] at hi; omega
      obtain ⟨u, hu, hp⟩ := k3 _ hi2
      rw [List.getElem_append_right h]
      exact ⟨u, by rw [List.getElem?_append_right (by omega), h1]; exact hu, hp.kp hk fun j hj hl => ⟨(hQ j hj hl).1, (hQ j hj hl).2 (hne j hl (hQ j hj hl).1)⟩⟩
/-- how an item lies in memory -/
def IsItem (w : World) (B : Nat) (vs : List Value) (x : Flo.Item) : Prop := ∃ A cap, vs = itemCells x (.slice A x.body.length cap) ∧ x.body.length ≤ cap ∧ cap ≤ maxLen ∧ BytesAt w B A x.body
abbrev ItemsAt (w : World) (B : Nat) (A : Option Addr) (l : List Flo.Item) : Prop := At 3 (IsItem w B) w B A l
theorem ItemsAt.below {w w' : World} {B : Nat} {A : Option Addr} {l : List Flo.Item} (h : ItemsAt w B A l) (hb : Below B w w') : ItemsAt w' B A l := by
  intro i hi
  obtain ⟨b, off, vs, hA, hlt, ⟨A', cap, rfl, h1, h2, h3⟩, hc⟩ := h i hi
  exact ⟨b, off, _, hA, hlt, ⟨A', cap, rfl, h1, h2, At.below h3 hb⟩, fun j hj => (hb.cell (p := ⟨b, _, none⟩) hlt).trans (hc j hj)⟩
theorem RowT.at_ {P : Nat → Prop} {base : Nat} {w : World} {v : Value} {l : List Flo.Item} (h : RowT P base w v l) : ∃ A cap, v = .slice A l.length cap ∧ l.length ≤ cap ∧ cap ≤ maxLen ∧ ItemsAt w w.heap.size A l := by
  obtain ⟨us, h1, h2, h3⟩ := h
  obtain ⟨A, cap, hv, hn, hm, hA, hc⟩ := own_form h2
  have hzl : (l.zip us).length = l.length := by rw [List.length_zip, h1, Nat.min_self]
  refine ⟨A, cap, hv, hn, hm, fun i hi => ?_⟩
  obtain ⟨u, hu, A', cap', rfl, k1, k2, k3, _⟩ := h3 i hi
  have hz : (l.zip us)[i]'(by omega) = (l[i], .slice A' l[i].body.length cap') := by
    rw [List.getElem_zip]
    rw [List.getElem?_eq_some_iff] at hu
    obtain ⟨_, hu⟩ := hu
    rw [hu]
  have hcell : ∀ j (hj : j < 3), ∃ b, A = some ⟨b, 0, none⟩ ∧ base ≤ b ∧ b < w.heap.size ∧ w.cell? ⟨b, i * 3 + j, none⟩ = some ((itemCells l[i] (.slice A' l[i].body.length cap'))[j]'(by simpa [itemCells] using hj)) := fun j hj =>
    hc (i * 3 + j) _ (by
      rw [flatMap_index (l.zip us) (fun p _ => itemPair_len p) i (by omega) j hj, hz]
      unfold itemPair
      rw [List.getElem?_eq_getElem])
  obtain ⟨b, hA, _, hlt, _⟩ := hcell 0 (by omega)
  refine ⟨b, 0, _, hA, hlt, ⟨A', cap', rfl, k1, k2, k3⟩, fun j hj => ?_⟩
  obtain ⟨b', hA', _, _, hcj⟩ := hcell j hj
  rw [hA] at hA'
  injection hA' with hA'
  injection hA' with hA' _
  subst hA'
  rw [Nat.zero_add]
  exact hcj
theorem itemCells_one (x : Flo.Item) (A : Option Addr) (m c : Nat) : ∀ u ∈ itemCells x (.slice A m c), u.oneCell' = true := by
  intro u hu
  simp only [itemCells, List.mem_cons, List.not_mem_nil, or_false] at hu
  rcases hu with rfl | rfl | rfl <;> rfl
theorem item_info : (Tryd.prog.info? 52).map (fun i => (i.zero, i.size, i.bytes)) = some (some (.agg #[.string ⟨#[]⟩, .slice none 0 0, .int .i64 0]), 3, 48) := by kernel_rfl
end Go.Proofs.YteebehmmfkapgaaDoor
