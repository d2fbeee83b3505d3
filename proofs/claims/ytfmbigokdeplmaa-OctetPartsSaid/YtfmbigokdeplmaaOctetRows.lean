/- Rows of parts, of one's own. -/
import Derived.Test.YtfmbigokdeplmaaOctetAlive
import Derived.Test.YtfmbigokdeplmaaOctetPlain
namespace Go.Proofs.Ytfmbigokdeplmaa
open Go.RowKit Go.Deep
set_option linter.unusedVariables false
set_option maxRecDepth 100000

/-- a part that lies in no block of the row v -/
def PartN (w : World) (v u : Value) (p : List UInt8) : Prop :=
  ∃ A cap, u = .slice A p.length cap ∧ p.length ≤ cap ∧ cap ≤ maxLen ∧ BytesAt w w.heap.size A p ∧ ∀ a, A = some a → v.ownBlock ≠ some a.block ∧ a.block < w.heap.size
/-- a row of one's own of such parts -/
def RowP (w : World) (base : Nat) (v : Value) (acc : List (List UInt8)) : Prop :=
  ∃ vs : List Value, w.ownsRow base 23 1 v acc.length vs ∧ vs.length = acc.length ∧ ∀ i (h : i < acc.length), ∃ u, vs[i]? = some u ∧ PartN w v u acc[i]
theorem RowP.nil (w : World) (base : Nat) : RowP w base (.slice none 0 0) [] := ⟨[], World.ownsRow_nil _ _ _ _, rfl, fun i h => by simp at h⟩
theorem PartN.below {w w' : World} {v u : Value} {p : List UInt8} (h : PartN w v u p) (hb : Below w.heap.size w w') : PartN w' v u p := by
  obtain ⟨A, cap, hu, h1, h2, h3, h4⟩ := h
  exact ⟨A, cap, hu, h1, h2, At.mono (At.below h3 hb) hb.size, fun a ha => ⟨(h4 a ha).1, Nat.lt_of_lt_of_le (h4 a ha).2 hb.size⟩⟩
theorem PartN.grown {w w' : World} {v v' u : Value} {p : List UInt8} (h : PartN w v u p) (hg : w.grownBy w' v.ownBlock) (hat : v'.ownBlock = v.ownBlock ∨ v'.ownBlock = some w.heap.size) : PartN w' v' u p := by
  obtain ⟨A, cap, hu, h1, h2, h3, h4⟩ := h
  refine ⟨A, cap, hu, h1, h2, fun i hi => ?_, fun a ha => ⟨?_, Nat.lt_of_lt_of_le (h4 a ha).2 hg.size⟩⟩
  · obtain ⟨b, off, vs, hA, hb, hR, hc⟩ := h3 i hi
    refine ⟨b, off, vs, hA, Nat.lt_of_lt_of_le hb hg.size, hR, fun j hj => ?_⟩
    have hne := (h4 _ hA).1
    rw [World.cell?_of_block (w := w) (hg.block b hb (fun e => hne e.symm))]
    exact hc j hj
  · obtain ⟨h5, h6⟩ := h4 a ha
    rcases hat with e | e
    · rw [e]; exact h5
    · rw [e]; intro e'; have := Option.some.inj e'; omega
theorem RowP.below {w w' : World} {base : Nat} {v : Value} {acc : List (List UInt8)} (h : RowP w base v acc) (hb : Below w.heap.size w w') : RowP w' base v acc := by
  obtain ⟨vs, h1, h2, h3⟩ := h
  exact ⟨vs, own_below h1 hb, h2, fun i hi => by obtain ⟨u, hu, hp⟩ := h3 i hi; exact ⟨u, hu, hp.below hb⟩⟩
theorem RowP.push {w w' : World} {base : Nat} {v v' u : Value} {vs : List Value} {acc : List (List UInt8)} {p : List UInt8} (h2 : vs.length = acc.length) (h3 : ∀ i (h : i < acc.length), ∃ u, vs[i]? = some u ∧ PartN w v u acc[i])
    (hu : PartN w v u p) (hrow : w'.ownsRow base 23 1 v' (acc.length + 1) (vs ++ [u])) (hg : w.grownBy w' v.ownBlock) (hat : v'.ownBlock = v.ownBlock ∨ v'.ownBlock = some w.heap.size) : RowP w' base v' (acc ++ [p]) := by
  refine ⟨vs ++ [u], by rw [List.length_append]; exact hrow, by simp [h2], fun i hi => ?_⟩
  rcases Nat.lt_or_ge i acc.length with h | h
  · obtain ⟨u', hu', hp⟩ := h3 i h
    refine ⟨u', by rw [List.getElem?_append_left (by omega)]; exact hu', ?_⟩
    rw [List.getElem_append_left h]
    exact hp.grown hg hat
  · have e : i = acc.length := by simp at hi; omega
    subst e
    refine ⟨u, by rw [← h2]; simp, ?_⟩
    rw [List.getElem_append_right (Nat.le_refl _)]
    simpa using hu.grown hg hat
theorem RowP.parts {w : World} {base : Nat} {v : Value} {acc : List (List UInt8)} (h : RowP w base v acc) : ∃ A cap, v = .slice A acc.length cap ∧ acc.length ≤ cap ∧ cap ≤ maxLen ∧ PartsAt w w.heap.size A acc := by
  obtain ⟨vs, h1, h2, h3⟩ := h
  obtain ⟨A, cap, hv, hn, hm, hA, hc⟩ := own_form h1
  refine ⟨A, cap, hv, hn, hm, fun i hi => ?_⟩
  obtain ⟨u, hu, A', cap', rfl, k1, k2, k3, _⟩ := h3 i hi
  obtain ⟨b, hA', _, hb, hcell⟩ := hc i _ hu
  refine ⟨b, 0, [.slice A' acc[i].length cap'], hA', hb, ⟨A', cap', rfl, k1, k2, k3⟩, fun j hj => ?_⟩
  have hj0 : j = 0 := by simpa using hj
  subst hj0
  simpa using hcell
theorem parts_info : (Try.prog.info? 23).map (fun i => (i.zero, i.size, i.bytes)) = some (some (.slice none 0 0), 1, 24) := by kernel_rfl
end Go.Proofs.Ytfmbigokdeplmaa
