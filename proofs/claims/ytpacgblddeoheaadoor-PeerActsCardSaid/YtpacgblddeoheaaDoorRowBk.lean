/- A row of structs that the call has made, filled one by one. -/
import Derived.Test.YtpacgblddeoheaaDoorBase
namespace Go.Proofs.YtpacgblddeoheaaDoor
open Go.RowKit Go.Deep
set_option linter.unusedVariables false
set_option linter.unusedSimpArgs false
/-- cs is a row of n elements of k cells; the first j of them are those of l -/
structure RowTo {α : Type} (f : α → List Value) (k n j : Nat) (l : List α) (cs : List Value) : Prop where
  len : cs.length = n * k
  pre : cs.take (j * k) = (l.take j).flatMap f
theorem RowTo.zero {α : Type} (f : α → List Value) (k n : Nat) (l : List α) (cs : List Value) (h : cs.length = n * k) : RowTo f k n 0 l cs := ⟨h, by simp⟩
theorem RowTo.next {α : Type} {f : α → List Value} {k n j : Nat} {l : List α} {cs : List Value} (h : RowTo f k n j l cs) (hj : j < l.length) (hn : j < n) (hf : (f l[j]).length = k) :
    RowTo f k n (j + 1) l (cs.take (j * k) ++ f l[j] ++ cs.drop (j * k + (f l[j]).length)) := by
  have hle : (j + 1) * k ≤ n * k := Nat.mul_le_mul_right _ hn
  have e : (j + 1) * k = j * k + k := by rw [Nat.add_mul, Nat.one_mul]
  have hl := h.len
  have ht : (cs.take (j * k)).length = j * k := by rw [List.length_take]; omega
  refine ⟨?_, ?_⟩
  · simp only [List.length_append, List.length_drop, ht, hf]; omega
  · rw [List.take_append_of_le_length (by rw [List.length_append, ht, hf]; omega), List.take_of_length_le (by rw [List.length_append, ht, hf]; omega), h.pre, List.take_succ_eq_append_getElem hj, List.flatMap_append, List.flatMap_singleton]
theorem RowTo.all {α : Type} {f : α → List Value} {k n : Nat} {l : List α} {cs : List Value} (h : RowTo f k n n l cs) (hn : l.length = n) : cs = l.flatMap f := by
  have := h.pre
  rwa [List.take_of_length_le (by rw [h.len]; exact Nat.le_refl _), List.take_of_length_le (by omega)] at this
theorem At.of_bk {α : Type} {k : Nat} {R : List Value → α → Prop} {w : World} {g t : Nat} (f : α → List Value) {l : List α} (hf : ∀ x ∈ l, (f x).length = k ∧ R (f x) x) (h : Bk w g t (l.flatMap f).toArray) :
    At k R w w.heap.size (some ⟨g, 0, none⟩) l := by
  intro i hi
  have hi' := hf l[i] (List.getElem_mem hi)
  refine ⟨g, 0, f l[i], rfl, h.lt, hi'.2, fun j hj => ?_⟩
  rw [Nat.zero_add, h.cell]
  simp only [List.getElem?_toArray]
  rw [flatMap_index l (fun x hx => (hf x hx).1) i hi j (by omega), List.getElem?_eq_getElem hj]
theorem bk_setCells {g t : Nat} : ∀ (vs : List Value) (o : Nat) (w : World) (cs : List Value), Bk w g t cs.toArray → o + vs.length ≤ cs.length →
    Bk (w.setCells g o vs) g t (cs.take o ++ vs ++ cs.drop (o + vs.length)).toArray
  | [], o, w, cs, h, _ => by simpa [World.setCells] using h
  | v :: vs, o, w, cs, h, hl => by
    have hl' : o + 1 + vs.length ≤ cs.length := by simp at hl; omega
    have h1 : Bk (w.setCell ⟨g, o, none⟩ v) g t (cs.set o v).toArray := by have := h.set o v; simpa using this
    have := bk_setCells vs (o + 1) _ _ h1 (by simpa using hl')
    have e : (cs.set o v).take (o + 1) ++ vs ++ (cs.set o v).drop (o + 1 + vs.length) = cs.take o ++ v :: vs ++ cs.drop (o + (v :: vs).length) := by
      rw [List.take_succ_eq_append_getElem (by rw [List.length_set]; omega), List.take_set_of_le (Nat.le_refl _), List.getElem_set_self, List.drop_set_of_lt (by omega)]
      simp [Nat.add_assoc, Nat.add_comm 1]
    rw [e] at this
    exact this
theorem below_setCells {B : Nat} {a : World} {g : Nat} (hg : B ≤ g) : ∀ (vs : List Value) (o : Nat) (w : World), Below B a w → Below B a (w.setCells g o vs)
  | [], _, _, h => h
  | v :: vs, o, w, h => below_setCells hg vs (o + 1) _ (h.setCell (p := ⟨g, o, none⟩) hg v)
theorem bk_there {w : World} {g t : Nat} {cs : List Value} (h : Bk w g t cs.toArray) (o n : Nat) (hn : o + n ≤ cs.length) : w.there g o n := fun j hj => by
  refine ⟨?_, h.frozen _⟩
  rw [h.cell]
  simp only [List.getElem?_toArray]
  rw [List.getElem?_eq_getElem (by omega)]
  rfl
theorem all_one {cs : List Value} (h : ∀ u ∈ cs, u.oneCell' = true) : cs.toArray.all (·.oneCell') = true := all_oneCell_toArray h
/-- make of a row of structs -/
theorem run_make_rows {P : Program} (t e : TypeId) (z : Value) (size bytes : Nat) (ht : P.underlying t = some (.slice e)) (hinfo : (P.info? e).map (fun i => (i.zero, i.size, i.bytes)) = some (some z, size, bytes))
    (kl kc : IntKind) (n : Nat) (hbytes : bytes * n ≤ 281474976710656) (h63 : n ≤ 9223372036854775807) (w : World) :
    (Instr.makeSlice t (.int kl (n : Int)) (.int kc (n : Int))).run P w = .ok (.slice (some ⟨w.heap.size, 0, none⟩) n n) (w.alloc (.cells (madeCells z.cells (n * size)) e)) := by
  obtain ⟨i, hi, hzz⟩ := Option.map_eq_some_iff.1 hinfo
  simp only [Prod.mk.injEq] at hzz
  obtain ⟨hz, hs, hb⟩ := hzz
  have hb' : (i.bytes : Int) * (n : Int) ≤ 281474976710656 := by
    have h : ((i.bytes * n : Nat) : Int) ≤ 281474976710656 := by rw [hb]; omega
    rwa [Int.natCast_mul] at h
  have hr := run_make (P := P) w t e i z ht hi hz kl kc n n (by omega) (Int.le_refl _) hb' (by omega)
  simp only [Int.toNat_natCast, hs] at hr
  exact hr
end Go.Proofs.YtpacgblddeoheaaDoor
