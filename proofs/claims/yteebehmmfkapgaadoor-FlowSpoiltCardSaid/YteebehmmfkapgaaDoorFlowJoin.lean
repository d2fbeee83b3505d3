/- Rows of items behind one another; cuts. -/
import Derived.Test.YteebehmmfkapgaaDoorFlowHolds
namespace Go.Proofs.YteebehmmfkapgaaDoor
open Go.RowKit Go.Deep
set_option linter.unusedVariables false
set_option linter.unusedSimpArgs false
set_option maxRecDepth 100000
attribute [local go_sem ↓] Go.wp_at_zero Go.wp_at_succ

def IsCut (vs : List Value) (k : Nat) : Prop := vs = [.int .u16 (k : Int)] ∧ k ≤ 65535
theorem isCut_open {H : Type} {enc : TypeId × Value → H} {W : World} (n : Nat) (cs : List Value) (x : DataW H × List MemPlace) (_hl : cs.length = 1)
    (h : DataW.trod enc Tryd.prog W 0 (fun _ => true) true n 36 cs = some x) : ∃ y : Nat, IsCut cs y := by
  obtain ⟨m, rfl, _, hw⟩ := DataW.trod_int Tryd.underlying36 h
  have := wf_u16 hw
  exact ⟨m.toNat, by rw [show ((m.toNat : Nat) : Int) = m by omega], by omega⟩
theorem cut_cell {w : World} {B : Nat} {A : Option Addr} {cs : List Nat} (h : At 1 IsCut w B A cs) {i : Nat} (hi : i < cs.length) : ∃ b off, A = some ⟨b, off, none⟩ ∧ b < B ∧ w.cell? ⟨b, off + i, none⟩ = some (.int .u16 (cs[i] : Int)) ∧ cs[i] ≤ 65535 := by
  obtain ⟨b, off, vs, hA, hb, ⟨rfl, hk⟩, hc⟩ := h i hi
  exact ⟨b, off, hA, hb, by simpa using hc 0 (by simp), hk⟩
theorem Flo.run_few : ∀ (n : Nat) (x : List UInt8), x.length ≤ n → (Flo.run x).1.length ≤ x.length := by
  intro n
  induction n with
  | zero => intro x hx; rw [Flo.run_short (by omega)]; simp
  | succ n ih =>
    intro x hx
    by_cases h : x.length < 24
    · rw [Flo.run_short h]; simp
    · have h' : 24 ≤ x.length := by omega
      by_cases he : (Frm.head (x.take 24)).2 = 0
      · by_cases hp : x.length - 24 < (Frm.head (x.take 24)).1.len
        · rw [Flo.run_part h' he hp]; simp
        · rw [Flo.run_whole h' he (by omega)]
          have := ih (x.drop (24 + (Frm.head (x.take 24)).1.len)) (by rw [List.length_drop]; omega)
          rw [List.length_drop] at this
          rw [List.length_cons]; omega
      · rw [Flo.run_bad h' he]; simp; omega
theorem Flo.feed_new (x : List UInt8) : Flo.feed ([], false) x = Flo.run x := rfl
/-- a piece more -/
theorem Flo.feed_next {s : List UInt8 × Bool} {l : List Flo.Item} {B r : List UInt8} (hs : Flo.St s) (h : Flo.feed ([], false) B = (l ++ (Flo.feed s r).1, (Flo.feed s r).2)) (k : Nat) :
    Flo.feed ([], false) B = ((l ++ (Flo.feed s (r.take k)).1) ++ (Flo.feed (Flo.feed s (r.take k)).2 (r.drop k)).1, (Flo.feed (Flo.feed s (r.take k)).2 (r.drop k)).2) ∧ l.length + (Flo.feed s (r.take k)).1.length ≤ B.length := by
  have e := Flo.feed_append hs (r.take k) (r.drop k)
  rw [List.take_append_drop] at e
  rw [e] at h
  simp only at h
  refine ⟨by rw [h, List.append_assoc], ?_⟩
  have hf := Flo.run_few _ B (Nat.le_refl _)
  rw [← Flo.feed_new, h] at hf
  simp only [List.length_append] at hf
  omega
/-- what lies in a row of one's own, as append wants it -/
theorem own_src {w : World} {base : Nat} {e : TypeId} {size : Nat} {v : Value} {n : Nat} {xs : List Value} (h : w.ownsRow base e size v n xs) : ∃ A cap, v = .slice A n cap ∧ n ≤ cap ∧ cap ≤ maxLen ∧ Src w A xs := by
  obtain ⟨A, cap, hv, hn, hm, _, hc⟩ := own_form h
  refine ⟨A, cap, hv, hn, hm, fun j u hu => ?_⟩
  obtain ⟨b, hA, _, _, hcell⟩ := hc j u hu
  refine ⟨⟨b, 0, none⟩, hA, ?_⟩
  have e2 : (⟨b, 0, none⟩ : Addr).add j = ⟨b, j, none⟩ := by unfold Addr.add; split <;> simp_all
  rw [e2]; exact hcell
theorem items_one {P : Nat → Prop} {w : World} {us : List Value} {l : List Flo.Item} (h1 : us.length = l.length) (h3 : ∀ i (h : i < l.length), ∃ u, us[i]? = some u ∧ KeyP P w u l[i].body) : ∀ u ∈ (l.zip us).flatMap itemPair, u.oneCell' = true := by
  intro u hu
  rw [List.mem_flatMap] at hu
  obtain ⟨⟨x, y⟩, hp, hu⟩ := hu
  obtain ⟨i, hi, hz⟩ := List.getElem_of_mem hp
  rw [List.getElem_zip] at hz
  have hl : i < l.length := by rw [List.length_zip] at hi; omega
  obtain ⟨z, hz2, A, cap, hz3, _⟩ := h3 i hl
  have hy : y = z := by
    rw [List.getElem?_eq_getElem (by omega)] at hz2
    have h2 := (Prod.mk.inj hz).2
    rw [← h2]; exact Option.some.inj hz2
  have : u ∈ itemCells x (.slice A (l[i]).body.length cap) := by
    rw [← hz3, ← hy]; exact hu
  exact itemCells_one x _ _ _ u this
theorem flat_size {us : List Value} {l : List Flo.Item} (h1 : us.length = l.length) : ((l.zip us).flatMap itemPair).length = l.length * 3 := by
  rw [flat_len, List.length_zip, h1, Nat.min_self]
/-- what was told earlier, behind a Feed that has told more -/
theorem FeedSide.after {w2 wr w3 : World} {G : Nat} {vg vl v v3 : Value} {l out : List Flo.Item} (h : FeedSide w2 G (.slice none 0 0) wr vg l v) (h3 : FeedSide wr G v w3 vl out v3) (hG : G < w2.heap.size) :
    RowT (fun i => w2.heap.size ≤ i ∧ vg.ownBlock ≠ some i ∧ v3.ownBlock ≠ some i) w2.heap.size w3 vg l := by
  refine h.row.kp h3.kp (fun i hi e => ?_) (fun i hp hlt => ⟨fun e => ?_, ?_, hp.2.1, fun e => ?_⟩)
  · rcases e with e | e
    · have := (h.row.lt i hi).1; omega
    · exact h.apart i e hi
  · rcases e with e | e
    · rcases hp.1 with h1 | h1
      · cases h1
      · omega
    · exact hp.2.2 e
  · rcases hp.1 with h1 | h1
    · cases h1
    · exact h1
  · rcases h3.own i e with h1 | h1
    · exact hp.2.2 h1
    · omega
/-- the two rows, one behind the other -/
theorem FeedSide.join {w2 wr w3 W : World} {G : Nat} {vg vl v v3 vg' : Value} {l out : List Flo.Item} {us us2 : List Value} (h : FeedSide w2 G (.slice none 0 0) wr vg l v) (h3 : FeedSide wr G v w3 vl out v3) (hv3 : ∀ i, v3.ownBlock = some i → i < w3.heap.size)
    (e1 : us.length = l.length) (e3 : ∀ i (h : i < l.length), ∃ u, us[i]? = some u ∧ KeyP (fun i => w2.heap.size ≤ i ∧ vg.ownBlock ≠ some i ∧ v3.ownBlock ≠ some i) w3 u l[i].body)
    (k1 : us2.length = out.length) (k3 : ∀ i (h : i < out.length), ∃ u, us2[i]? = some u ∧ KeyP (fun i => (v.ownBlock = some i ∨ wr.heap.size ≤ i) ∧ vl.ownBlock ≠ some i ∧ v3.ownBlock ≠ some i) w3 u out[i].body)
    (hrow : W.ownsRow w2.heap.size 52 3 vg' (l.length + out.length) ((l.zip us).flatMap itemPair ++ (out.zip us2).flatMap itemPair)) (hg : w3.grownBy W vg.ownBlock) (hat : vg'.ownBlock = vg.ownBlock ∨ vg'.ownBlock = some w3.heap.size) :
    FeedSide w2 G (.slice none 0 0) W vg' (l ++ out) v3 := by
  have hk : Kp (fun i => vg.ownBlock = some i) w3 W := (Kp.refl _ _).grown hg (fun k hk _ => hk)
  have hz2 := h.kp.size
  have hz3 := h3.kp.size
  refine ⟨RowT.push e1 e3 k1 k3 hrow hg hat (fun i hp hlt => ⟨hp.2.1, fun hn => ⟨.inr hp.1, hn, hp.2.2⟩⟩) (fun i hp hlt => ⟨fun e => ?_, fun hn => ⟨.inr ?_, hn, hp.2.2⟩⟩), fun i hi => ?_, fun i hi e => ?_, ?_⟩
  · rcases hp.1 with h1 | h1
    · exact h.apart i h1 e
    · have := (h.row.lt i e).2; omega
  · rcases hp.1 with h1 | h1
    · rcases h.own i h1 with h2 | h2
      · cases h2
      · exact h2
    · omega
  · rcases h3.own i hi with h1 | h1
    · exact h.own i h1
    · exact .inr (by omega)
  · have hlt := hv3 i hi
    rcases hat with h1 | h1
    · rw [h1] at e
      rcases h3.own i hi with h2 | h2
      · exact h.apart i h2 e
      · have := (h.row.lt i e).2; omega
    · rw [h1] at e; have := Option.some.inj e; omega
  · refine (h.kp.trans_of (h3.kp) (fun i hi e => ?_)).trans_of hk (fun i hi e => ?_)
    · rcases e with e | e
      · exact .inl e
      · rcases h.own i e with h1 | h1
        · exact .inr h1
        · omega
    · have := (h.row.lt i e).1; omega
end Go.Proofs.YteebehmmfkapgaaDoor
