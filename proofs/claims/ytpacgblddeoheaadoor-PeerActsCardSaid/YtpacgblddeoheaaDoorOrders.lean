/- A region that draws its order: loads are taken first; what comes behind may overwrite their cells. -/
import Derived.Test.YtpacgblddeoheaaDoorBase
import Derived.OrdersHeld
import Derived.Deep.RegionHeld
import Derived.Deep.MidRow
namespace Go.Proofs.YtpacgblddeoheaaDoor
open Go.RowKit Go.Deep
set_option linter.unusedVariables false
section
variable {P : Program} {ops : Array Oper} {Q : Exit → Act → World → Prop} {md : Region.Mode}

/-- operation j comes up behind operation i -/
def waits (md : Region.Mode) (ops : Array Oper) (j i : Nat) : Bool := (ops[j]?).any fun o => o.after.any fun e => Region.binds md e && e.on == i
/-- a load: its number, block, offset, and the cells that it reads -/
abbrev Ld := Nat × Nat × Nat × List Value
/-- step j leaves alone what is read by those for which it does not wait -/
def Keeps (md : Region.Mode) (ops : Array Oper) (fs : List Ld) (j : Nat) (w w' : World) : Prop :=
  ∀ p ∈ fs, waits md ops j p.1 = false → w.rangeAt p.2.1 p.2.2.1 p.2.2.2 → w'.rangeAt p.2.1 p.2.2.1 p.2.2.2
variable {fs : List Ld}
theorem Keeps.refl (j : Nat) (w : World) : Keeps md ops fs j w w := fun _ _ _ h => h
theorem Keeps.kp {S : Nat → Prop} {j : Nat} {w w' : World} (hk : Kp S w w') (h : ∀ p ∈ fs, waits md ops j p.1 = false → ¬ S p.2.1) : Keeps md ops fs j w w' := fun p hp hw hr i v hv => by
  have hc := hr i v hv
  have hlt : p.2.1 < w.heap.size := World.block_lt_of_cell? w ⟨p.2.1, p.2.2.1 + i, none⟩ hc
  exact (hk.cell (p := ⟨p.2.1, p.2.2.1 + i, none⟩) hlt (h p hp hw)).trans hc
theorem Keeps.below {j : Nat} {w w' : World} (hb : Below w.heap.size w w') : Keeps md ops fs j w w' := Keeps.kp (Kp.of_below (S := fun _ => False) hb) (fun _ _ _ h => h)
theorem Keeps.last {j : Nat} (h : (fs.map (·.1)).all (fun i => waits md ops j i) = true) (w w' : World) : Keeps md ops fs j w w' := fun p hp hw => by
  have := List.all_eq_true.1 h p.1 (List.mem_map.2 ⟨p, hp, rfl⟩)
  rw [hw] at this
  cases this

def wpAnyL (P : Program) (md : Region.Mode) (ops : Array Oper) (Q : Exit → Act → World → Prop) (fs : List Ld) : Nat → Array Bool → Act → World → Prop
  | 0, listed, a, w => Region.ready md ops listed = [] ∧ Q .normal a w
  | fuel + 1, listed, a, w =>
    (Region.ready md ops listed = [] → Q .normal a w) ∧
    ∀ i ∈ Region.ready md ops listed, wpOp P ops Q i (fun a' w' => Keeps md ops fs i w w' ∧ wpAnyL P md ops Q fs fuel (listed.setIfInBounds i true) a' w') a w
theorem wpAny_of_L : ∀ (fuel : Nat) (listed : Array Bool) (a : Act) (w : World), wpAnyL P md ops Q fs fuel listed a w → wpAny P md ops Q fuel listed a w
  | 0, _, _, _, h => h
  | fuel + 1, _, _, _, h => ⟨h.1, fun i hi => wpOp_mono (fun a' w' h' => wpAny_of_L fuel _ a' w' h'.2) (h.2 i hi)⟩
theorem waits_not {j i : Nat} {oj : Oper} (hoj : ops[j]? = some oj) (h : ∀ e ∈ oj.after, Region.binds md e = true → e.on ≠ i) : waits md ops j i = false := by
  unfold waits
  rw [hoj]
  simp only [Option.any_some]
  rw [Array.any_eq_false]
  intro k hk hc
  rw [Bool.and_eq_true, beq_iff_eq] at hc
  exact h _ (Array.getElem_mem hk) hc.1 hc.2
theorem wpAnyL_first {i : Nat} {oi : Oper} {v : Value} {F : World → Prop} (hi : ops[i]? = some oi) (hsel : ∀ (j : Nat) (o : Oper) cs b, ops[j]? = some o → o.op ≠ .select cs b)
    (hQ : ∀ c a w, Q (.panic c) (a.put oi.dst v) w → Q (.panic c) a w) (hF : ∀ j w w', waits md ops j i = false → Keeps md ops fs j w w' → F w → F w') :
    ∀ (fuel : Nat) (listed : Array Bool) (a : Act) (w : World),
      (∀ j oj, ops[j]? = some oj → j ≠ i → listed.getD j true = false → (∀ e ∈ oj.after, Region.binds md e = true → e.on ≠ i) → oi.apart ops oj = true) →
      i ∈ Region.ready md ops listed → YieldsIf P ops F oi v a → F w →
      wpAnyL P md ops Q fs fuel (listed.setIfInBounds i true) (a.put oi.dst v) w → wpAnyL P md ops Q fs (fuel + 1) listed a w := by
  intro fuel
  induction fuel with
  | zero =>
    intro listed a w _ hr hy hS H
    refine ⟨fun h => (by rw [h] at hr; cases hr), fun j hj => ?_⟩
    by_cases hji : j = i
    · subst hji; exact hy.wpOp hi hS ⟨Keeps.refl _ _, H⟩
    · have := ready_mono hj hji
      rw [H.1] at this
      cases this
  | succ fuel ih =>
    intro listed a w hfree hr hy hS H
    refine ⟨fun h => (by rw [h] at hr; cases hr), fun j hj => ?_⟩
    by_cases hji : j = i
    · subst hji; exact hy.wpOp hi hS ⟨Keeps.refl _ _, H⟩
    · have h1 := H.2 j (ready_mono hj hji)
      obtain ⟨hjun, oj, hoj, hall⟩ := mem_ready.1 hj
      have hnot : ∀ e ∈ oj.after, Region.binds md e = true → e.on ≠ i := fun e he hb heq => by
        have h1 := hall e he hb
        have h0 := (mem_ready.1 hr).1
        rw [heq] at h1
        rcases Nat.lt_or_ge i listed.size with h' | h'
        · simp [h'] at h0 h1; rw [h0] at h1; cases h1
        · simp [Array.getElem?_eq_none h'] at h1
      have h2 := wpOp_putIf hoj (hfree j oj hoj hji hjun hnot) (fun cs b => hsel i oi cs b hi) (fun cs b => hsel j oj cs b hoj) hQ hy h1
      have hfree' : ∀ k ok, ops[k]? = some ok → k ≠ i → (listed.setIfInBounds j true).getD k true = false →
          (∀ e ∈ ok.after, Region.binds md e = true → e.on ≠ i) → oi.apart ops ok = true := fun k ok hk hki hun hno => by
        refine hfree k ok hk hki ?_ hno
        by_cases hjk : j = k
        · subst hjk; exact hjun
        · rw [getD_set_ne true hjk] at hun; exact hun
      refine wpOp_mono (fun a' w' h3 => ⟨h3.2.1, ih (listed.setIfInBounds j true) a' w' hfree' (ready_mono hr (Ne.symm hji)) h3.1 (hF j w w' (waits_not hoj hnot) h3.2.1 hS) ?_⟩) h2
      rw [Array.setIfInBounds_comm _ _ hji]
      exact h3.2.2
/-- an operation that looks at no memory -/
theorem wpAnyL_pure {i : Nat} {oi : Oper} {v : Value} {fuel : Nat} {listed : Array Bool} {a : Act} {w : World} (hi : ops[i]? = some oi)
    (hs : Region.noSelect ops = true) (hf : Region.free md ops listed i = true) (hr : (Region.ready md ops listed).contains i = true)
    (hQ : ∀ c a w, Q (.panic c) (a.put oi.dst v) w → Q (.panic c) a w) (hy : YieldsIf P ops (fun _ => True) oi v a)
    (h : wpAnyL P md ops Q fs fuel (listed.setIfInBounds i true) (a.put oi.dst v) w) : wpAnyL P md ops Q fs (fuel + 1) listed a w :=
  wpAnyL_first hi (Region.noSelect_spec hs) hQ (fun _ _ _ _ _ h => h) fuel listed a w (Region.free_spec hi hf) (by simpa using hr) hy trivial h
/-- a load of a whole struct or array -/
theorem wpAnyL_load {i : Nat} {oi : Oper} {fuel : Nat} {listed : Array Bool} {a : Act} {w : World} (b o : Nat) (cs : List Value) (hm : (i, b, o, cs) ∈ fs) (hw : w.rangeAt b o cs) (hi : ops[i]? = some oi)
    (hs : Region.noSelect ops = true) (hf : Region.free md ops listed i = true) (hr : (Region.ready md ops listed).contains i = true)
    (hQ : ∀ c a w, Q (.panic c) (a.put oi.dst (.agg cs.toArray)) w → Q (.panic c) a w) (hwt : Region.wanted oi (yielded ops a.tmps) = true) (ty : TypeId) (x : Operand) (ho : oi.op = .load ty x)
    (hx : a.eval x = .pointer (some ⟨b, o, none⟩)) (d : TypeDesc) (hu : P.underlying ty = some d) (hd : d.isRow = true) (hsz : (P.info? ty).map (·.size) = some cs.length)
    (h : wpAnyL P md ops Q fs fuel (listed.setIfInBounds i true) (a.put oi.dst (.agg cs.toArray)) w) : wpAnyL P md ops Q fs (fuel + 1) listed a w :=
  wpAnyL_first (F := fun w => w.rangeAt b o cs) hi (Region.noSelect_spec hs) hQ (fun j w w' hj hk hr => hk _ hm hj hr) fuel listed a w (Region.free_spec hi hf) (by simpa using hr)
    (yieldsIf_load_mid hwt ty x ho b o hx cs d (fun _ h => h) hu hd hsz) hw h
/-- whatever else reads those cells -/
theorem wpAnyL_read {i : Nat} {oi : Oper} {v : Value} {fuel : Nat} {listed : Array Bool} {a : Act} {w : World} (b o : Nat) (cs : List Value) (hm : (i, b, o, cs) ∈ fs) (hw : w.rangeAt b o cs) (hi : ops[i]? = some oi)
    (hs : Region.noSelect ops = true) (hf : Region.free md ops listed i = true) (hr : (Region.ready md ops listed).contains i = true)
    (hQ : ∀ c a w, Q (.panic c) (a.put oi.dst v) w → Q (.panic c) a w) (hy : YieldsIf P ops (fun w => w.rangeAt b o cs) oi v a)
    (h : wpAnyL P md ops Q fs fuel (listed.setIfInBounds i true) (a.put oi.dst v) w) : wpAnyL P md ops Q fs (fuel + 1) listed a w :=
  wpAnyL_first (F := fun w => w.rangeAt b o cs) hi (Region.noSelect_spec hs) hQ (fun j w w' hj hk hr => hk _ hm hj hr) fuel listed a w (Region.free_spec hi hf) (by simpa using hr) hy hw h
/-- one cell -/
theorem range_one {w : World} {b o : Nat} {v : Value} (h : w.cell? ⟨b, o, none⟩ = some v) : w.rangeAt b o [v] := fun j u hu => by
  cases j with
  | zero => simp at hu; subst hu; simpa using h
  | succ j => simp at hu
theorem cell_one {w : World} {b o : Nat} {v : Value} (h : w.rangeAt b o [v]) : w.cell? ⟨b, o, none⟩ = some v := by simpa using h 0 v rfl
def AllReadyL (P : Program) (md : Region.Mode) (ops : Array Oper) (Q : Exit → Act → World → Prop) (fs : List Ld) (fuel : Nat) (listed : Array Bool) (a : Act) (w : World) (rs : List Nat) : Prop :=
  ∀ i ∈ rs, wpOp P ops Q i (fun a' w' => Keeps md ops fs i w w' ∧ wpAnyL P md ops Q fs fuel (listed.setIfInBounds i true) a' w') a w
theorem AllReadyL.nil {fuel : Nat} {listed : Array Bool} {a : Act} {w : World} : AllReadyL P md ops Q fs fuel listed a w [] := fun _ h => by cases h
theorem AllReadyL.cons {fuel : Nat} {listed : Array Bool} {a : Act} {w : World} {i : Nat} {o : Oper} {rs : List Nat} (ho : ops[i]? = some o)
    (h : ∀ K' : Act → World → Prop, Shut (∀ a' w', Keeps md ops fs i w w' → wpAnyL P md ops Q fs fuel (listed.setIfInBounds i true) a' w' → K' a' w') → if Region.wanted o (yielded ops a.tmps) = true then Oper.wp P o a w K' Q else K' (a.put o.dst undef) w)
    (hs : AllReadyL P md ops Q fs fuel listed a w rs) : AllReadyL P md ops Q fs fuel listed a w (i :: rs) := fun j hj => by
  rcases List.mem_cons.1 hj with rfl | hj
  · exact wpOp_step ho (fun K' hK => h K' (fun a' w' hS hW => hK a' w' ⟨hS, hW⟩))
  · exact hs j hj
theorem wpAnyL_ready {rs : List Nat} {fuel : Nat} {listed : Array Bool} {a : Act} {w : World} (hr : Region.ready md ops listed = rs) (hne : rs ≠ [])
    (h : AllReadyL P md ops Q fs fuel listed a w rs) : wpAnyL P md ops Q fs (fuel + 1) listed a w := ⟨fun h0 => absurd (hr ▸ h0) hne, hr ▸ h⟩
theorem wpAnyL_done {listed : Array Bool} {a : Act} {w : World} (hr : Region.ready md ops listed = []) (h : Q .normal a w) : ∀ fuel, wpAnyL P md ops Q fs fuel listed a w
  | 0 => ⟨hr, h⟩
  | _ + 1 => ⟨fun _ => h, by rw [hr]; simp⟩
theorem wp_region_L {id : Nat} {a : Act} {w : World} (fs : List Ld) (hm : P.follows .mixedOrders = true)
    (h : wpAnyL P .any ops Q fs ops.size (Array.replicate ops.size false) a w.drew) : (Code.region id ops true).wp P Q a w :=
  wp_region_any hm (wpAny_of_L _ _ _ _ h)
end
end Go.Proofs.YtpacgblddeoheaaDoor
