/- The document's own book (pappusref19), lists of who is banned, and two lists held against one another. -/
import Derived.Test.YtmghjghjnolfoaaScoreActs
namespace Go.Proofs.Ytmghjghjnolfoaa
open Go.RowKit Go.Deep
set_option linter.unusedVariables false
attribute [local go_sem ↓] Go.wp_at_zero Go.wp_at_succ

set_option maxHeartbeats 400000 in
theorem reflater1 (t d : Int) (q : Nat) (w : World) (hx : 0 ≤ t) (hx' : t ≤ 18446744073709551615) (hy : 0 ≤ d) (hy' : d ≤ 18446744073709551615)
   (hc : w.cell? ⟨q, 0, none⟩ = some (.int .u64 d)) :
    Calls Try.prog 30 #[.int .u64 t, .slice (some ⟨q, 0, none⟩) 1 1] w fun r w' => r = .returned (.int .u64 (later t d)) ∧ w = w' := by
  by_cases h : t + d ≤ 18446744073709551615
  · have h3 : later t d = t + d := by unfold later; omega
    rw [h3]
    clear h3
    have h4 : d ≤ 18446744073709551615 - t := by omega
    go_enter Try.func30, Try.ntmps30
    go_wp2
    refine wp_loop_rounds 2 ?_
    rw [rounds_succ]
    go_wp2
    rw [rounds_succ]
    go_wp2
    go_ret
    exact ⟨rfl, rfl⟩
  · have h3 : later t d = 18446744073709551615 := by unfold later; omega
    rw [h3]
    clear h3
    have h4 : 18446744073709551615 - t < d := by omega
    go_enter Try.func30, Try.ntmps30
    go_wp2
    refine wp_loop_rounds 2 ?_
    rw [rounds_succ]
    go_wp2
    go_ret
    exact ⟨rfl, rfl⟩

/-- block b is the document's book with these lines -/
structure IsRef (w : World) (b : Nat) (f : Lines) : Prop where
  lt : b < w.heap.size
  pts : ∀ i, i < 64 → w.cell? ⟨b, i, none⟩ = some (.int .i64 (f i).pts)
  til : ∀ i, i < 64 → w.cell? ⟨b, 64 + i, none⟩ = some (.int .u64 (f i).til)
  fr : ∀ o, w.frozen? ⟨b, o, none⟩ = false
namespace IsRef
variable {w w' : World} {b : Nat} {f : Lines}
theorem kp {S : Nat → Prop} (h : IsRef w b f) (k : Kp S w w') (hn : ¬ S b) : IsRef w' b f :=
  ⟨Nat.lt_of_lt_of_le h.lt k.size, fun i hi => (k.cell (p := ⟨b, i, none⟩) h.lt hn).trans (h.pts i hi), fun i hi => (k.cell (p := ⟨b, 64 + i, none⟩) h.lt hn).trans (h.til i hi),
    fun o => (k.frozen (p := ⟨b, o, none⟩) h.lt hn).trans (h.fr o)⟩
theorem drew (h : IsRef w b f) : IsRef w.drew b f := ⟨h.lt, h.pts, h.til, h.fr⟩
theorem alloc (h : IsRef w b f) (o : Obj) : IsRef (w.alloc o) b f := h.kp ((Kp.refl (fun _ => False) w).alloc o) (fun x => x)
theorem setPts (h : IsRef w b f) {p : Nat} (x : Int) : IsRef (w.setCell ⟨b, p, none⟩ (.int .i64 x)) b (setLine f p ⟨x, (f p).til⟩) ∨ 64 ≤ p := by
  rcases Nat.lt_or_ge p 64 with hp | hp
  · left
    refine ⟨by simpa using h.lt, fun i hi => ?_, fun i hi => ?_, fun o => by rw [World.frozen?_setCell]; exact h.fr o⟩
    · by_cases e : i = p
      · subst e; rw [setLine_same]; exact World.cell?_setCell_same _ _ _ (h.pts i hi)
      · rw [setLine_other _ _ _ e, World.cell?_setCell_other _ _ _ _ (by intro e'; injection e'; omega)]; exact h.pts i hi
    · rw [World.cell?_setCell_other _ _ _ _ (by intro e'; injection e'; omega)]
      by_cases e : i = p
      · subst e; rw [setLine_same]; exact h.til i hi
      · rw [setLine_other _ _ _ e]; exact h.til i hi
  · exact .inr hp
theorem setTil (h : IsRef w b f) {p : Nat} (x : Int) : IsRef (w.setCell ⟨b, 64 + p, none⟩ (.int .u64 x)) b (setLine f p ⟨(f p).pts, x⟩) := by
  refine ⟨by simpa using h.lt, fun i hi => ?_, fun i hi => ?_, fun o => by rw [World.frozen?_setCell]; exact h.fr o⟩
  · rw [World.cell?_setCell_other _ _ _ _ (by intro e'; injection e'; omega)]
    by_cases e : i = p
    · subst e; rw [setLine_same]; exact h.pts i hi
    · rw [setLine_other _ _ _ e]; exact h.pts i hi
  · by_cases e : i = p
    · subst e; rw [setLine_same]; exact World.cell?_setCell_same _ _ _ (h.til i hi)
    · rw [setLine_other _ _ _ e, World.cell?_setCell_other _ _ _ _ (by intro e'; injection e'; omega)]; exact h.til i hi
theorem congr (h : IsRef w b f) {g : Lines} (e : ∀ i, i < 64 → g i = f i) : IsRef w b g :=
  ⟨h.lt, fun i hi => by rw [e i hi]; exact h.pts i hi, fun i hi => by rw [e i hi]; exact h.til i hi, h.fr⟩
end IsRef

theorem refpeer_any (p : Int) (w : World) :
    Calls Try.prog 29 #[.int .i64 p] w fun r w' => r = .returned (.bool (decide (0 ≤ p ∧ p < 64))) ∧ w = w' := by
  rcases Int.lt_or_le p 0 with h | h
  · rw [decide_eq_false (by omega)]
    go_enter Try.func29, Try.ntmps29
    go_wp2
    go_ret
    exact ⟨rfl, rfl⟩
  · rcases Int.lt_or_le p 64 with h' | h'
    · rw [decide_eq_true ⟨h, h'⟩]
      go_enter Try.func29, Try.ntmps29
      go_wp2
      go_ret
      exact ⟨rfl, rfl⟩
    · rw [decide_eq_false (by omega)]
      go_enter Try.func29, Try.ntmps29
      go_wp2
      go_ret
      exact ⟨congrArg (fun x => Ending.returned (.bool x)) (decide_eq_false (by omega)), rfl⟩
theorem refpeer_in (p : Int) (w : World) (h : 0 ≤ p ∧ p < 64) : Calls Try.prog 29 #[.int .i64 p] w fun r w' => r = .returned (.bool true) ∧ w = w' := by
  have := refpeer_any p w; rwa [decide_eq_true h] at this
theorem refpeer_out (p : Int) (w : World) (h : ¬ (0 ≤ p ∧ p < 64)) : Calls Try.prog 29 #[.int .i64 p] w fun r w' => r = .returned (.bool false) ∧ w = w' := by
  have := refpeer_any p w; rwa [decide_eq_false h] at this

section
variable (b : Nat) (p : Int) (w : World) (f : Lines)
set_option maxHeartbeats 400000 in
theorem refscore_any (h : IsRef w b f) :
    Calls Try.prog 21 #[.pointer (some ⟨b, 0, none⟩), .int .i64 p] w fun r w' => r = .returned (.int .i64 (scoreOf f p)) ∧ w = w' := by
  unfold scoreOf
  by_cases c : 0 ≤ p ∧ p < 64
  · rw [if_pos c]
    obtain ⟨c0, c1⟩ := c
    have hc := h.pts p.toNat (by omega)
    go_enter Try.func21, Try.ntmps21
    go_wp2_with (go_at_call 29; refine (refpeer_in _ _ ⟨c0, c1⟩).mono ?_; rintro e w' ⟨rfl, rfl⟩)
    go_ret
    exact ⟨rfl, rfl⟩
  · rw [if_neg c]
    go_enter Try.func21, Try.ntmps21
    go_wp2_with (go_at_call 29; refine (refpeer_out _ _ c).mono ?_; rintro e w' ⟨rfl, rfl⟩)
    go_ret
    exact ⟨rfl, rfl⟩
set_option maxHeartbeats 400000 in
theorem refuntil_any (h : IsRef w b f) :
    Calls Try.prog 22 #[.pointer (some ⟨b, 0, none⟩), .int .i64 p] w fun r w' => r = .returned (.int .u64 (untilOf f p)) ∧ w = w' := by
  unfold untilOf
  by_cases c : 0 ≤ p ∧ p < 64
  · rw [if_pos c]
    obtain ⟨c0, c1⟩ := c
    have hc := h.til p.toNat (by omega)
    go_enter Try.func22, Try.ntmps22
    go_wp2_with (go_at_call 29; refine (refpeer_in _ _ ⟨c0, c1⟩).mono ?_; rintro e w' ⟨rfl, rfl⟩)
    go_ret
    exact ⟨rfl, rfl⟩
  · rw [if_neg c]
    go_enter Try.func22, Try.ntmps22
    go_wp2_with (go_at_call 29; refine (refpeer_out _ _ c).mono ?_; rintro e w' ⟨rfl, rfl⟩)
    go_ret
    exact ⟨rfl, rfl⟩
set_option maxHeartbeats 400000 in
theorem refbanned_any (now : Int) (h : IsRef w b f) :
    Calls Try.prog 23 #[.pointer (some ⟨b, 0, none⟩), .int .i64 p, .int .u64 now] w fun r w' => r = .returned (.bool (decide (now < untilOf f p))) ∧ w = w' := by
  go_enter Try.func23, Try.ntmps23
  go_wp2_with (go_at_call 22; refine (refuntil_any _ _ _ f h).mono ?_; rintro e w' ⟨rfl, rfl⟩)
  go_ret
  exact ⟨rfl, rfl⟩
set_option maxHeartbeats 400000 in
theorem refforgive_any (h : IsRef w b f) :
    Calls Try.prog 20 #[.pointer (some ⟨b, 0, none⟩), .int .i64 p] w fun r w' =>
      r = .returned (.int .i64 (fgE p)) ∧ IsRef w' b (fgF f p) ∧ Kp (· = b) w w' := by
  unfold fgE fgF
  by_cases c : 0 ≤ p ∧ p < 64
  · rw [if_pos c, if_pos c]
    obtain ⟨c0, c1⟩ := c
    have hc := h.pts p.toNat (by omega)
    have hf := h.fr p.toNat
    go_enter Try.func20, Try.ntmps20
    go_wp2_with (go_at_call 29; refine (refpeer_in _ _ ⟨c0, c1⟩).mono ?_; rintro e w' ⟨rfl, rfl⟩)
    go_ret
    exact ⟨rfl, (h.setPts 0).resolve_right (by omega), (Kp.refl (· = b) w).setCell (fun _ => rfl) _⟩
  · rw [if_neg c, if_neg c]
    go_enter Try.func20, Try.ntmps20
    go_wp2_with (go_at_call 29; refine (refpeer_out _ _ c).mono ?_; rintro e w' ⟨rfl, rfl⟩)
    go_ret
    exact ⟨rfl, h, Kp.refl _ _⟩
set_option maxHeartbeats 400000 in
theorem refblame_out (pts now : Int) (c : ¬ (0 ≤ p ∧ p < 64)) :
    Calls Try.prog 19 #[.pointer (some ⟨b, 0, none⟩), .int .i64 p, .int .i64 pts, .int .u64 now] w fun r w' => r = .returned (.tuple #[.bool false, .int .i64 2]) ∧ w = w' := by
  go_enter Try.func19, Try.ntmps19
  go_wp2_with (go_at_call 29; refine (refpeer_out _ _ c).mono ?_; rintro e w' ⟨rfl, rfl⟩)
  go_ret2
  exact ⟨rfl, rfl⟩
set_option maxHeartbeats 400000 in
theorem refblame_neg (pts now : Int) (c : 0 ≤ p ∧ p < 64) (hp : pts < 0) :
    Calls Try.prog 19 #[.pointer (some ⟨b, 0, none⟩), .int .i64 p, .int .i64 pts, .int .u64 now] w fun r w' => r = .returned (.tuple #[.bool false, .int .i64 2]) ∧ w = w' := by
  obtain ⟨c0, c1⟩ := c
  go_enter Try.func19, Try.ntmps19
  go_wp2_with (go_at_call 29; refine (refpeer_in _ _ ⟨c0, c1⟩).mono ?_; rintro e w' ⟨rfl, rfl⟩)
  go_ret2
  exact ⟨rfl, rfl⟩
set_option maxHeartbeats 400000 in
theorem refblame_less (pts now : Int) (h0 : 0 ≤ p) (h1 : p < 64) (hp : 0 ≤ pts) (h : IsRef w b f) (ok : OkLines f) (hs : (f p.toNat).pts + pts < 100) :
    Calls Try.prog 19 #[.pointer (some ⟨b, 0, none⟩), .int .i64 p, .int .i64 pts, .int .u64 now] w fun r w' => r = .returned (.tuple #[.bool false, .int .i64 0]) ∧ w' = (w.setCell ⟨b, p.toNat, none⟩ (.int .i64 ((f p.toNat).pts + pts))).drew := by
  have hc := h.pts p.toNat (by omega)
  have hf := h.fr p.toNat
  have o1 := (ok p.toNat (by omega)).p0
  have o2 := (ok p.toNat (by omega)).p1
  generalize (f p.toNat).pts = x at *
  have h3 : pts < 100 - x := by omega
  clear h ok
  go_enter Try.func19, Try.ntmps19
  go_wp2_with (go_at_call 29; refine (refpeer_in _ _ ⟨h0, h1⟩).mono ?_; rintro e w' ⟨rfl, rfl⟩)
  go_region
  all_goals go_wp2
  all_goals go_ret2
  all_goals exact ⟨rfl, rfl⟩
set_option maxHeartbeats 2000000 in
theorem refblame_over (pts now : Int) (h0 : 0 ≤ p) (h1 : p < 64) (hp : 0 ≤ pts) (hn : 0 ≤ now) (hn' : now ≤ 18446744073709551615) (h : IsRef w b f) (ok : OkLines f) (hs : 100 ≤ (f p.toNat).pts + pts) :
    Calls Try.prog 19 #[.pointer (some ⟨b, 0, none⟩), .int .i64 p, .int .i64 pts, .int .u64 now] w fun r w' => r = .returned (.tuple #[.bool true, .int .i64 0]) ∧
      w' = (((w.setCell ⟨b, p.toNat, none⟩ (.int .i64 0)).setCell ⟨b, 64 + p.toNat, none⟩ (.int .u64 (tilOf (f p.toNat).til now))).alloc (.cells #[.int .u64 3600] 30)).drew := by
  have hc := h.pts p.toNat (by omega)
  have hf := h.fr p.toNat
  have hc' := h.til p.toNat (by omega)
  have hf' := h.fr (64 + p.toNat)
  have o1 := (ok p.toNat (by omega)).p0
  have o2 := (ok p.toNat (by omega)).p1
  have hb := h.lt
  generalize (f p.toNat).pts = x at *
  generalize (f p.toNat).til = u at *
  clear h ok
  have h3 : 100 - x ≤ pts := by omega
  have hc2 : (w.setCell ⟨b, p.toNat, none⟩ (.int .i64 0)).cell? ⟨b, 64 + p.toNat, none⟩ = some (.int .u64 u) := by
    rw [World.cell?_setCell_other _ _ _ _ (by intro e'; injection e'; omega)]; exact hc'
  have hf2 : (w.setCell ⟨b, p.toNat, none⟩ (.int .i64 0)).frozen? ⟨b, 64 + p.toNat, none⟩ = false := by go_simp
  have hb2 : b < (w.setCell ⟨b, p.toNat, none⟩ (.int .i64 0)).heap.size := by go_simp
  go_enter Try.func19, Try.ntmps19
  go_wp2_with (go_at_call 29; refine (refpeer_in _ _ ⟨h0, h1⟩).mono ?_; rintro e w' ⟨rfl, rfl⟩)
  generalize hW : (w.setCell ⟨b, p.toNat, none⟩ (.int .i64 0)) = w2 at hc2 hf2 hb2 ⊢
  have HW := Lib.hid hW
  clear hW hc hc' hf hf'
  go_region_with (go_at_call 30; refine (reflater1 _ 3600 _ _ hn hn' (by omega) (by omega) (by go_simp)).mono ?_; rintro e w' ⟨rfl, rfl⟩)
  all_goals go_wp2
  all_goals go_ret2
  all_goals exact ⟨rfl, by rw [HW.out]; unfold tilOf; first | rw [if_pos (by omega)] | rw [if_neg (by omega)]⟩
theorem refblame_any (pts now : Int) (hn : 0 ≤ now) (hn' : now ≤ 18446744073709551615) (h : IsRef w b f) (ok : OkLines f) :
    Calls Try.prog 19 #[.pointer (some ⟨b, 0, none⟩), .int .i64 p, .int .i64 pts, .int .u64 now] w fun r w' =>
      r = .returned (.tuple #[.bool (blR f p pts), .int .i64 (blE p pts)]) ∧ IsRef w' b (blF f p pts now) ∧ Kp (· = b) w w' := by
  unfold blR blE blF
  by_cases c : 0 ≤ p ∧ p < 64
  · by_cases d : 0 ≤ pts
    · simp only [c, d, and_self, if_true]
      have o0 := (ok p.toNat (by omega)).p0
      by_cases hs : (f p.toNat).pts + pts < 100
      · have e1 : blOver (f p.toNat) pts = false := by simp [blOver]; omega
        have e2 : blLine (f p.toNat) pts now = ⟨(f p.toNat).pts + pts, (f p.toNat).til⟩ := by simp [blLine, e1]; omega
        rw [e1, e2]
        refine (refblame_less b p w f pts now c.1 c.2 d h ok hs).mono fun e w' ⟨he, hw⟩ => ⟨he, ?_, ?_⟩
        · rw [hw]; exact ((h.setPts _).resolve_right (by omega)).drew
        · rw [hw]; exact ((Kp.refl (· = b) w).setCell (fun _ => rfl) _).drew
      · have e1 : blOver (f p.toNat) pts = true := by simp [blOver]; omega
        have e2 : blLine (f p.toNat) pts now = ⟨0, tilOf (f p.toNat).til now⟩ := by
          simp only [blLine, e1, if_true, tilOf, Line.mk.injEq, true_and]
          split <;> omega
        rw [e1, e2]
        refine (refblame_over b p w f pts now c.1 c.2 d hn hn' h ok (by omega)).mono fun e w' ⟨he, hw⟩ => ⟨he, ?_, ?_⟩
        · rw [hw]
          have a1 := (h.setPts (p := p.toNat) 0).resolve_right (by omega)
          have a2 := a1.setTil (p := p.toNat) (tilOf (f p.toNat).til now)
          refine ((a2.alloc _).drew).congr fun i _ => ?_
          by_cases e : i = p.toNat
          · subst e; simp [setLine]
          · simp [setLine, e]
        · rw [hw]; exact ((((Kp.refl (· = b) w).setCell (fun _ => rfl) _).setCell (fun _ => rfl) _).alloc _).drew
    · rw [if_neg (fun e => d e.2), if_neg (fun e => d e.2), if_neg (fun e => d e.2)]
      exact (refblame_neg b p w pts now c (by omega)).mono fun e w' ⟨he, hw⟩ => ⟨he, hw ▸ h, hw ▸ Kp.refl _ _⟩
  · rw [if_neg (fun e => c e.1), if_neg (fun e => c e.1), if_neg (fun e => c e.1)]
    exact (refblame_out b p w pts now c).mono fun e w' ⟨he, hw⟩ => ⟨he, hw ▸ h, hw ▸ Kp.refl _ _⟩
end

/-! ### Who is banned -/
theorem int_info : (Try.prog.info? 3).map (fun i => (i.zero, i.size, i.bytes)) = some (some (.int .i64 0), 1, 8) := by kernel_rfl
def banned (f : Lines) (now : Int) (k : Nat) : List Nat := (List.range k).filter fun i => decide (now < (f i).til)
def ints (l : List Nat) : List Value := l.map fun (i : Nat) => Value.int .i64 (i : Int)
theorem banned_succ (f : Lines) (now : Int) (k : Nat) : banned f now (k + 1) = banned f now k ++ (if now < (f k).til then [k] else []) := by
  unfold banned
  rw [List.range_succ, List.filter_append]
  by_cases h : now < (f k).til <;> simp [h]
theorem banned_len (f : Lines) (now : Int) (k : Nat) : (banned f now k).length ≤ k := by
  have := List.length_filter_le (fun i => decide (now < (f i).til)) (List.range k)
  simpa [banned] using this
structure Lst (w0 : World) (f : Lines) (now : Int) (v : Value) (k : Nat) (w : World) : Prop where
  le : k ≤ 64
  row : w.ownsRow w0.heap.size 3 1 v (banned f now k).length (ints (banned f now k))
  below : Below w0.heap.size w0 w
theorem Lst.keep {w0 w : World} {f : Lines} {now : Int} {v : Value} {k : Nat} (g : Lst w0 f now v k w) (hk : k < 64) (h : (f k).til ≤ now) : Lst w0 f now v (k + 1) w := by
  refine ⟨hk, ?_, g.below⟩
  rw [banned_succ, if_neg (by omega), List.append_nil]
  exact g.row
theorem Lst.add {w0 w w2 : World} {f : Lines} {now : Int} {v v' : Value} {k : Nat} {o : Obj} (g : Lst w0 f now v k w) (hk : k < 64) (h : now < (f k).til)
    (hr : w2.ownsRow w0.heap.size 3 1 v' ((banned f now k).length + 1) (ints (banned f now k) ++ [.int .i64 k])) (hg : (w.alloc o).grownBy w2 v.ownBlock) : Lst w0 f now v' (k + 1) w2 := by
  have hs := g.below.size
  refine ⟨hk, ?_, g.below.trans (((Below.refl w0.heap.size w).alloc hs o).grown hg (by simp; omega) (fun j hj => (g.row.lt j hj).1))⟩
  rw [banned_succ, if_pos h, List.length_append, List.length_singleton, ints, List.map_append]
  exact hr
set_option maxHeartbeats 1000000 in
theorem list_any (b : Nat) (now : Int) (w : World) (f : Lines) (hn : 0 ≤ now) (h : IsBook w b f) :
    Calls Try.prog 25 #[.pointer (some ⟨b, 0, none⟩), .int .u64 now] w fun r w' =>
      ∃ v, r = .returned v ∧ w'.ownsRow w.heap.size 3 1 v (banned f now 64).length (ints (banned f now 64)) ∧ Below w.heap.size w w' := by
  obtain ⟨i0, hi, hz0, hz1, hz2⟩ := info_parts int_info
  have Hi := Lib.hid hi
  have Hz := Lib.hid hz0
  have Hz1 := Lib.hid hz1
  have Hz2 := Lib.hid hz2
  clear hi hz0 hz1 hz2
  go_enter Try.func25, Try.ntmps25
  go_wp2
  go_loopw [5, 9] (fun v i wr => ∃ k : Nat, i = .int .i64 k ∧ Lst w f now v k wr) (fun _ i _ => 64 - (intOf i).toNat)
  case atStart => exact ⟨0, rfl, by omega, by simpa [banned, ints] using World.ownsRow_nil _ _ _ _, Below.refl _ _⟩
  case round =>
    obtain ⟨k, rfl, g⟩ := hrel
    by_cases hk : k < 64
    · have eu : untilOf f (k : Int) = (f k).til := by simp [untilOf]; omega
      have hBr : IsBook wr b f := h.kp (Kp.of_below (S := fun _ => False) (g.below)) (fun x => x)
      have hrow := g.row
      have hlen := banned_len f now k
      have hsz := g.below.size
      by_cases hb : now < (f k).til
      · have hd : decide (now < untilOf f (k : Int)) = true := by rw [eu]; simpa using hb
        have G := Lib.hid g
        clear g
        have hcall := banned_any b k wr f now hn hBr
        rw [hd] at hcall
        have HC := Lib.hid hcall
        clear hd eu hcall
        go_wp2_with (first
          | (go_at_call 15; refine HC.out.mono ?_; rintro e w' ⟨rfl, rfl⟩)
          | (at_builtin; refine wpList_app _ rfl (.tmp 16) (.tmp 18) _ rfl w.heap.size 3 i0 _ 1 8 Try.underlying49 Hi.out Hz.out Hz1.out Hz2.out rfl (by decide) u5 _ _ rfl (hrow.alloc _) (some ⟨wr.heap.size, 0, none⟩) 1 1 [.int .i64 k] rfl rfl (Src.at_ _ _ _ _ _ (by simp) rfl) (by simp [Value.oneCell']) (by unfold maxLen; omega) (by omega) (by simp; omega) ?_; intro v' w2 hrow2 hg2 _))
        go_roundw
        case rel => exact ⟨k + 1, by go_num, G.out.add hk hb hrow2 hg2⟩
        case measure => simp [intOf]; omega
      · have hd : decide (now < untilOf f (k : Int)) = false := by rw [eu]; simpa using hb
        have G := Lib.hid g
        clear g
        have hcall := banned_any b k wr f now hn hBr
        rw [hd] at hcall
        have HC := Lib.hid hcall
        clear hd eu hcall
        go_wp2_with (go_at_call 15; refine HC.out.mono ?_; rintro e w' ⟨rfl, rfl⟩)
        go_roundw
        case rel => exact ⟨k + 1, by go_num, G.out.keep hk hb⟩
        case measure => simp [intOf]; omega
    · obtain rfl : k = 64 := by have := g.le; omega
      have G := Lib.hid g
      clear g
      go_wp2
      go_ret
      exact ⟨_, rfl, G.out.row, G.out.below⟩
set_option maxHeartbeats 1000000 in
theorem reflist_any (b : Nat) (now : Int) (w : World) (f : Lines) (h : IsRef w b f) :
    Calls Try.prog 26 #[.pointer (some ⟨b, 0, none⟩), .int .u64 now] w fun r w' =>
      ∃ v, r = .returned v ∧ w'.ownsRow w.heap.size 3 1 v (banned f now 64).length (ints (banned f now 64)) ∧ Below w.heap.size w w' := by
  obtain ⟨i0, hi, hz0, hz1, hz2⟩ := info_parts int_info
  have Hi := Lib.hid hi
  have Hz := Lib.hid hz0
  have Hz1 := Lib.hid hz1
  have Hz2 := Lib.hid hz2
  clear hi hz0 hz1 hz2
  go_enter Try.func26, Try.ntmps26
  go_wp2
  go_loopw [5, 7] (fun v i wr => ∃ k : Nat, i = .int .i64 k ∧ Lst w f now v k wr) (fun _ i _ => 64 - (intOf i).toNat)
  case atStart => exact ⟨0, rfl, by omega, by simpa [banned, ints] using World.ownsRow_nil _ _ _ _, Below.refl _ _⟩
  case round =>
    obtain ⟨k, rfl, g⟩ := hrel
    by_cases hk : k < 64
    · have eu : untilOf f (k : Int) = (f k).til := by simp [untilOf]; omega
      have hBr : IsRef wr b f := h.kp (Kp.of_below (S := fun _ => False) (g.below)) (fun x => x)
      have hrow := g.row
      have hlen := banned_len f now k
      have hsz := g.below.size
      by_cases hb : now < (f k).til
      · have hd : decide (now < untilOf f (k : Int)) = true := by rw [eu]; simpa using hb
        have G := Lib.hid g
        clear g
        have hcall := refbanned_any b k wr f now hBr
        rw [hd] at hcall
        have HC := Lib.hid hcall
        clear hd eu hcall
        go_wp2_with (first
          | (go_at_call 23; refine HC.out.mono ?_; rintro e w' ⟨rfl, rfl⟩)
          | (at_builtin; refine wpList_app _ rfl (.tmp 14) (.tmp 16) _ rfl w.heap.size 3 i0 _ 1 8 Try.underlying49 Hi.out Hz.out Hz1.out Hz2.out rfl (by decide) u5 _ _ rfl (hrow.alloc _) (some ⟨wr.heap.size, 0, none⟩) 1 1 [.int .i64 k] rfl rfl (Src.at_ _ _ _ _ _ (by simp) rfl) (by simp [Value.oneCell']) (by unfold maxLen; omega) (by omega) (by simp; omega) ?_; intro v' w2 hrow2 hg2 _))
        go_roundw
        case rel => exact ⟨k + 1, by go_num, G.out.add hk hb hrow2 hg2⟩
        case measure => simp [intOf]; omega
      · have hd : decide (now < untilOf f (k : Int)) = false := by rw [eu]; simpa using hb
        have G := Lib.hid g
        clear g
        have hcall := refbanned_any b k wr f now hBr
        rw [hd] at hcall
        have HC := Lib.hid hcall
        clear hd eu hcall
        go_wp2_with (go_at_call 23; refine HC.out.mono ?_; rintro e w' ⟨rfl, rfl⟩)
        go_roundw
        case rel => exact ⟨k + 1, by go_num, G.out.keep hk hb⟩
        case measure => simp [intOf]; omega
    · obtain rfl : k = 64 := by have := g.le; omega
      have G := Lib.hid g
      clear g
      go_wp2
      go_ret
      exact ⟨_, rfl, G.out.row, G.out.below⟩

/-- numbers that lie from A on -/
def IsNum (vs : List Value) (x : Nat) : Prop := vs = [.int .i64 x]
theorem num_cell {w : World} {B : Nat} {A : Option Addr} {l : List Nat} (h : At 1 IsNum w B A l) {i : Nat} (hi : i < l.length) : ∃ b off, A = some ⟨b, off, none⟩ ∧ b < B ∧ w.cell? ⟨b, off + i, none⟩ = some (.int .i64 (l[i] : Nat)) := by
  obtain ⟨b, off, vs, hA, hb, rfl, hc⟩ := h i hi
  exact ⟨b, off, hA, hb, by simpa using hc 0 (by simp)⟩
theorem ints_at {w : World} {base : Nat} {v : Value} {l : List Nat} {n : Nat} (h : w.ownsRow base 3 1 v n (ints l)) : ∃ A cap, v = .slice A l.length cap ∧ At 1 IsNum w w.heap.size A l := by
  have e : ints l = l.flatMap (fun (x : Nat) => [Value.int .i64 (x : Int)]) := by unfold ints; clear h; induction l with | nil => rfl | cons x l ih => simp [ih]
  rw [e] at h
  obtain ⟨A, cap, hv, hn, _, _, ha⟩ := At.of_own (R := IsNum) (fun (x : Nat) => [Value.int .i64 (x : Int)]) (fun x _ => ⟨rfl, rfl⟩) Nat.one_pos h
  subst hn
  exact ⟨A, cap, hv, ha⟩
set_option maxHeartbeats 1000000 in
/-- two equal lists are the same -/
theorem same_ints (A A' : Option Addr) (c c' : Nat) (l : List Nat) (w : World) (hl : l.length ≤ 64) (h : At 1 IsNum w w.heap.size A l) (h' : At 1 IsNum w w.heap.size A' l) :
    Calls Try.prog 24 #[.slice A l.length c, .slice A' l.length c'] w fun r w' => r = .returned (.bool true) ∧ Below w.heap.size w w' := by
  go_enter Try.func24, Try.ntmps24
  go_wp2
  go_loopw [13] (fun i wr => ∃ k : Nat, k ≤ l.length ∧ i = .int .i64 k ∧ Below w.heap.size w wr) (fun i _ => l.length - (intOf i).toNat)
  case atStart => exact ⟨0, Nat.zero_le _, rfl, Below.refl _ _⟩
  case round =>
    obtain ⟨k, hk', rfl, hb⟩ := hrel
    by_cases hk : k < l.length
    · obtain ⟨q, off, rfl, _, c1⟩ := num_cell (h.below hb) hk
      obtain ⟨q', off', rfl, _, c2⟩ := num_cell (h'.below hb) hk
      have i1 : (0 : Int) ≤ (k : Int) := by omega
      have i2 : (k : Int) < (l.length : Int) := by omega
      generalize l[k] = x at *
      go_wp2_with fail
      go_quiet (fail)
      go_wp2_with fail
      go_roundw
      case rel => exact ⟨k + 1, by omega, by go_num, below_drewN hb _⟩
      case measure => simp [intOf]; omega
    · go_wp2
      go_ret
      exact ⟨rfl, hb⟩
end Go.Proofs.Ytmghjghjnolfoaa
