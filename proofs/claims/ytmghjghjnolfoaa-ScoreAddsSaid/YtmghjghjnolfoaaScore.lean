/- The walks of package score (and of the calls that it makes): what each call does to a book. -/
import Derived.Test.YtmghjghjnolfoaaBase
namespace Go.Proofs.Ytmghjghjnolfoaa
open Go.RowKit Go.Deep
attribute [local go_sem ↓] Go.wp_at_zero Go.wp_at_succ

theorem addEq (x y : Int) (w : World) (hx : 0 ≤ x) (hy : 0 ≤ y) :
   (callFunc 31 #[.int .u64 x, .int .u64 y, .int .u64 0]).run Try.prog w = .ok (.value (.tuple #[.int .u64 ((x + y) % 18446744073709551616), .int .u64 ((x + y) / 18446744073709551616)])) w := by
  rw [run_callFunc_extern (e := add64Entry) Try.func31 (by kernel_rfl) (by kernel_rfl) (by kernel_rfl) (by kernel_rfl)]
  rw [run_add64 x y 0 hx hy (by omega) (by omega)]
  simp [Result.andThen]

/-- a time, and so much more -/
def later (t d : Int) : Int := min (t + d) 18446744073709551615

set_option maxHeartbeats 400000 in
theorem later1 (t d : Int) (q : Nat) (w : World) (hx : 0 ≤ t) (hx' : t ≤ 18446744073709551615) (hy : 0 ≤ d) (hy' : d ≤ 18446744073709551615)
   (hc : w.cell? ⟨q, 0, none⟩ = some (.int .u64 d)) :
    Calls Try.prog 28 #[.int .u64 t, .slice (some ⟨q, 0, none⟩) 1 1] w fun r w' => r = .returned (.int .u64 (later t d)) ∧ w = w' := by
  have ha := addEq t d w hx hy
  by_cases h : t + d ≤ 18446744073709551615
  · have h1 : (t + d) % 18446744073709551616 = t + d := by omega
    have h2 : (t + d) / 18446744073709551616 = 0 := by omega
    have h3 : later t d = t + d := by unfold later; omega
    rw [h1, h2] at ha
    rw [h3]
    clear h1 h2 h3
    go_enter Try.func28, Try.ntmps28
    go_wp2
    refine wp_loop_rounds 2 ?_
    rw [rounds_succ]
    go_wp2
    rw [rounds_succ]
    go_wp2
    go_ret
    exact ⟨rfl, rfl⟩
  · have h2 : (t + d) / 18446744073709551616 = 1 := by omega
    have h3 : later t d = 18446744073709551615 := by unfold later; omega
    rw [h2] at ha
    rw [h3]
    clear h2 h3
    go_enter Try.func28, Try.ntmps28
    go_wp2
    refine wp_loop_rounds 2 ?_
    rw [rounds_succ]
    go_wp2
    go_ret
    exact ⟨rfl, rfl⟩

set_option maxHeartbeats 400000 in
theorem line_in (b : Nat) (p : Int) (w : World) (h0 : 0 ≤ p) (h1 : p < 64) :
    Calls Try.prog 27 #[.pointer (some ⟨b, 0, none⟩), .int .i64 p] w fun r w' => r = .returned (.pointer (some ⟨b, p.toNat * 2, none⟩)) ∧ w = w' := by
  go_enter Try.func27, Try.ntmps27
  go_wp2
  go_ret
  exact ⟨rfl, rfl⟩
set_option maxHeartbeats 400000 in
theorem line_out (b : Nat) (p : Int) (w : World) (h0 : p < 0 ∨ 64 ≤ p)  :
    Calls Try.prog 27 #[.pointer (some ⟨b, 0, none⟩), .int .i64 p] w fun r w' => r = .returned (.pointer none) ∧ w = w' := by
  rcases h0 with h | h
  · go_enter Try.func27, Try.ntmps27
    go_wp2
    go_ret
    exact ⟨rfl, rfl⟩
  · have h' : ¬ (p < 0) := by omega
    go_enter Try.func27, Try.ntmps27
    go_wp2
    go_ret
    exact ⟨rfl, rfl⟩

/-- what a peer's line says: points, and till when it is banned -/
structure Line where
  pts : Int
  til : Int
/-- a book's lines, by the peer's number -/
abbrev Lines := Nat → Line
structure Line.Ok (l : Line) : Prop where
  p0 : 0 ≤ l.pts
  p1 : l.pts < 100
  t0 : 0 ≤ l.til
  t1 : l.til ≤ 18446744073709551615
/-- block b is a book with these lines -/
structure IsBook (w : World) (b : Nat) (f : Lines) : Prop where
  lt : b < w.heap.size
  pts : ∀ i, i < 64 → w.cell? ⟨b, i * 2, none⟩ = some (.int .i64 (f i).pts)
  til : ∀ i, i < 64 → w.cell? ⟨b, i * 2 + 1, none⟩ = some (.int .u64 (f i).til)
  fr : ∀ o, w.frozen? ⟨b, o, none⟩ = false
/-- numbers that a book may hold -/
def OkLines (f : Lines) : Prop := ∀ i, i < 64 → (f i).Ok
def setLine (f : Lines) (p : Nat) (l : Line) : Lines := fun i => if i = p then l else f i
theorem setLine_same (f : Lines) (p : Nat) (l : Line) : setLine f p l p = l := by simp [setLine]
theorem setLine_other (f : Lines) (p : Nat) (l : Line) {i : Nat} (h : i ≠ p) : setLine f p l i = f i := by simp [setLine, h]

namespace IsBook
variable {w w' : World} {b : Nat} {f : Lines}
theorem kp {S : Nat → Prop} (h : IsBook w b f) (k : Kp S w w') (hn : ¬ S b) : IsBook w' b f :=
  ⟨Nat.lt_of_lt_of_le h.lt k.size, fun i hi => (k.cell (p := ⟨b, i * 2, none⟩) h.lt hn).trans (h.pts i hi), fun i hi => (k.cell (p := ⟨b, i * 2 + 1, none⟩) h.lt hn).trans (h.til i hi),
    fun o => (k.frozen (p := ⟨b, o, none⟩) h.lt hn).trans (h.fr o)⟩
theorem drew (h : IsBook w b f) : IsBook w.drew b f := ⟨h.lt, h.pts, h.til, h.fr⟩
theorem alloc (h : IsBook w b f) (o : Obj) : IsBook (w.alloc o) b f := h.kp ((Kp.refl (fun _ => False) w).alloc o) (fun x => x)
theorem setPts (h : IsBook w b f) {p : Nat} (x : Int) : IsBook (w.setCell ⟨b, p * 2, none⟩ (.int .i64 x)) b (setLine f p ⟨x, (f p).til⟩) where
  lt := by simpa using h.lt
  pts := fun i hi => by
    by_cases e : i = p
    · subst e; rw [setLine_same]; exact World.cell?_setCell_same _ _ _ (h.pts i hi)
    · rw [setLine_other _ _ _ e, World.cell?_setCell_other _ _ _ _ (by intro e'; injection e'; omega)]; exact h.pts i hi
  til := fun i hi => by
    rw [World.cell?_setCell_other _ _ _ _ (by intro e'; injection e'; omega)]
    by_cases e : i = p
    · subst e; rw [setLine_same]; exact h.til i hi
    · rw [setLine_other _ _ _ e]; exact h.til i hi
  fr := fun o => by rw [World.frozen?_setCell]; exact h.fr o
theorem setTil (h : IsBook w b f) {p : Nat} (x : Int) : IsBook (w.setCell ⟨b, p * 2 + 1, none⟩ (.int .u64 x)) b (setLine f p ⟨(f p).pts, x⟩) where
  lt := by simpa using h.lt
  til := fun i hi => by
    by_cases e : i = p
    · subst e; rw [setLine_same]; exact World.cell?_setCell_same _ _ _ (h.til i hi)
    · rw [setLine_other _ _ _ e, World.cell?_setCell_other _ _ _ _ (by intro e'; injection e'; omega)]; exact h.til i hi
  pts := fun i hi => by
    rw [World.cell?_setCell_other _ _ _ _ (by intro e'; injection e'; omega)]
    by_cases e : i = p
    · subst e; rw [setLine_same]; exact h.pts i hi
    · rw [setLine_other _ _ _ e]; exact h.pts i hi
  fr := fun o => by rw [World.frozen?_setCell]; exact h.fr o
theorem congr (h : IsBook w b f) {g : Lines} (e : ∀ i, i < 64 → g i = f i) : IsBook w b g :=
  ⟨h.lt, fun i hi => by rw [e i hi]; exact h.pts i hi, fun i hi => by rw [e i hi]; exact h.til i hi, h.fr⟩
end IsBook

/-- the cells of a new book -/
def zeroBook : Array Value := ((List.range 128).map fun i => if i % 2 = 0 then Value.int .i64 0 else Value.int .u64 0).toArray
theorem zero_book (w : World) : (zeroValue 62).run Try.prog w = .ok (.agg zeroBook) w := by kernel_rfl
theorem zeroBook_pts (i : Nat) (h : i < 64) : zeroBook[i * 2]? = some (.int .i64 0) := by
  have e : i * 2 % 2 = 0 := by omega
  have e' : i * 2 < 128 := by omega
  simp [zeroBook, e, e']
theorem zeroBook_til (i : Nat) (h : i < 64) : zeroBook[i * 2 + 1]? = some (.int .u64 0) := by
  have e : (i * 2 + 1) % 2 = 1 := by omega
  have e' : i * 2 + 1 < 128 := by omega
  simp [zeroBook, e, e']
set_option maxHeartbeats 400000 in
theorem new_book (w : World) : Calls Try.prog 18 #[] w fun r w' => ∃ b, r = .returned (.pointer (some ⟨b, 0, none⟩)) ∧ w.heap.size ≤ b ∧ IsBook w' b (fun _ => ⟨0, 0⟩) ∧ Below w.heap.size w w' := by
  have hz := zero_book
  go_enter Try.func18, Try.ntmps18
  go_wp2
  go_ret
  refine ⟨w.heap.size, rfl, Nat.le_refl _, ⟨by simp, ?_, ?_, ?_⟩, (Below.refl _ _).alloc (Nat.le_refl _) _⟩
  · intro i hi
    rw [World.cell?_alloc_new]
    exact zeroBook_pts i hi
  · intro i hi
    rw [World.cell?_alloc_new]
    exact zeroBook_til i hi
  · intro o; exact World.frozen?_alloc_new _ _ _ _

def blOver (l : Line) (pts : Int) : Bool := decide (100 ≤ l.pts + min pts 100)
/-- a line behind a fault -/
def blLine (l : Line) (pts now : Int) : Line := if blOver l pts then ⟨0, max l.til (later now 3600)⟩ else ⟨l.pts + min pts 100, l.til⟩
theorem blLine_ok {l : Line} (h : l.Ok) {pts now : Int} (hp : 0 ≤ pts) (hn : 0 ≤ now) : (blLine l pts now).Ok := by
  have := h.p0; have := h.p1; have := h.t0; have := h.t1
  unfold blLine blOver later
  split
  · exact ⟨by simp, by simp, by simp; omega, by simp; omega⟩
  · rename_i h'
    simp at h'
    exact ⟨by simp; omega, by simp; omega, by simp; omega, by simp; omega⟩
theorem setLine_ok {f : Lines} (h : OkLines f) {p : Nat} {l : Line} (hl : l.Ok) : OkLines (setLine f p l) := by
  intro i hi
  by_cases e : i = p
  · subst e; rw [setLine_same]; exact hl
  · rw [setLine_other _ _ _ e]; exact h i hi

section
variable (b : Nat) (p : Int) (w : World) (f : Lines)

set_option maxHeartbeats 400000 in
theorem score_in (h0 : 0 ≤ p) (h1 : p < 64) (h : IsBook w b f) :
    Calls Try.prog 13 #[.pointer (some ⟨b, 0, none⟩), .int .i64 p] w fun r w' => r = .returned (.int .i64 (f p.toNat).pts) ∧ w = w' := by
  have hc := h.pts p.toNat (by omega)
  go_enter Try.func13, Try.ntmps13
  go_wp2_with (go_at_call 27; refine (line_in _ _ _ h0 h1).mono ?_; rintro e w' ⟨rfl, rfl⟩)
  go_ret
  exact ⟨rfl, rfl⟩
set_option maxHeartbeats 400000 in
theorem until_in (h0 : 0 ≤ p) (h1 : p < 64) (h : IsBook w b f) :
    Calls Try.prog 14 #[.pointer (some ⟨b, 0, none⟩), .int .i64 p] w fun r w' => r = .returned (.int .u64 (f p.toNat).til) ∧ w = w' := by
  have hc := h.til p.toNat (by omega)
  go_enter Try.func14, Try.ntmps14
  go_wp2_with (go_at_call 27; refine (line_in _ _ _ h0 h1).mono ?_; rintro e w' ⟨rfl, rfl⟩)
  go_ret
  exact ⟨rfl, rfl⟩
set_option maxHeartbeats 400000 in
theorem banned_in (now : Int) (h0 : 0 ≤ p) (h1 : p < 64) (h : IsBook w b f) :
    Calls Try.prog 15 #[.pointer (some ⟨b, 0, none⟩), .int .i64 p, .int .u64 now] w fun r w' => r = .returned (.bool (decide (now < (f p.toNat).til))) ∧ w = w' := by
  go_enter Try.func15, Try.ntmps15
  go_wp2_with (go_at_call 14; refine (until_in _ _ _ f h0 h1 h).mono ?_; rintro e w' ⟨rfl, rfl⟩)
  go_ret
  exact ⟨rfl, rfl⟩
set_option maxHeartbeats 400000 in
theorem score_out (h0 : p < 0 ∨ 64 ≤ p) :
    Calls Try.prog 13 #[.pointer (some ⟨b, 0, none⟩), .int .i64 p] w fun r w' => r = .returned (.int .i64 0) ∧ w = w' := by
  go_enter Try.func13, Try.ntmps13
  go_wp2_with (go_at_call 27; refine (line_out _ _ _ h0).mono ?_; rintro e w' ⟨rfl, rfl⟩)
  go_ret
  exact ⟨rfl, rfl⟩
set_option maxHeartbeats 400000 in
theorem until_out (h0 : p < 0 ∨ 64 ≤ p) :
    Calls Try.prog 14 #[.pointer (some ⟨b, 0, none⟩), .int .i64 p] w fun r w' => r = .returned (.int .u64 0) ∧ w = w' := by
  go_enter Try.func14, Try.ntmps14
  go_wp2_with (go_at_call 27; refine (line_out _ _ _ h0).mono ?_; rintro e w' ⟨rfl, rfl⟩)
  go_ret
  exact ⟨rfl, rfl⟩
set_option maxHeartbeats 400000 in
theorem banned_out (now : Int) (hn : 0 ≤ now) (h0 : p < 0 ∨ 64 ≤ p) :
    Calls Try.prog 15 #[.pointer (some ⟨b, 0, none⟩), .int .i64 p, .int .u64 now] w fun r w' => r = .returned (.bool false) ∧ w = w' := by
  go_enter Try.func15, Try.ntmps15
  go_wp2_with (go_at_call 14; refine (until_out _ _ _ h0).mono ?_; rintro e w' ⟨rfl, rfl⟩)
  go_ret
  exact ⟨congrArg (fun x => Ending.returned (.bool x)) (decide_eq_false (by omega)), rfl⟩
set_option maxHeartbeats 400000 in
theorem forgive_in (h0 : 0 ≤ p) (h1 : p < 64) (h : IsBook w b f) :
    Calls Try.prog 17 #[.pointer (some ⟨b, 0, none⟩), .int .i64 p] w fun r w' => r = .returned (.int .i64 0) ∧ IsBook w' b (setLine f p.toNat ⟨0, (f p.toNat).til⟩) ∧ Kp (· = b) w w' := by
  have hc := h.pts p.toNat (by omega)
  have hf := h.fr (p.toNat * 2)
  go_enter Try.func17, Try.ntmps17
  go_wp2_with (go_at_call 27; refine (line_in _ _ _ h0 h1).mono ?_; rintro e w' ⟨rfl, rfl⟩)
  go_ret
  exact ⟨rfl, h.setPts 0, (Kp.refl (· = b) w).setCell (fun _ => rfl) _⟩
set_option maxHeartbeats 400000 in
theorem forgive_out (h0 : p < 0 ∨ 64 ≤ p) :
    Calls Try.prog 17 #[.pointer (some ⟨b, 0, none⟩), .int .i64 p] w fun r w' => r = .returned (.int .i64 2) ∧ w = w' := by
  go_enter Try.func17, Try.ntmps17
  go_wp2_with (go_at_call 27; refine (line_out _ _ _ h0).mono ?_; rintro e w' ⟨rfl, rfl⟩)
  go_ret
  exact ⟨rfl, rfl⟩
set_option maxHeartbeats 400000 in
theorem blame_out (pts now : Int) (h0 : p < 0 ∨ 64 ≤ p) :
    Calls Try.prog 16 #[.pointer (some ⟨b, 0, none⟩), .int .i64 p, .int .i64 pts, .int .u64 now] w fun r w' => r = .returned (.tuple #[.bool false, .int .i64 2]) ∧ w = w' := by
  go_enter Try.func16, Try.ntmps16
  go_wp2_with (go_at_call 27; refine (line_out _ _ _ h0).mono ?_; rintro e w' ⟨rfl, rfl⟩)
  go_ret2
  exact ⟨rfl, rfl⟩
set_option maxHeartbeats 400000 in
theorem blame_neg (pts now : Int) (h0 : 0 ≤ p) (h1 : p < 64) (hp : pts < 0) :
    Calls Try.prog 16 #[.pointer (some ⟨b, 0, none⟩), .int .i64 p, .int .i64 pts, .int .u64 now] w fun r w' => r = .returned (.tuple #[.bool false, .int .i64 2]) ∧ w = w' := by
  go_enter Try.func16, Try.ntmps16
  go_wp2_with (go_at_call 27; refine (line_in _ _ _ h0 h1).mono ?_; rintro e w' ⟨rfl, rfl⟩)
  go_ret2
  exact ⟨rfl, rfl⟩
set_option maxHeartbeats 400000 in
theorem blame_less (pts now : Int) (h0 : 0 ≤ p) (h1 : p < 64) (hp : 0 ≤ pts) (h : IsBook w b f) (ok : OkLines f) (hs : (f p.toNat).pts + min pts 100 < 100) :
    Calls Try.prog 16 #[.pointer (some ⟨b, 0, none⟩), .int .i64 p, .int .i64 pts, .int .u64 now] w fun r w' => r = .returned (.tuple #[.bool false, .int .i64 0]) ∧ w' = w.setCell ⟨b, p.toNat * 2, none⟩ (.int .i64 ((f p.toNat).pts + pts)) := by
  have hc := h.pts p.toNat (by omega)
  have hf := h.fr (p.toNat * 2)
  have o1 := (ok p.toNat (by omega)).p0
  have o2 := (ok p.toNat (by omega)).p1
  generalize (f p.toNat).pts = x at *
  clear h ok
  go_enter Try.func16, Try.ntmps16
  go_wp2_with (go_at_call 27; refine (line_in _ _ _ h0 h1).mono ?_; rintro e w' ⟨rfl, rfl⟩)
  go_ret2
  exact ⟨rfl, rfl⟩
/-- what is stored as the time -/
def tilOf (u now : Int) : Int := if u < later now 3600 then later now 3600 else u
/-- the world behind a ban -/
def OverEnd (w : World) (b : Nat) (p x u m now : Int) (w' : World) : Prop :=
  ∃ w1, w1 = ((w.setCell ⟨b, p.toNat * 2, none⟩ (.int .i64 (x + m))).setCell ⟨b, p.toNat * 2, none⟩ (.int .i64 0)) ∧
    w' = ((w1.setCell ⟨b, p.toNat * 2 + 1, none⟩ (.int .u64 (tilOf u now))).alloc (.cells #[.int .u64 3600] 30)).drew
set_option maxHeartbeats 2000000 in
theorem blame_over (m pts now : Int) (hm : m = min pts 100) (h0 : 0 ≤ p) (h1 : p < 64) (hp : 0 ≤ pts) (hn : 0 ≤ now) (hn' : now ≤ 18446744073709551615) (h : IsBook w b f) (ok : OkLines f) (hs : 100 ≤ (f p.toNat).pts + m) :
    Calls Try.prog 16 #[.pointer (some ⟨b, 0, none⟩), .int .i64 p, .int .i64 pts, .int .u64 now] w fun r w' => r = .returned (.tuple #[.bool true, .int .i64 0]) ∧ OverEnd w b p (f p.toNat).pts (f p.toNat).til m now w' := by
  have hc := h.pts p.toNat (by omega)
  have hf := h.fr (p.toNat * 2)
  have hc' := h.til p.toNat (by omega)
  have hf' := h.fr (p.toNat * 2 + 1)
  have o1 := (ok p.toNat (by omega)).p0
  have o2 := (ok p.toNat (by omega)).p1
  have hb := h.lt
  generalize (f p.toNat).pts = x at *
  generalize (f p.toNat).til = u at *
  clear h ok
  rcases Int.lt_or_le 100 pts with hlt | hle
  · obtain rfl : m = 100 := by omega
    clear hm
    have hc2 : ((w.setCell ⟨b, p.toNat * 2, none⟩ (.int .i64 (x + 100))).setCell ⟨b, p.toNat * 2, none⟩ (.int .i64 0)).cell? ⟨b, p.toNat * 2 + 1, none⟩ = some (.int .u64 u) := by go_simp
    have hf2 : ((w.setCell ⟨b, p.toNat * 2, none⟩ (.int .i64 (x + 100))).setCell ⟨b, p.toNat * 2, none⟩ (.int .i64 0)).frozen? ⟨b, p.toNat * 2 + 1, none⟩ = false := by go_simp
    have hb2 : b < ((w.setCell ⟨b, p.toNat * 2, none⟩ (.int .i64 (x + 100))).setCell ⟨b, p.toNat * 2, none⟩ (.int .i64 0)).heap.size := by go_simp
    go_enter Try.func16, Try.ntmps16
    go_wp2_with (go_at_call 27; refine (line_in _ _ _ h0 h1).mono ?_; rintro e w' ⟨rfl, rfl⟩)
    generalize hW : ((w.setCell ⟨b, p.toNat * 2, none⟩ (.int .i64 (x + 100))).setCell ⟨b, p.toNat * 2, none⟩ (.int .i64 0)) = w2 at hc2 hf2 hb2 ⊢
    have HW := Lib.hid hW
    clear hW hc hc' hf hf'
    go_region_with (go_at_call 28; refine (later1 _ 3600 _ _ hn hn' (by omega) (by omega) (by go_simp)).mono ?_; rintro e w' ⟨rfl, rfl⟩)
    all_goals go_wp2
    all_goals go_ret2
    all_goals exact ⟨rfl, w2, HW.out.symm, by unfold tilOf; first | rw [if_pos (by omega)] | rw [if_neg (by omega)]⟩
  · obtain rfl : m = pts := by omega
    clear hm
    have hc2 : ((w.setCell ⟨b, p.toNat * 2, none⟩ (.int .i64 (x + m))).setCell ⟨b, p.toNat * 2, none⟩ (.int .i64 0)).cell? ⟨b, p.toNat * 2 + 1, none⟩ = some (.int .u64 u) := by go_simp
    have hf2 : ((w.setCell ⟨b, p.toNat * 2, none⟩ (.int .i64 (x + m))).setCell ⟨b, p.toNat * 2, none⟩ (.int .i64 0)).frozen? ⟨b, p.toNat * 2 + 1, none⟩ = false := by go_simp
    have hb2 : b < ((w.setCell ⟨b, p.toNat * 2, none⟩ (.int .i64 (x + m))).setCell ⟨b, p.toNat * 2, none⟩ (.int .i64 0)).heap.size := by go_simp
    go_enter Try.func16, Try.ntmps16
    go_wp2_with (go_at_call 27; refine (line_in _ _ _ h0 h1).mono ?_; rintro e w' ⟨rfl, rfl⟩)
    generalize hW : ((w.setCell ⟨b, p.toNat * 2, none⟩ (.int .i64 (x + m))).setCell ⟨b, p.toNat * 2, none⟩ (.int .i64 0)) = w2 at hc2 hf2 hb2 ⊢
    have HW := Lib.hid hW
    clear hW hc hc' hf hf'
    go_region_with (go_at_call 28; refine (later1 _ 3600 _ _ hn hn' (by omega) (by omega) (by go_simp)).mono ?_; rintro e w' ⟨rfl, rfl⟩)
    all_goals go_wp2
    all_goals go_ret2
    all_goals exact ⟨rfl, w2, HW.out.symm, by unfold tilOf; first | rw [if_pos (by omega)] | rw [if_neg (by omega)]⟩
/-- A fault of a peer. -/
theorem blame_in (pts now : Int) (h0 : 0 ≤ p) (h1 : p < 64) (hp : 0 ≤ pts) (hn : 0 ≤ now) (hn' : now ≤ 18446744073709551615) (h : IsBook w b f) (ok : OkLines f) :
    Calls Try.prog 16 #[.pointer (some ⟨b, 0, none⟩), .int .i64 p, .int .i64 pts, .int .u64 now] w fun r w' =>
      r = .returned (.tuple #[.bool (blOver (f p.toNat) pts), .int .i64 0]) ∧ IsBook w' b (setLine f p.toNat (blLine (f p.toNat) pts now)) ∧ Kp (· = b) w w' := by
  by_cases hs : (f p.toNat).pts + min pts 100 < 100
  · have e1 : blOver (f p.toNat) pts = false := by simp [blOver]; omega
    have e2 : blLine (f p.toNat) pts now = ⟨(f p.toNat).pts + pts, (f p.toNat).til⟩ := by
      have := (ok p.toNat (by omega)).p0
      simp [blLine, e1]; omega
    rw [e1, e2]
    refine (blame_less b p w f pts now h0 h1 hp h ok hs).mono fun e w' ⟨he, hw⟩ => ⟨he, ?_, ?_⟩
    · rw [hw]; exact h.setPts _
    · rw [hw]; exact (Kp.refl (· = b) w).setCell (fun _ => rfl) _
  · have e1 : blOver (f p.toNat) pts = true := by simp [blOver]; omega
    have e2 : blLine (f p.toNat) pts now = ⟨0, tilOf (f p.toNat).til now⟩ := by
      simp only [blLine, e1, if_true, tilOf, Line.mk.injEq, true_and]
      split <;> omega
    rw [e1, e2]
    refine (blame_over b p w f (min pts 100) pts now rfl h0 h1 hp hn hn' h ok (by omega)).mono fun e w' ⟨he, w1, h1', hw⟩ => ⟨he, ?_, ?_⟩
    · subst h1'; subst hw
      have a1 := h.setPts (p := p.toNat) ((f p.toNat).pts + min pts 100)
      have a2 := a1.setPts (p := p.toNat) 0
      have a3 := a2.setTil (p := p.toNat) (tilOf (f p.toNat).til now)
      refine ((a3.alloc _).drew).congr fun i _ => ?_
      by_cases e : i = p.toNat
      · subst e; simp [setLine]
      · simp [setLine, e]
    · subst h1'; subst hw
      exact (((((Kp.refl (· = b) w).setCell (fun _ => rfl) _).setCell (fun _ => rfl) _).setCell (fun _ => rfl) _).alloc _).drew
end
end Go.Proofs.Ytmghjghjnolfoaa
