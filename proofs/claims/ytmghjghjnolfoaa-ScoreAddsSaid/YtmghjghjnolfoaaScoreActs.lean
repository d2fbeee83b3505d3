/- Books behind whole lists of acts; the document's examples. -/
import Derived.Test.YtmghjghjnolfoaaScore
namespace Go.Proofs.Ytmghjghjnolfoaa
open Go.RowKit Go.Deep
attribute [local go_sem ↓] Go.wp_at_zero Go.wp_at_succ

def scoreOf (f : Lines) (p : Int) : Int := if 0 ≤ p ∧ p < 64 then (f p.toNat).pts else 0
def untilOf (f : Lines) (p : Int) : Int := if 0 ≤ p ∧ p < 64 then (f p.toNat).til else 0
/-- a book behind a fault, behind forgiving -/
def blF (f : Lines) (p pts now : Int) : Lines := if (0 ≤ p ∧ p < 64) ∧ 0 ≤ pts then setLine f p.toNat (blLine (f p.toNat) pts now) else f
def fgF (f : Lines) (p : Int) : Lines := if 0 ≤ p ∧ p < 64 then setLine f p.toNat ⟨0, (f p.toNat).til⟩ else f
def blR (f : Lines) (p pts : Int) : Bool := if (0 ≤ p ∧ p < 64) ∧ 0 ≤ pts then blOver (f p.toNat) pts else false
def blE (p pts : Int) : Int := if (0 ≤ p ∧ p < 64) ∧ 0 ≤ pts then 0 else 2
def fgE (p : Int) : Int := if 0 ≤ p ∧ p < 64 then 0 else 2
theorem blF_ok {f : Lines} (h : OkLines f) (p pts now : Int) (hn : 0 ≤ now) : OkLines (blF f p pts now) := by
  unfold blF
  split
  · rename_i c
    exact setLine_ok h (blLine_ok (h _ (by omega)) c.2 hn)
  · exact h
theorem fgF_ok {f : Lines} (h : OkLines f) (p : Int) : OkLines (fgF f p) := by
  unfold fgF
  split
  · have := h p.toNat (by omega)
    exact setLine_ok h ⟨by simp, by simp, this.t0, this.t1⟩
  · exact h
theorem zero_ok : OkLines (fun _ => ⟨0, 0⟩) := fun _ _ => ⟨by simp, by simp, by simp, by simp⟩

section
variable (b : Nat) (p : Int) (w : World) (f : Lines)
theorem score_any (h : IsBook w b f) :
    Calls Try.prog 13 #[.pointer (some ⟨b, 0, none⟩), .int .i64 p] w fun r w' => r = .returned (.int .i64 (scoreOf f p)) ∧ w = w' := by
  unfold scoreOf
  split
  · rename_i c; exact score_in b p w f c.1 c.2 h
  · exact score_out b p w (by omega)
theorem until_any (h : IsBook w b f) :
    Calls Try.prog 14 #[.pointer (some ⟨b, 0, none⟩), .int .i64 p] w fun r w' => r = .returned (.int .u64 (untilOf f p)) ∧ w = w' := by
  unfold untilOf
  split
  · rename_i c; exact until_in b p w f c.1 c.2 h
  · exact until_out b p w (by omega)
theorem banned_any (now : Int) (hn : 0 ≤ now) (h : IsBook w b f) :
    Calls Try.prog 15 #[.pointer (some ⟨b, 0, none⟩), .int .i64 p, .int .u64 now] w fun r w' => r = .returned (.bool (decide (now < untilOf f p))) ∧ w = w' := by
  unfold untilOf
  split
  · rename_i c; exact banned_in b p w f now c.1 c.2 h
  · rw [decide_eq_false (by omega)]
    exact banned_out b p w now hn (by omega)
theorem blame_any (pts now : Int) (hn : 0 ≤ now) (hn' : now ≤ 18446744073709551615) (h : IsBook w b f) (ok : OkLines f) :
    Calls Try.prog 16 #[.pointer (some ⟨b, 0, none⟩), .int .i64 p, .int .i64 pts, .int .u64 now] w fun r w' =>
      r = .returned (.tuple #[.bool (blR f p pts), .int .i64 (blE p pts)]) ∧ IsBook w' b (blF f p pts now) ∧ Kp (· = b) w w' := by
  unfold blR blE blF
  by_cases c : 0 ≤ p ∧ p < 64
  · by_cases d : 0 ≤ pts
    · simp only [c, d, and_self, if_true]
      exact blame_in b p w f pts now c.1 c.2 d hn hn' h ok
    · rw [if_neg (fun e => d e.2), if_neg (fun e => d e.2), if_neg (fun e => d e.2)]
      exact (blame_neg b p w pts now c.1 c.2 (by omega)).mono fun e w' ⟨he, hw⟩ => ⟨he, hw ▸ h, hw ▸ Kp.refl _ _⟩
  · rw [if_neg (fun e => c e.1), if_neg (fun e => c e.1), if_neg (fun e => c e.1)]
    exact (blame_out b p w pts now (by omega)).mono fun e w' ⟨he, hw⟩ => ⟨he, hw ▸ h, hw ▸ Kp.refl _ _⟩
theorem forgive_any (h : IsBook w b f) :
    Calls Try.prog 17 #[.pointer (some ⟨b, 0, none⟩), .int .i64 p] w fun r w' =>
      r = .returned (.int .i64 (fgE p)) ∧ IsBook w' b (fgF f p) ∧ Kp (· = b) w w' := by
  unfold fgE fgF
  by_cases c : 0 ≤ p ∧ p < 64
  · rw [if_pos c, if_pos c]
    exact forgive_in b p w f c.1 c.2 h
  · rw [if_neg c, if_neg c]
    exact (forgive_out b p w (by omega)).mono fun e w' ⟨he, hw⟩ => ⟨he, hw ▸ h, hw ▸ Kp.refl _ _⟩
end

/-- what a fault costs -/
def costOf (e : Int) : Int := if e = 6 ∨ e = 5 ∨ e = 11 ∨ e = 12 ∨ e = 13 then 100 else if e = 7 ∨ e = 21 then 50 else if e = 4 ∨ e = 9 ∨ e = 8 then 20 else if e = 20 then 10 else 0

/-- An act as data. -/
structure ActD where
  kind : Int
  peer : Int
  pts : Int
  now : Int
def ActD.Ok (a : ActD) : Prop := 0 ≤ a.now ∧ a.now ≤ 18446744073709551615
/-- the cells of an act -/
def IsAct (vs : List Value) (a : ActD) : Prop := a.Ok ∧ vs = [.int .i64 a.kind, .int .i64 a.peer, .int .i64 a.pts, .int .u64 a.now]
/-- from A on there lie these acts -/
abbrev ActsAt (w : World) (B : Nat) (A : Option Addr) (l : List ActD) : Prop := At 4 IsAct w B A l
theorem ActsAt.cells {w : World} {B : Nat} {A : Option Addr} {l : List ActD} (h : ActsAt w B A l) {i : Nat} (hi : i < l.length) : ∃ b off, A = some ⟨b, off, none⟩ ∧ b < B ∧ l[i].Ok ∧ w.cell? ⟨b, off + i * 4, none⟩ = some (.int .i64 l[i].kind) ∧ w.cell? ⟨b, off + i * 4 + 1, none⟩ = some (.int .i64 l[i].peer) ∧
    w.cell? ⟨b, off + i * 4 + 2, none⟩ = some (.int .i64 l[i].pts) ∧ w.cell? ⟨b, off + i * 4 + 3, none⟩ = some (.int .u64 l[i].now) := by
  obtain ⟨b, off, vs, hA, hb, ⟨hok, rfl⟩, hc⟩ := h i hi
  exact ⟨b, off, hA, hb, hok, hc 0 (by simp), hc 1 (by simp), hc 2 (by simp), hc 3 (by simp)⟩
theorem ActsAt.ok {w : World} {B : Nat} {A : Option Addr} {l : List ActD} (h : ActsAt w B A l) : ∀ a ∈ l, a.Ok := by
  intro a ha
  obtain ⟨i, hi, rfl⟩ := List.getElem_of_mem ha
  obtain ⟨_, _, _, _, _, ⟨hok, _⟩, _⟩ := h i hi
  exact hok
def stepAct (f : Lines) (a : ActD) : Lines := if a.kind = 0 then blF f a.peer a.pts a.now else if a.kind = 1 then fgF f a.peer else f
theorem stepAct_ok {f : Lines} (h : OkLines f) {a : ActD} (ha : a.Ok) : OkLines (stepAct f a) := by
  unfold stepAct
  split
  · exact blF_ok h _ _ _ ha.1
  · split
    · exact fgF_ok h _
    · exact h
def grownF (l : List ActD) : Lines := l.foldl stepAct (fun _ => ⟨0, 0⟩)
theorem grownF_ok {l : List ActD} (h : ∀ a ∈ l, a.Ok) : OkLines (grownF l) := by
  unfold grownF
  have : ∀ (l : List ActD) (f : Lines), OkLines f → (∀ a ∈ l, a.Ok) → OkLines (l.foldl stepAct f) := by
    intro l
    induction l with
    | nil => intro f hf _; exact hf
    | cons a l ih => intro f hf hl; exact ih _ (stepAct_ok hf (hl a (by simp))) (fun x hx => hl x (by simp [hx]))
  exact this l _ zero_ok h
theorem grownF_take (l : List ActD) (k : Nat) (h : k < l.length) : grownF (l.take (k + 1)) = stepAct (grownF (l.take k)) l[k] := by
  unfold grownF
  rw [List.take_succ_eq_append_getElem h, List.foldl_append]
  rfl
/-- the book behind so many acts -/
structure Grow (w0 : World) (l : List ActD) (A : Option Addr) (b k : Nat) (w : World) : Prop where
  le : k ≤ l.length
  new : w0.heap.size ≤ b
  book : IsBook w b (grownF (l.take k))
  ok : OkLines (grownF (l.take k))
  acts : ActsAt w w0.heap.size A l
  below : Below w0.heap.size w0 w
theorem Grow.step {w0 w w2 : World} {l : List ActD} {A : Option Addr} {b k : Nat} {f : Lines} {o : Obj} (g : Grow w0 l A b k w) (hk : k < l.length)
    (e : stepAct (grownF (l.take k)) l[k] = f) (hB : IsBook w2 b f) (hK : Kp (· = b) (w.alloc o) w2) : Grow w0 l A b (k + 1) w2 := by
  have hK' : Kp (· = b) w w2 := ((Kp.refl (· = b) w).alloc o).trans hK
  refine ⟨hk, g.new, ?_, ?_, g.acts.kp hK' g.below.size ?_, Kp.from_elder g.below hK' ?_⟩
  · rw [grownF_take l k hk, e]; exact hB
  · rw [grownF_take l k hk]
    exact stepAct_ok g.ok (g.acts.ok _ (List.getElem_mem hk))
  · intro i hi e'
    have := g.new
    omega
  · intro i hi e'
    have := g.new
    omega
theorem stepAct_0 {f : Lines} {a : ActD} (h : (a.kind == 0) = true) : stepAct f a = blF f a.peer a.pts a.now := by
  unfold stepAct; rw [if_pos (by simpa using h)]
theorem stepAct_1 {f : Lines} {a : ActD} (h0 : (a.kind == 0) = false) (h : (a.kind == 1) = true) : stepAct f a = fgF f a.peer := by
  unfold stepAct; rw [if_neg (by simpa using h0), if_pos (by simpa using h)]
theorem stepAct_2 {f : Lines} {a : ActD} (h0 : (a.kind == 0) = false) (h : (a.kind == 1) = false) : stepAct f a = f := by
  unfold stepAct; rw [if_neg (by simpa using h0), if_neg (by simpa using h)]

set_option maxHeartbeats 1000000 in
theorem grown_any (w : World) (l : List ActD) (A : Option Addr) (cap : Nat) (hl : l.length ≤ 1000) (h : ActsAt w w.heap.size A l) :
    Calls Try.prog 12 #[.slice A l.length cap] w fun r w' => ∃ b, r = .returned (.pointer (some ⟨b, 0, none⟩)) ∧ w.heap.size ≤ b ∧ IsBook w' b (grownF l) ∧ Below w.heap.size w w' := by
  go_enter Try.func12, Try.ntmps12
  go_wp2_with (go_at_call 18; refine (new_book _).mono ?_; rintro e w1 ⟨b, rfl, hb0, hB, hBl⟩)
  go_loopw [9] (fun i wr => ∃ k : Nat, i = .int .i64 k ∧ Grow w l A b k wr) (fun i _ => l.length - (intOf i).toNat)
  case atStart => exact ⟨0, rfl, Nat.zero_le _, hb0, by simpa [grownF] using hB, by simpa [grownF] using zero_ok, h.below hBl, hBl⟩
  case round =>
    obtain ⟨k, rfl, g⟩ := hrel
    have gle := g.le
    by_cases hk : k < l.length
    · obtain ⟨q, off, rfl, _, aok, c1, c2, c3, c4⟩ := g.acts.cells hk
      have gb := g.book
      have gok := g.ok
      have G := Lib.hid g
      clear g hB hBl h
      go_wp2_with (first
        | (go_at_call 16; refine (blame_any b _ _ (grownF (l.take k)) _ _ aok.1 aok.2 (gb.alloc _) gok).mono ?_; rintro e w2 ⟨rfl, hB2, hK2⟩)
        | (go_at_call 17; refine (forgive_any b _ _ (grownF (l.take k)) (gb.alloc _)).mono ?_; rintro e w2 ⟨rfl, hB2, hK2⟩))
      all_goals go_roundw
      case rel => exact ⟨k + 1, by go_num, G.out.step hk (stepAct_0 (by assumption)) hB2 hK2⟩
      case measure => simp [intOf]; omega
      case rel => exact ⟨k + 1, by go_num, G.out.step hk (stepAct_1 (by assumption) (by assumption)) hB2 hK2⟩
      case measure => simp [intOf]; omega
      case rel => exact ⟨k + 1, by go_num, G.out.step hk (stepAct_2 (by assumption) (by assumption)) (gb.alloc _) (Kp.refl _ _)⟩
      case measure => simp [intOf]; omega
    · go_wp2
      go_ret
      have e : l.take k = l := List.take_of_length_le (by omega)
      have hb := g.book
      rw [e] at hb
      exact ⟨b, rfl, hb0, hb, g.below⟩

set_option maxHeartbeats 400000 in
theorem cost_any (e : Int) (w : World) :
    Calls Try.prog 10 #[.int .i64 e] w fun r w' => r = .returned (.int .i64 (costOf e)) ∧ w = w' := by
  go_enter Try.func10, Try.ntmps10
  go_wp2
  all_goals
    go_ret
    refine ⟨congrArg (fun x => Ending.returned (.int .i64 x)) ?_, rfl⟩
    simp only [beq_iff_eq, beq_eq_false_iff_ne] at *
    unfold costOf
    (repeat' split) <;> first | rfl | omega
set_option maxHeartbeats 400000 in
theorem refcost_any (e : Int) (w : World) :
    Calls Try.prog 11 #[.int .i64 e] w fun r w' => r = .returned (.int .i64 (costOf e)) ∧ w = w' := by
  go_enter Try.func11, Try.ntmps11
  go_wp2
  all_goals
    go_ret
    refine ⟨congrArg (fun x => Ending.returned (.int .i64 x)) ?_, rfl⟩
    try simp only [beq_iff_eq, beq_eq_false_iff_ne] at *
    unfold costOf
    (repeat' split) <;> first | rfl | omega
set_option maxHeartbeats 1000000 in
/-- the document's examples are met -/
theorem alive_any (w : World) : Calls Try.prog 9 #[] w fun r w' => r = .returned (.bool true) ∧ Below w.heap.size w w' := by
  have r1 : blR (fun _ => ⟨0, 0⟩) 3 60 = false := by decide
  have r2 : blE 3 60 = 0 := by decide
  have r3 : blR (blF (fun _ => ⟨0, 0⟩) 3 60 5) 3 40 = true := by decide
  have r4 : blE 3 40 = 0 := by decide
  have r5 : scoreOf (blF (blF (fun _ => ⟨0, 0⟩) 3 60 5) 3 40 5) 3 = 0 := by decide
  have r6 : untilOf (blF (blF (fun _ => ⟨0, 0⟩) 3 60 5) 3 40 5) 3 = 3605 := by decide
  have r7 : costOf 6 = 100 := by decide
  go_enter Try.func9, Try.ntmps9
  go_wp2_with (go_at_call 18; refine (new_book _).mono ?_; rintro e w1 ⟨b, rfl, hb0, hB, hBl⟩)
  refine (blame_any b 3 _ _ 60 5 (by omega) (by omega) hB zero_ok).mono ?_
  rintro e w2 ⟨rfl, hB2, hK2⟩
  go_wp2_with fail
  refine (blame_any b 3 _ _ 40 5 (by omega) (by omega) hB2 (blF_ok zero_ok _ _ _ (by omega))).mono ?_
  rintro e w3 ⟨rfl, hB3, hK3⟩
  have hbl : Below w.heap.size w w3 := Kp.from_elder hBl (hK2.trans hK3) (by intro i hi e; omega)
  go_wp2_with (first
    | (go_at_call 13; refine (score_any b 3 w3 _ hB3).mono ?_; rintro e w' ⟨rfl, rfl⟩)
    | (go_at_call 14; refine (until_any b 3 w3 _ hB3).mono ?_; rintro e w' ⟨rfl, rfl⟩)
    | (go_at_call 15; refine (banned_any b 3 w3 _ _ (by omega) hB3).mono ?_; rintro e w' ⟨rfl, rfl⟩)
    | (go_at_call 10; refine (cost_any 6 w3).mono ?_; rintro e w' ⟨rfl, rfl⟩))
  go_ret
  exact ⟨rfl, hbl⟩
end Go.Proofs.Ytmghjghjnolfoaa
