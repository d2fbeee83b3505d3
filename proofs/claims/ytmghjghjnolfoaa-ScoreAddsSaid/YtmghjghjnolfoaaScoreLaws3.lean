/- The walk of ScoreAdds. -/
import Derived.Test.YtmghjghjnolfoaaScoreRef
namespace Go.Proofs.Ytmghjghjnolfoaa
open Go.RowKit Go.Deep
set_option linter.unusedVariables false
attribute [local go_sem ↓] Go.wp_at_zero Go.wp_at_succ

/-- a book in which one peer alone has a line -/
def oneLine (p : Nat) (s t : Int) : Lines := setLine (fun _ => ⟨0, 0⟩) p ⟨s, t⟩
theorem oneLine_ok {p : Nat} {s t : Int} (hs : 0 ≤ s ∧ s < 100) (ht : 0 ≤ t ∧ t ≤ 18446744073709551615) : OkLines (oneLine p s t) := setLine_ok zero_ok ⟨hs.1, hs.2, ht.1, ht.2⟩
theorem oneLine_zero (p : Nat) : oneLine p 0 0 = fun _ => ⟨0, 0⟩ := by
  funext i; unfold oneLine setLine; split <;> rfl
theorem oneLine_set (p : Nat) (s t s' t' : Int) : setLine (oneLine p s t) p ⟨s', t'⟩ = oneLine p s' t' := by
  funext i; unfold oneLine setLine; split <;> rfl
theorem oneLine_at (p : Nat) (s t : Int) : oneLine p s t p = ⟨s, t⟩ := setLine_same _ _ _
theorem one_score {p : Int} (h0 : 0 ≤ p) (h1 : p < 64) (s t : Int) : scoreOf (oneLine p.toNat s t) p = s := by unfold scoreOf; rw [if_pos ⟨h0, h1⟩, oneLine_at]
theorem one_until {p : Int} (h0 : 0 ≤ p) (h1 : p < 64) (s t : Int) : untilOf (oneLine p.toNat s t) p = t := by unfold untilOf; rw [if_pos ⟨h0, h1⟩, oneLine_at]
theorem one_blame_less {p : Int} (h0 : 0 ≤ p) (h1 : p < 64) {s x now : Int} (hx : 0 ≤ x) (hs : 0 ≤ s) (h : s + x < 100) :
    blR (oneLine p.toNat s 0) p x = false ∧ blE p x = 0 ∧ blF (oneLine p.toNat s 0) p x now = oneLine p.toNat (s + x) 0 := by
  have e : blOver ⟨s, 0⟩ x = false := by simp [blOver]; omega
  refine ⟨?_, ?_, ?_⟩
  · unfold blR; rw [if_pos ⟨⟨h0, h1⟩, hx⟩, oneLine_at, e]
  · unfold blE; rw [if_pos ⟨⟨h0, h1⟩, hx⟩]
  · unfold blF; rw [if_pos ⟨⟨h0, h1⟩, hx⟩, oneLine_at, blLine, e]
    simp only [Bool.false_eq_true, if_false]
    rw [oneLine_set]; congr 1; omega
theorem one_blame_over {p : Int} (h0 : 0 ≤ p) (h1 : p < 64) {s x now : Int} (hx : 0 ≤ x) (hs : 0 ≤ s) (hn : 0 ≤ now) (hn' : now ≤ 4294967295) (h : 100 ≤ s + x) :
    blR (oneLine p.toNat s 0) p x = true ∧ blE p x = 0 ∧ blF (oneLine p.toNat s 0) p x now = oneLine p.toNat 0 (now + 3600) := by
  have e : blOver ⟨s, 0⟩ x = true := by simp [blOver]; omega
  refine ⟨?_, ?_, ?_⟩
  · unfold blR; rw [if_pos ⟨⟨h0, h1⟩, hx⟩, oneLine_at, e]
  · unfold blE; rw [if_pos ⟨⟨h0, h1⟩, hx⟩]
  · unfold blF; rw [if_pos ⟨⟨h0, h1⟩, hx⟩, oneLine_at, blLine, e]
    simp only [if_true, later]
    rw [oneLine_set]; congr 1; omega
theorem one_forgive {p : Int} (h0 : 0 ≤ p) (h1 : p < 64) (s : Int) : fgE p = 0 ∧ fgF (oneLine p.toNat s 0) p = fun _ => ⟨0, 0⟩ := by
  refine ⟨by unfold fgE; rw [if_pos ⟨h0, h1⟩], ?_⟩
  unfold fgF
  rw [if_pos ⟨h0, h1⟩, oneLine_at, oneLine_set, oneLine_zero]
theorem banned_none (k : Nat) : banned (fun _ => ⟨0, 0⟩) 0 k = [] := by
  unfold banned
  simp
def sumOf (l : List UInt8) : Nat := (l.map (·.toNat)).sum
theorem sumOf_take (l : List UInt8) (k : Nat) (h : k < l.length) : sumOf (l.take (k + 1)) = sumOf (l.take k) + l[k].toNat := by
  unfold sumOf
  rw [List.take_succ_eq_append_getElem h, List.map_append, List.sum_append]
  simp only [List.map_cons, List.map_nil, List.sum_cons, List.sum_nil, Nat.add_zero]
structure Adds (w0 : World) (l : List UInt8) (A : Option Addr) (p : Nat) (b k : Nat) (w : World) : Prop where
  le : k ≤ l.length
  few : sumOf (l.take k) < 100
  new : w0.heap.size ≤ b
  book : IsBook w b (oneLine p (sumOf (l.take k) : Nat) 0)
  bytes : BytesAt w w0.heap.size A l
  below : Below w0.heap.size w0 w
theorem Adds.step {w0 w w' : World} {l : List UInt8} {A : Option Addr} {p b k : Nat} (g : Adds w0 l A p b k w) (hk : k < l.length) (hs : (sumOf (l.take k) : Int) + (l[k].toNat : Int) < 100)
    (hB : IsBook w' b (oneLine p ((sumOf (l.take k) : Nat) + (l[k].toNat : Int)) 0)) (hK : Kp (· = b) w w') : Adds w0 l A p b (k + 1) w' := by
  have hn := g.new
  have e := sumOf_take l k hk
  refine ⟨hk, by omega, g.new, ?_, g.bytes.kp hK g.below.size (fun i hi e => by omega), Kp.from_elder g.below hK (fun i hi e => by omega)⟩
  rw [e, Int.natCast_add]; exact hB
set_option maxRecDepth 100000 in
set_option maxHeartbeats 4000000 in
theorem scoreAdds_walk (w : World) (peer : Int) (wp : (Lit.int .u8 peer).wf = true) (A : Option Addr) (n cap : Nat) (l : List UInt8) (hl : l.length = n) (_hc : n ≤ cap) (hm : cap ≤ maxLen) (hat : BytesAt w w.heap.size A l) (now : Int) (wn : (Lit.int .u32 now).wf = true) :
    Calls Try.prog 8 #[.int .u8 peer, .slice A n cap, .int .u32 now] w fun r w' => r = .returned (.bool true) ∧ Below w.heap.size w w' := by
  subst hl
  unfold maxLen at hm
  obtain ⟨hn0, hn1⟩ := wf_u32 wn
  obtain ⟨hp0, hp1⟩ := wf_u8 wp
  clear wn wp
  by_cases h1000 : 1000 < l.length
  · go_enter Try.func8, Try.ntmps8
    go_wp2_with (go_at_call 9; refine (alive_any _).mono ?_; rintro e w1 ⟨rfl, hb⟩)
    go_ret
    exact ⟨rfl, hb⟩
  have h1000i : l.length ≤ 1000 := by omega
  clear h1000
  have q0 : 0 ≤ peer % 64 := by omega
  have q1 : peer % 64 < 64 := by omega
  go_enter Try.func8, Try.ntmps8
  go_wp2_with (first
    | (go_at_call 9; refine (alive_any _).mono ?_; rintro e w1 ⟨rfl, hb⟩)
    | (go_at_call 18; refine (new_book _).mono ?_; rintro e w2 ⟨b, rfl, hb0, hB, hBl⟩))
  generalize peer % 64 = p at *
  go_loopw [9, 25] (fun s i wr => ∃ k : Nat, i = .int .i64 k ∧ s = .int .i64 (sumOf (l.take k) : Nat) ∧ Adds w l A p.toNat b k wr) (fun _ i _ => l.length - (intOf i).toNat)
  case atStart =>
    have hb2 : Below w.heap.size w w2 := hb.trans (hBl.mono hb.size)
    exact ⟨0, rfl, rfl, Nat.zero_le _, by simp [sumOf], Nat.le_trans hb.size hb0, by simpa [sumOf, oneLine_zero] using hB, hat.below hb2, hb2⟩
  case round =>
    obtain ⟨k, rfl, rfl, g⟩ := hrel
    have gle := g.le
    have gb := g.book
    have gfew := g.few
    have gbl := g.below
    have gnew := g.new
    have ok : OkLines (oneLine p.toNat (sumOf (l.take k) : Nat) 0) := oneLine_ok (by omega) (by omega)
    by_cases hk : k < l.length
    · obtain ⟨q, off, rfl, _, c1⟩ := g.bytes.cell hk
      have G := Lib.hid g
      have hx1 := l[k].toNat_lt
      clear g hat hb hB hBl hb0
      generalize hs : sumOf (l.take k) = s at *
      have Hs := Lib.hid hs
      clear hs
      by_cases hov : 100 ≤ (s : Int) + (l[k].toNat : Int)
      · obtain ⟨e1, e2, e3⟩ := one_blame_over q0 q1 (s := s) (x := l[k].toNat) (by omega) (by omega) hn0 hn1 hov
        have hc := blame_any b p wr _ l[k].toNat now (by omega) (by omega) gb ok
        rw [e1, e2, e3] at hc
        have HC := Lib.hid hc
        have es := one_score q0 q1 0 (now + 3600)
        have eu := one_until q0 q1 0 (now + 3600)
        clear hc e1 e2 e3 gb ok
        go_wp2_with (first
          | (go_at_call 16; refine HC.out.mono ?_; rintro e w3 ⟨rfl, hB3, hK3⟩)
          | (go_at_call 13; refine (score_any b p w3 _ hB3).mono ?_; rintro e w' ⟨rfl, rfl⟩)
          | (go_at_call 14; refine (until_any b p w3 _ hB3).mono ?_; rintro e w' ⟨rfl, rfl⟩)
          | (go_at_call 15; refine (banned_any b p w3 _ _ (by omega) hB3).mono ?_; rintro e w' ⟨rfl, rfl⟩))
        all_goals first | (exfalso; omega) | (go_ret; exact ⟨rfl, Kp.from_elder gbl hK3 (fun i hi e => by omega)⟩)
      · obtain ⟨e1, e2, e3⟩ := one_blame_less q0 q1 (s := s) (x := l[k].toNat) (now := now) (by omega) (by omega) (by omega)
        have hc := blame_any b p wr _ l[k].toNat now (by omega) (by omega) gb ok
        rw [e1, e2, e3] at hc
        have HC := Lib.hid hc
        have es := one_score q0 q1 ((s : Int) + (l[k].toNat : Int)) 0
        have eu := one_until q0 q1 ((s : Int) + (l[k].toNat : Int)) 0
        have hle : (s : Int) + (l[k].toNat : Int) < 100 := by omega
        clear hc e1 e2 e3 gb ok hov
        go_wp2_with (first
          | (go_at_call 16; refine HC.out.mono ?_; rintro e w3 ⟨rfl, hB3, hK3⟩)
          | (go_at_call 13; refine (score_any b p w3 _ hB3).mono ?_; rintro e w' ⟨rfl, rfl⟩)
          | (go_at_call 14; refine (until_any b p w3 _ hB3).mono ?_; rintro e w' ⟨rfl, rfl⟩))
        go_roundw
        case rel => exact ⟨k + 1, by go_num, by rw [sumOf_take l k hk, Hs.out, Int.natCast_add], G.out.step hk (by rw [Hs.out]; exact hle) (by rw [Hs.out]; exact hB3) hK3⟩
        case measure => simp [intOf]; omega
    · obtain ⟨e1, e2⟩ := one_forgive q0 q1 (sumOf (l.take k) : Nat)
      have hc := forgive_any b p wr _ gb
      rw [e1, e2] at hc
      have HC := Lib.hid hc
      have es : scoreOf (fun _ => ⟨0, 0⟩) p = 0 := by unfold scoreOf; split <;> rfl
      have ebn := banned_none 64
      clear hc e1 e2 ok hat hb hB hBl
      generalize sumOf (l.take k) = s at *
      go_wp2_with (first
        | (go_at_call 17; refine HC.out.mono ?_; rintro e w3 ⟨rfl, hB3, hK3⟩)
        | (go_at_call 13; refine (score_any b p w3 _ hB3).mono ?_; rintro e w' ⟨rfl, rfl⟩)
        | (go_at_call 25; refine (list_any b 0 w3 _ (by omega) hB3).mono ?_; rintro e w4 ⟨v4, rfl, hv4, hb4⟩; rw [ebn] at hv4; obtain ⟨A4, c4, rfl, _⟩ := ints_at hv4))
      go_ret
      exact ⟨rfl, (Kp.from_elder gbl hK3 (fun i hi e => by omega)).trans (hb4.mono (by have := hK3.size; have := gbl.size; omega))⟩
end Go.Proofs.Ytmghjghjnolfoaa
