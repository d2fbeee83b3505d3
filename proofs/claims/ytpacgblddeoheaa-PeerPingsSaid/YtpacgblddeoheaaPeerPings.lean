/- Who is ready pings, and is stopped if no pong comes. -/
import Derived.Test.YtpacgblddeoheaaPeerStops
namespace Go.Proofs.Ytpacgblddeoheaa
open Go.RowKit Go.Deep Go.Joins Go.ChangeShapes Go.WideShapes
set_option linter.unusedVariables false
set_option maxRecDepth 100000
attribute [local go_sem ↓] Go.wp_at_zero Go.wp_at_succ

theorem tickz0 (b : Nat) (d : PeerD) (z : Int) (w : World) {x : Bool} {d' : PeerD} (h : IsPeer w b d) (now : Nat) (hz : z = (now : Int)) (hb : now ≤ 5000000000000000000 ∧ d.since ≤ 5000000000000000000 ∧ d.pings ≤ 100) (hh : ticked d now = ([], x, d')) :
    Calls Try.prog 14 #[.pointer (some ⟨b, 0, none⟩), .int .u64 z] w fun e w' => ∃ A cap, e = .returned (.tuple #[.slice A 0 cap, .bool x]) ∧ IsPeer w' b d' ∧ Kp (fun i => i = b) w w' := by
  subst hz
  exact tick_say0 b d now w h (by omega) (by omega) (by omega) hh
theorem tickz1 (b : Nat) (d : PeerD) (z : Int) (w : World) {x : Bool} {d' : PeerD} {k1 n1 c1 : Nat} (h : IsPeer w b d) (now : Nat) (hz : z = (now : Int)) (hb : now ≤ 5000000000000000000 ∧ d.since ≤ 5000000000000000000 ∧ d.pings ≤ 100) (hh : ticked d now = ([(k1, n1, c1)], x, d')) :
    Calls Try.prog 14 #[.pointer (some ⟨b, 0, none⟩), .int .u64 z] w fun e w' => ∃ g cap, e = .returned (.tuple #[.slice (some ⟨g, 0, none⟩) 1 cap, .bool x]) ∧ w.heap.size ≤ g ∧ g < w'.heap.size ∧
      w'.cell? ⟨g, 0, none⟩ = some (.int .i64 k1) ∧ w'.cell? ⟨g, 1, none⟩ = some (.int .u64 n1) ∧ IsPeer w' b d' ∧ Kp (fun i => i = b) w w' := by
  subst hz
  exact tick_say1 b d now w h (by omega) (by omega) (by omega) hh
theorem later_small (s x : Nat) (h : s + x ≤ 6000000000000000000) : later (s : Int) (x : Int) = ((s + x : Nat) : Int) := by
  unfold later
  rw [Int.min_eq_left (by omega)]
  omega
theorem tk_wait (o : Bool) (n s p now : Nat) (x : Bool) (hs : s ≤ 5000000000000000000) (hx : decide (s + 60 ≤ now) = x) : ticked ⟨o, n, 2, true, s, p, true⟩ now = ([], x, ⟨o, n, 2, true, s, p, true⟩) := by
  have h := later_small s 60 (by omega)
  have e : decide (later (s : Int) 60 ≤ (now : Int)) = x := by
    rw [← hx]
    have h' : later (s : Int) 60 = ((s + 60 : Nat) : Int) := h
    rw [h']
    simp only [decide_eq_decide]
    omega
  unfold ticked; rw [if_neg (by simp), if_pos rfl]; show ([], decide (later (s : Int) 60 ≤ (now : Int)), _) = _; rw [e]
theorem tk_rest (o : Bool) (n s p now : Nat) (hs : s ≤ 5000000000000000000) (hx : now < s + 120) : ticked ⟨o, n, 2, true, s, p, false⟩ now = ([], false, ⟨o, n, 2, true, s, p, false⟩) := by
  have h : later (s : Int) 120 = ((s + 120 : Nat) : Int) := later_small s 120 (by omega)
  unfold ticked; rw [if_neg (by simp), if_neg (by simp), if_pos (by show later (s : Int) 120 > (now : Int); rw [h]; omega)]
theorem tk_ping (o : Bool) (n s p now : Nat) (hs : s ≤ 5000000000000000000) (hx : s + 120 ≤ now) : ticked ⟨o, n, 2, true, s, p, false⟩ now = ([(3, p + 1, 0)], false, ⟨o, n, 2, true, now, p + 1, true⟩) := by
  have h : later (s : Int) 120 = ((s + 120 : Nat) : Int) := later_small s 120 (by omega)
  unfold ticked; rw [if_neg (by simp), if_neg (by simp), if_neg (by show ¬ later (s : Int) 120 > (now : Int); rw [h]; omega)]
theorem heard_pong (d : PeerD) (n : Int) (hs : d.step = 2) : heard d 4 n 0 = ([], 0, true, { d with waits := d.waits && n != (d.pings : Int) }) := by
  unfold heard; rw [if_neg (by decide), if_neg (by decide), if_neg (by decide), if_neg (by omega), if_neg (by decide), if_pos rfl]
/-- the peer at the k-th round's head -/
structure PingsRel (w : World) (b : Nat) (o : Bool) (n T : Nat) (L : Int) (now i : Value) (wr : World) (k N : Nat) : Prop where
  kl : (k : Int) ≤ L
  hN : N = T + 120 * k
  hi : i = .int .u64 (k : Int)
  hnow : now = .int .u64 (N : Int)
  peer : IsPeer wr b ⟨o, n, 2, true, N, k, false⟩
  low : Below w.heap.size w wr
set_option maxHeartbeats 2000000 in
theorem peerPings_walk (w : World) (o : Bool) (n t : Nat) (hn : n ≤ 18446744073709551615) (ht : t ≤ 18446744073709551615) (m : Int) (hm : (Lit.int .u64 m).wf = true) (z : Int) (hz : (Lit.int .u8 z).wf = true) :
    Calls Try.prog 5 #[sideV o n t, .int .u64 m, .int .u8 z] w fun e w' => e = .returned (.bool true) ∧ Below w.heap.size w w' := by
  have hz := wf_u8 hz
  have hm := wf_u64 hm
  have HM := Lib.hid (fun W T => met_any W o n T hn)
  have hT : ((t : Int) % 4611686018427387904) = ((t % 4611686018427387904 : Nat) : Int) := by omega
  have hT2 : t % 4611686018427387904 < 4611686018427387904 := Nat.mod_lt _ (by decide)
  obtain ⟨T, hTe⟩ : ∃ T, T = t % 4611686018427387904 := ⟨_, rfl⟩
  rw [← hTe] at hT hT2
  have HT := Lib.hid hT
  have HT2 := Lib.hid hT2
  clear hT hT2 hTe hn ht
  unfold sideV at *
  go_enter Try.func5, Try.ntmps5
  go_wp2_with fail
  refine (alive_any _).mono ?_
  rintro e w1 ⟨rfl, hb1⟩
  have k1 := ((Bk.new w 24 #[.bool o, .int .u64 (n : Int), .int .u64 (t : Int)])).below hb1 (by simp)
  have B1 : Below w.heap.size w w1 := (Joins.below_alloc1 _ _).trans (hb1.mono (by simp))
  have z1 : w.heap.size < w1.heap.size := by have := hb1.size; simp at this; omega
  have s0 : w1.cell? ⟨w.heap.size, 0, none⟩ = some (.bool o) := (k1.cell 0).trans rfl
  have s1 : w1.cell? ⟨w.heap.size, 1, none⟩ = some (.int .u64 (n : Int)) := (k1.cell 1).trans rfl
  have s2o : w1.cell? ⟨w.heap.size, 2, none⟩ = some (.int .u64 (t : Int)) := (k1.cell 2).trans rfl
  have f2 : w1.frozen? ⟨w.heap.size, 2, none⟩ = false := k1.frozen 2
  have K1 := Lib.hid k1
  clear hb1 k1
  have hT := HT.out
  go_wp2_with fail
  refine (HM.out _ T).mono ?_
  rintro e w2 ⟨b, rfl, hb2, hp2, hB2⟩
  have k2 := ((K1.out.set 2 (.int .u64 (T : Int)))).below hB2 (by simpa using z1)
  have s2 : w2.cell? ⟨w.heap.size, 2, none⟩ = some (.int .u64 (T : Int)) := (k2.cell 2).trans rfl
  have B2 : Below w.heap.size w w2 := (B1.setCell (by exact Nat.le_refl _) _).trans (hB2.mono (by simp; omega))
  have hbb : w.heap.size ≤ b := by simp at hb2; omega
  clear s0 s1 s2o f2 K1 k2 hB2 hb2 HT hT z1 B1 HM
  have hT2 := HT2.out
  clear HT2
  go_wp2_with fail
  have hz5 : 0 ≤ z % 5 ∧ z % 5 ≤ 4 := by omega
  go_loopw [8, 34] (fun now i wr => ∃ k N : Nat, PingsRel w b o n T (z % 5 + 1) now i wr k N) (fun _ i _ => (z % 5 + 1 - intOf i).toNat)
  case atStart => exact ⟨0, T, by omega, rfl, rfl, rfl, hp2, B2⟩
  case round =>
    clear hp2 B2 s2
    obtain ⟨k, N, ⟨hk, hN, rfl, rfl, hp, hB⟩⟩ := hrel
    by_cases hlt : (k : Int) < z % 5 + 1
    · have hN2 : N < 4611686018427387904 + 600 := by omega
      have hk5 : k ≤ 4 := by omega
      have HN := Lib.hid hN
      have HT2 := Lib.hid hT2
      clear hN hT2
      have hwr1 : IntKind.u64.wrap ((N : Int) + 120) = (N : Int) + 120 := IntWalk.u64_in _ (by omega)
      go_wp2_with fail
      refine (tickz0 b _ _ _ hp (N + 119) (by omega) ⟨by omega, by show N ≤ _; omega, by show k ≤ 100; omega⟩ (tk_rest _ _ _ _ _ (by omega) (by omega))).mono ?_
      rintro e w3 ⟨A3, cap3, rfl, hp3, hk3⟩
      have B3 := hB.trans (hk3.low (B := w.heap.size) (by omega) hB.size)
      clear hk3 hB hp
      go_wp2_with fail
      refine (tickz1 b _ _ _ hp3 (N + 120) (by omega) ⟨by omega, by show N ≤ _; omega, by show k ≤ 100; omega⟩ (tk_ping _ _ _ _ _ (by omega) (by omega))).mono ?_
      rintro e w4 ⟨g4, cap4, rfl, hg4, hlt4, c40, c41, hp4, hk4⟩
      have B4 := B3.trans (hk4.low (B := w.heap.size) (by omega) B3.size)
      clear hk4 B3 hp3

      go_wp2_with fail
      · have hm1 : m ≠ (k : Int) + 1 := by simpa using (by assumption : (m != (k : Int) + 1) = true)
        refine (hear_say0 b _ 4 m 0 R0 _ hp4 (by omega) (by simp) (heard_pong _ _ rfl)).mono ?_
        rintro e w5 ⟨A5, cap5, rfl, hp5, hk5'⟩
        have B5 := B4.trans (hk5'.low (B := w.heap.size) (by omega) B4.size)
        have hp5' : IsPeer w5 b ⟨o, n, 2, true, N + 120, k + 1, true⟩ := by
          have e : ((true && m != ((k + 1 : Nat) : Int)) = true) := by simp; omega
          have := hp5
          simp only [e] at this
          exact this
        clear hk5' B4 hp4 hp5
        go_wp2_with fail
        refine (tickz0 b _ _ _ hp5' (N + 180) (by omega) ⟨by omega, by show N + 120 ≤ _; omega, by show k + 1 ≤ 100; omega⟩ (tk_wait _ _ _ _ _ true (by omega) (by rw [decide_eq_true]; omega))).mono ?_
        rintro e w6 ⟨A6, cap6, rfl, hp6, hk6⟩
        have B6 := B5.trans (hk6.low (B := w.heap.size) (by omega) B5.size)
        clear hk6 B5 hp5'
        go_wp2_with fail
        refine (tickz0 b _ _ _ hp6 (N + 179) (by omega) ⟨by omega, by show N + 120 ≤ _; omega, by show k + 1 ≤ 100; omega⟩ (tk_wait _ _ _ _ _ false (by omega) (by rw [decide_eq_false]; omega))).mono ?_
        rintro e w7 ⟨A7, cap7, rfl, hp7, hk7⟩
        have B7 := B6.trans (hk7.low (B := w.heap.size) (by omega) B6.size)
        clear hk7 B6 hp6
        go_wp2_with fail
        refine (hear_say0 b _ 4 _ 0 R0 _ hp7 (by omega) (by simp) (heard_pong _ _ rfl)).mono ?_
        rintro e w8 ⟨A8, cap8, rfl, hp8, hk8⟩
        have B8 := B7.trans (hk8.low (B := w.heap.size) (by omega) B7.size)
        have hp8' : IsPeer w8 b ⟨o, n, 2, true, N + 120, k + 1, false⟩ := by
          have e : ((true && ((k : Int) + 1) != (((k + 1 : Nat)) : Int)) = false) := by simp
          have := hp8
          simp only [e] at this
          exact this
        clear hk8 B7 hp7 hp8
        go_wp2_with fail
        refine (tickz0 b _ _ _ hp8' (N + 180) (by omega) ⟨by omega, by show N + 120 ≤ _; omega, by show k + 1 ≤ 100; omega⟩ (tk_rest _ _ _ _ _ (by omega) (by omega))).mono ?_
        rintro e w9 ⟨A9, cap9, rfl, hp9, hk9⟩
        have B9 := B8.trans (hk9.low (B := w.heap.size) (by omega) B8.size)
        clear hk9 B8 hp8'
        have hwk : IntKind.u64.wrap ((k : Int) + 1) = (k : Int) + 1 := IntWalk.u64_in _ (by omega)
        go_wp2_with fail
        go_roundw
        case rel => exact ⟨k + 1, N + 120, by omega, by have := HN.out; omega, by simp, by simp, hp9, B9⟩
        case measure => simp [intOf]; omega
      · refine (tickz0 b _ _ _ hp4 (N + 179) (by omega) ⟨by omega, by show N + 120 ≤ _; omega, by show k + 1 ≤ 100; omega⟩ (tk_wait _ _ _ _ _ false (by omega) (by rw [decide_eq_false]; omega))).mono ?_
        rintro e w7 ⟨A7, cap7, rfl, hp7, hk7⟩
        have B7 := B4.trans (hk7.low (B := w.heap.size) (by omega) B4.size)
        clear hk7 B4 hp4
        go_wp2_with fail
        refine (hear_say0 b _ 4 _ 0 R0 _ hp7 (by omega) (by simp) (heard_pong _ _ rfl)).mono ?_
        rintro e w8 ⟨A8, cap8, rfl, hp8, hk8⟩
        have B8 := B7.trans (hk8.low (B := w.heap.size) (by omega) B7.size)
        have hp8' : IsPeer w8 b ⟨o, n, 2, true, N + 120, k + 1, false⟩ := by
          have e : ((true && ((k : Int) + 1) != (((k + 1 : Nat)) : Int)) = false) := by simp
          have := hp8
          simp only [e] at this
          exact this
        clear hk8 B7 hp7 hp8
        go_wp2_with fail
        refine (tickz0 b _ _ _ hp8' (N + 180) (by omega) ⟨by omega, by show N + 120 ≤ _; omega, by show k + 1 ≤ 100; omega⟩ (tk_rest _ _ _ _ _ (by omega) (by omega))).mono ?_
        rintro e w9 ⟨A9, cap9, rfl, hp9, hk9⟩
        have B9 := B8.trans (hk9.low (B := w.heap.size) (by omega) B8.size)
        clear hk9 B8 hp8'
        have hwk : IntKind.u64.wrap ((k : Int) + 1) = (k : Int) + 1 := IntWalk.u64_in _ (by omega)
        go_wp2_with fail
        go_roundw
        case rel => exact ⟨k + 1, N + 120, by omega, by have := HN.out; omega, by simp, by simp, hp9, B9⟩
        case measure => simp [intOf]; omega
    · clear hp hk
      go_wp2_with fail
      go_ret
      exact ⟨rfl, hB⟩
end Go.Proofs.Ytpacgblddeoheaa
