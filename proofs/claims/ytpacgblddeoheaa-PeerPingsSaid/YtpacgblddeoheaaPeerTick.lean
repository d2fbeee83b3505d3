/- What time brings to a peer; what it sends at first; the fixed trials. -/
import Derived.Test.YtpacgblddeoheaaPeerHears
namespace Go.Proofs.Ytpacgblddeoheaa
open Go.RowKit Go.Deep
set_option linter.unusedVariables false
set_option maxRecDepth 100000
attribute [local go_sem ↓] Go.wp_at_zero Go.wp_at_succ

theorem addEq (x y : Int) (w : World) (hx : 0 ≤ x) (hy : 0 ≤ y) :
   (callFunc 23 #[.int .u64 x, .int .u64 y, .int .u64 0]).run Try.prog w = .ok (.value (.tuple #[.int .u64 ((x + y) % 18446744073709551616), .int .u64 ((x + y) / 18446744073709551616)])) w := by
  rw [run_callFunc_extern (e := add64Entry) Try.func23 (by kernel_rfl) (by kernel_rfl) (by kernel_rfl) (by kernel_rfl)]
  rw [run_add64 x y 0 hx hy (by omega) (by omega)]
  simp [Result.andThen]

/-- a time, and so much more -/
def later (t d : Int) : Int := min (t + d) 18446744073709551615

set_option maxHeartbeats 400000 in
theorem later1 (t d : Int) (q : Nat) (w : World) (hx : 0 ≤ t) (hx' : t ≤ 18446744073709551615) (hy : 0 ≤ d) (hy' : d ≤ 18446744073709551615)
   (hc : w.cell? ⟨q, 0, none⟩ = some (.int .u64 d)) :
    Calls Try.prog 20 #[.int .u64 t, .slice (some ⟨q, 0, none⟩) 1 1] w fun r w' => r = .returned (.int .u64 (later t d)) ∧ w = w' := by
  have ha := addEq t d w hx hy
  by_cases h : t + d ≤ 18446744073709551615
  · have h1 : (t + d) % 18446744073709551616 = t + d := by omega
    have h2 : (t + d) / 18446744073709551616 = 0 := by omega
    have h3 : later t d = t + d := by unfold later; omega
    rw [h1, h2] at ha
    rw [h3]
    clear h1 h2 h3
    go_enter Try.func20, Try.ntmps20
    go_wp2
    refine wp_loop_rounds 2 ?_
    rw [rounds_succ]
    go_wp2
    rw [rounds_succ]
    go_wp2
    go_ret
    exact ⟨rfl, rfl⟩
  · have h2 : (t + d) / 18446744073709551616 = 1 := by omega
    have h3 : later t d = 18446744073709551615 := by unfold later; omega
    rw [h2] at ha
    rw [h3]
    clear h2 h3
    go_enter Try.func20, Try.ntmps20
    go_wp2
    refine wp_loop_rounds 2 ?_
    rw [rounds_succ]
    go_wp2
    go_ret
    exact ⟨rfl, rfl⟩


/-- what time brings: what it says, whether it is to be stopped, the peer behind it -/
def ticked (d : PeerD) (now : Nat) : List (Nat × Nat × Nat) × Bool × PeerD :=
  if d.step ≠ 2 then ([], decide (later d.since 60 ≤ now), d)
  else if d.waits then ([], decide (later d.since 60 ≤ now), d)
  else if later d.since 120 > now then ([], false, d)
  else ([(3, d.pings + 1, 0)], false, { d with since := now, pings := d.pings + 1, waits := true })
def TickP (b : Nat) (d : PeerD) (now : Nat) (w : World) (e : Ending) (w' : World) : Prop :=
  ∃ v, e = .returned (.tuple #[v, .bool (ticked d now).2.1]) ∧ Outs w' w.heap.size v (ticked d now).1 ∧ IsPeer w' b (ticked d now).2.2 ∧ Kp (fun i => i = b) w w'
theorem tickP_mk {b : Nat} {d d' : PeerD} {now : Nat} {w w' : World} {v : Value} {l : List (Nat × Nat × Nat)} {x : Bool} (hh : ticked d now = (l, x, d')) (h1 : Outs w' w.heap.size v l) (h2 : IsPeer w' b d') (h3 : Kp (fun i => i = b) w w') :
    TickP b d now w (.returned (.tuple #[v, .bool x])) w' := by
  refine ⟨v, ?_, ?_, ?_, h3⟩ <;> rw [hh] <;> first | rfl | assumption
theorem tickP_same {b : Nat} {d : PeerD} {now : Nat} {w : World} {x : Bool} {o : Obj} (hp : Hid (IsPeer w b d)) (hh : Hid (ticked d now = ([], x, d))) : TickP b d now w (.returned (.tuple #[.slice none 0 0, .bool x])) (w.alloc o) :=
  tickP_mk hh.out (Outs.nil _ _) (hp.out.alloc o) ((Kp.refl _ w).alloc o)
theorem tick_early (b : Nat) (d : PeerD) (now : Nat) (w : World) (h : IsPeer w b d) (hS : d.since ≤ 18446744073709551615) (hN : now ≤ 18446744073709551615) (hs : d.step ≠ 2) :
    Calls Try.prog 14 #[.pointer (some ⟨b, 0, none⟩), .int .u64 (now : Int)] w (TickP b d now w) := by
  have HH := Lib.hid (show ticked d now = ([], decide (later d.since 60 ≤ now), d) by simp [ticked, hs])
  have hlt := h.lt
  have HP := Lib.hid h
  obtain ⟨f, g, q, c0, c1, c2, c3, c4, c5, c6, c7, c8, c9⟩ := h.cells
  have es : ((d.step : Int) != 2) = true := by rw [bne_iff_ne]; omega
  clear h hs
  go_enter Try.func14, Try.ntmps14
  go_wp2_with fail
  refine (later1 _ 60 _ _ (by omega) (by omega) (by omega) (by omega) (by go_simp)).mono ?_
  rintro e w1 ⟨rfl, rfl⟩
  go_wp2
  go_ret2
  exact tickP_same HP HH

theorem tick_waits (b : Nat) (d : PeerD) (now : Nat) (w : World) (h : IsPeer w b d) (hS : d.since ≤ 18446744073709551615) (hN : now ≤ 18446744073709551615) (hs : d.step = 2) (hw : d.waits = true) :
    Calls Try.prog 14 #[.pointer (some ⟨b, 0, none⟩), .int .u64 (now : Int)] w (TickP b d now w) := by
  have HH := Lib.hid (show ticked d now = ([], decide (later d.since 60 ≤ now), d) by simp [ticked, hs, hw])
  have hlt := h.lt
  have HP := Lib.hid h
  obtain ⟨f, g, q, c0, c1, c2, c3, c4, c5, c6, c7, c8, c9⟩ := h.cells
  have c2' : w.cell? ⟨b, 2, none⟩ = some (.int .i64 2) := by rw [c2, hs]; rfl
  clear c2
  rw [hw] at c9
  clear h hs hw
  go_enter Try.func14, Try.ntmps14
  go_wp2_with fail
  refine (later1 _ 60 _ _ (by omega) (by omega) (by omega) (by omega) (by go_simp)).mono ?_
  rintro e w1 ⟨rfl, rfl⟩
  go_wp2
  go_ret2
  exact tickP_same HP HH

theorem tick_not (b : Nat) (d : PeerD) (now : Nat) (w : World) (h : IsPeer w b d) (hS : d.since ≤ 18446744073709551615) (hN : now ≤ 18446744073709551615) (hs : d.step = 2) (hw : d.waits = false) (hl : later d.since 120 > now) :
    Calls Try.prog 14 #[.pointer (some ⟨b, 0, none⟩), .int .u64 (now : Int)] w (TickP b d now w) := by
  have HH := Lib.hid (show ticked d now = ([], false, d) by simp [ticked, hs, hw, hl])
  have hlt := h.lt
  have HP := Lib.hid h
  obtain ⟨f, g, q, c0, c1, c2, c3, c4, c5, c6, c7, c8, c9⟩ := h.cells
  have c2' : w.cell? ⟨b, 2, none⟩ = some (.int .i64 2) := by rw [c2, hs]; rfl
  clear c2
  rw [hw] at c9
  have hl' : (now : Int) < later d.since 120 := hl
  clear h hs hw hl
  go_enter Try.func14, Try.ntmps14
  go_wp2_with fail
  refine (later1 _ 120 _ _ (by omega) (by omega) (by omega) (by omega) (by go_simp)).mono ?_
  rintro e w1 ⟨rfl, rfl⟩
  go_wp2
  go_ret2
  exact tickP_same HP HH

theorem tick_pings (b : Nat) (d : PeerD) (now : Nat) (w : World) (h : IsPeer w b d) (hS : d.since ≤ 18446744073709551615) (hN : now ≤ 18446744073709551615) (hs : d.step = 2) (hw : d.waits = false) (hl : later d.since 120 ≤ now) (hp : d.pings + 1 < 18446744073709551616) :
    Calls Try.prog 14 #[.pointer (some ⟨b, 0, none⟩), .int .u64 (now : Int)] w (TickP b d now w) := by
  have HH := Lib.hid (show ticked d now = ([(3, d.pings + 1, 0)], false, { d with since := now, pings := d.pings + 1, waits := true }) by simp [ticked, hs, hw, Int.not_lt.2 hl])
  have hlt := h.lt
  obtain ⟨f, g, q, hb⟩ := h
  obtain ⟨f', g', q', c0, c1, c2, c3, c4, c5, c6, c7, c8, c9⟩ := IsPeer.cells ⟨f, g, q, hb⟩
  have hset := ((hb.set 7 (.int .u64 now)).set 8 (.int .u64 ((d.pings + 1 : Nat) : Int))).set 9 (.bool true)
  rw [show (((peerCells d f g (some q)).setIfInBounds 7 (.int .u64 now)).setIfInBounds 8 (.int .u64 ((d.pings + 1 : Nat) : Int))).setIfInBounds 9 (.bool true) = peerCells { d with since := now, pings := d.pings + 1, waits := true } f g (some q) by simp [peerCells]] at hset
  have f7 : w.frozen? ⟨b, 7, none⟩ = false := hb.frozen 7
  have f8 : w.frozen? ⟨b, 8, none⟩ = false := hb.frozen 8
  have f9 : w.frozen? ⟨b, 9, none⟩ = false := hb.frozen 9
  obtain ⟨W3, hW3⟩ : ∃ W3, W3 = ((w.setCell ⟨b, 7, none⟩ (.int .u64 now)).setCell ⟨b, 8, none⟩ (.int .u64 ((d.pings + 1 : Nat) : Int))).setCell ⟨b, 9, none⟩ (.bool true) := ⟨_, rfl⟩
  have hz3 : W3.heap.size = w.heap.size := by rw [hW3]; simp
  rw [← hW3] at hset
  have hk3 : Kp (fun i => i = b) w W3 := by rw [hW3]; exact Kp.setCell (S := fun i => i = b) (Kp.setCell (S := fun i => i = b) (Kp.setCell (S := fun i => i = b) (Kp.refl _ w) (fun _ => rfl) _) (fun _ => rfl) _) (fun _ => rfl) _
  have HE : ∀ o : Obj, Hid (TickP b d now w (.returned (.tuple #[.slice (some ⟨w.heap.size + 1, 0, none⟩) 1 1, .bool false])) ((W3.alloc o).alloc (.cells (msgCells 3 (d.pings + 1) 0) 32))) := fun o => Lib.hid (by
    have hn := Bk.new (W3.alloc o) 32 (msgCells 3 (d.pings + 1) 0)
    rw [show (W3.alloc o).heap.size = w.heap.size + 1 by simp [hz3]] at hn
    exact tickP_mk HH.out (Outs.one hn (by omega)) ⟨f, g, q, (hset.alloc _).alloc _⟩ ((hk3.alloc _).alloc _))
  rw [hW3, show ((d.pings + 1 : Nat) : Int) = (d.pings : Int) + 1 by omega] at HE
  have c2' : w.cell? ⟨b, 2, none⟩ = some (.int .i64 2) := by rw [c2, hs]; rfl
  clear c2
  rw [hw] at c9
  have hwr : IntKind.u64.wrap ((d.pings : Int) + 1) = (d.pings : Int) + 1 := IntWalk.u64_in _ (by omega)
  have hl2 : decide ((now : Int) < later d.since 120) = false := by simpa using hl
  have HW := Lib.hid hwr
  clear hb hset hs hw hwr hl hp hW3 hz3 hk3 W3
  go_enter Try.func14, Try.ntmps14
  go_wp2_with fail
  refine (later1 _ 120 _ _ (by omega) (by omega) (by omega) (by omega) (by go_simp)).mono ?_
  rintro e w1 ⟨rfl, rfl⟩
  have hwr := HW.out
  clear hS hN HW
  go_wp2
  go_ret2
  exact (HE _).out
theorem tick_any (b : Nat) (d : PeerD) (now : Nat) (w : World) (h : IsPeer w b d) (hS : d.since ≤ 18446744073709551615) (hN : now ≤ 18446744073709551615) (hp : d.pings + 1 < 18446744073709551616) :
    Calls Try.prog 14 #[.pointer (some ⟨b, 0, none⟩), .int .u64 (now : Int)] w (TickP b d now w) := by
  by_cases hs : d.step = 2
  · cases hw : d.waits with
    | true => exact tick_waits b d now w h hS hN hs hw
    | false =>
      by_cases hl : later d.since 120 ≤ now
      · exact tick_pings b d now w h hS hN hs hw hl hp
      · exact tick_not b d now w h hS hN hs hw (by omega)
  · exact tick_early b d now w h hS hN hs
theorem open_out (b : Nat) (d : PeerD) (w : World) (h : IsPeer w b d) (ho : d.out = true) : Calls Try.prog 15 #[.pointer (some ⟨b, 0, none⟩)] w fun r w' => ∃ v, r = .returned v ∧ Outs w' w.heap.size v [(1, d.nonce, 1)] ∧ Below w.heap.size w w' := by
  have HH := Lib.hid (hello_any b d w h)
  obtain ⟨f, g, q, c0, c1, c2, c3, c4, c5, c6, c7, c8, c9⟩ := h.cells
  rw [ho] at c0
  clear h ho
  go_enter Try.func15, Try.ntmps15
  go_wp2_with fail
  refine HH.out.mono ?_
  rintro e w1 ⟨rfl, hb⟩
  have HB := Lib.hid (show Bk _ _ 32 (msgCells 1 d.nonce 1) from Bk.new w1 _ _)
  simp only [msgCells]
  have hz := hb.size
  go_wp2
  go_ret
  exact ⟨_, rfl, Outs.one HB.out hz, hb.alloc hz _⟩
theorem open_in (b : Nat) (d : PeerD) (w : World) (h : IsPeer w b d) (ho : d.out = false) : Calls Try.prog 15 #[.pointer (some ⟨b, 0, none⟩)] w fun r w' => r = .returned (.slice none 0 0) ∧ w = w' := by
  obtain ⟨f, g, q, c0, c1, c2, c3, c4, c5, c6, c7, c8, c9⟩ := h.cells
  rw [ho] at c0
  clear h ho
  go_enter Try.func15, Try.ntmps15
  go_wp2
  go_ret
  exact ⟨rfl, rfl⟩
/-! the calls of Hear at a known peer -/
theorem hear_say0 (b : Nat) (d : PeerD) (k n c : Int) (r : MsgR) (w : World) {x : Int} {m : Bool} {d' : PeerD} (h : IsPeer w b d) (w0 : 0 ≤ n) (hs : d.step ≤ 2) (hh : heard d k n c = ([], x, m, d')) :
    Calls Try.prog 9 #[.pointer (some ⟨b, 0, none⟩), msgV k n c r] w fun e w' => ∃ A cap, e = hearR (.slice A 0 cap) x m ∧ IsPeer w' b d' ∧ Kp (fun i => i = b) w w' :=
  (hear_any b d k n c r w h w0 hs).mono fun e w' ⟨v, he, ho, hp, hk⟩ => by
    rw [hh] at he ho hp
    obtain ⟨A, cap, rfl, _⟩ := ho.form
    exact ⟨A, cap, he, hp, hk⟩
theorem hear_say1 (b : Nat) (d : PeerD) (k n c : Int) (r : MsgR) (w : World) {x : Int} {m : Bool} {d' : PeerD} {k1 n1 c1 : Nat} (h : IsPeer w b d) (w0 : 0 ≤ n) (hs : d.step ≤ 2) (hh : heard d k n c = ([(k1, n1, c1)], x, m, d')) :
    Calls Try.prog 9 #[.pointer (some ⟨b, 0, none⟩), msgV k n c r] w fun e w' => ∃ g cap, e = hearR (.slice (some ⟨g, 0, none⟩) 1 cap) x m ∧ w.heap.size ≤ g ∧ g < w'.heap.size ∧
      w'.cell? ⟨g, 0, none⟩ = some (.int .i64 k1) ∧ w'.cell? ⟨g, 1, none⟩ = some (.int .u64 n1) ∧ IsPeer w' b d' ∧ Kp (fun i => i = b) w w' :=
  (hear_any b d k n c r w h w0 hs).mono fun e w' ⟨v, he, ho, hp, hk⟩ => by
    rw [hh] at he ho hp
    obtain ⟨A, cap, rfl, _, _, hc⟩ := ho.form
    obtain ⟨g, rfl, hg, hlt, h0, h1, _⟩ := hc 0 (by simp)
    exact ⟨g, cap, he, hg, hlt, by simpa using h0, by simpa using h1, hp, hk⟩
theorem hear_say2 (b : Nat) (d : PeerD) (k n c : Int) (r : MsgR) (w : World) {x : Int} {m : Bool} {d' : PeerD} {k1 n1 c1 k2 n2 c2 : Nat} (h : IsPeer w b d) (w0 : 0 ≤ n) (hs : d.step ≤ 2) (hh : heard d k n c = ([(k1, n1, c1), (k2, n2, c2)], x, m, d')) :
    Calls Try.prog 9 #[.pointer (some ⟨b, 0, none⟩), msgV k n c r] w fun e w' => ∃ g cap, e = hearR (.slice (some ⟨g, 0, none⟩) 2 cap) x m ∧ w.heap.size ≤ g ∧ g < w'.heap.size ∧
      w'.cell? ⟨g, 7, none⟩ = some (.int .i64 k2) ∧ w'.cell? ⟨g, 8, none⟩ = some (.int .u64 n2) ∧ IsPeer w' b d' ∧ Kp (fun i => i = b) w w' :=
  (hear_any b d k n c r w h w0 hs).mono fun e w' ⟨v, he, ho, hp, hk⟩ => by
    rw [hh] at he ho hp
    obtain ⟨A, cap, rfl, _, _, hc⟩ := ho.form
    obtain ⟨g, rfl, hg, hlt, h0, h1, _⟩ := hc 1 (by simp)
    exact ⟨g, cap, he, hg, hlt, by simpa using h0, by simpa using h1, hp, hk⟩
def R0 : MsgR := ⟨none, 0, 0, 0, none, 0, 0, none, 0, 0⟩
theorem IsPeer.kp {S : Nat → Prop} {w w' : World} {b : Nat} {d : PeerD} (h : IsPeer w b d) (k : Kp S w w') (hn : ¬ S b) : IsPeer w' b d := by obtain ⟨f, g, q, hb⟩ := h; exact ⟨f, g, q, hb.kp k hn⟩
theorem IsPeer.below {w w' : World} {b : Nat} {d : PeerD} (h : IsPeer w b d) (k : Below w.heap.size w w') : IsPeer w' b d := by obtain ⟨f, g, q, hb⟩ := h; exact ⟨f, g, q, hb.below k hb.lt⟩
set_option maxHeartbeats 1000000 in
theorem alive_any (w : World) : Calls Try.prog 7 #[] w fun r w' => r = .returned (.bool true) ∧ Below w.heap.size w w' := by
  go_enter Try.func7, Try.ntmps7
  go_wp2_with fail
  refine (new_any true 5 0 _).mono ?_
  rintro e w1 ⟨b, rfl, hb1, hb1', hp1, hB1⟩
  go_wp2_with fail
  refine (open_out b _ _ hp1 rfl).mono ?_
  rintro e w2 ⟨v2, rfl, ho2, hB2⟩
  obtain ⟨A2, cap2, rfl, _, _, hc2⟩ := ho2.form
  obtain ⟨g2, rfl, hg2, hlt2, c20, c21, _⟩ := hc2 0 (by simp)
  have hp2 := hp1.below hB2
  have hk02 : Kp (fun i => i = b) w w2 := (Kp.of_below hB1).trans (Kp.of_below hB2)
  clear hc2 ho2
  go_wp2_with fail
  refine (hear_say2 b _ 1 6 0 R0 _ hp2 (by omega) (by decide) (show heard ⟨true, 5, 0, false, 0, 0, false⟩ 1 6 0 = ([(11, 0, 1), (2, 0, 0)], 0, true, ⟨true, 5, 1, false, 0, 0, false⟩) from rfl)).mono ?_
  rintro e w3 ⟨g3, cap3, rfl, hg3, hlt3, c30, c31, hp3, hk3⟩
  go_wp2_with fail
  refine (hear_say0 b _ 2 0 0 R0 _ hp3 (by omega) (by decide) (show heard ⟨true, 5, 1, false, 0, 0, false⟩ 2 0 0 = ([], 0, true, ⟨true, 5, 2, false, 0, 0, false⟩) from rfl)).mono ?_
  rintro e w4 ⟨A4, cap4, rfl, hp4, hk4⟩
  go_wp2_with fail
  refine (hear_say1 b _ 3 7 0 R0 _ hp4 (by omega) (by decide) (show heard ⟨true, 5, 2, false, 0, 0, false⟩ 3 7 0 = ([(4, 7, 0)], 0, true, ⟨true, 5, 2, false, 0, 0, false⟩) from rfl)).mono ?_
  rintro e w5 ⟨g5, cap5, rfl, hg5, hlt5, c50, c51, hp5, hk5⟩
  have z1 := hB1.size
  have z2 := hB2.size
  have z3 := hk3.size
  have z4 := hk4.size
  have z5 := hk5.size
  have hk35 := hk4.trans hk5
  have hk25 := hk3.trans hk35
  have d20 : w5.cell? ⟨g2, 0, none⟩ = some (.int .i64 1) := (hk25.cell (p := ⟨g2, 0, none⟩) hlt2 (by show ¬ g2 = b; omega)).trans (by simpa using c20)
  have d21 : w5.cell? ⟨g2, 1, none⟩ = some (.int .u64 5) := (hk25.cell (p := ⟨g2, 1, none⟩) hlt2 (by show ¬ g2 = b; omega)).trans (by simpa using c21)
  have d30 : w5.cell? ⟨g3, 7, none⟩ = some (.int .i64 2) := (hk35.cell (p := ⟨g3, 7, none⟩) hlt3 (by show ¬ g3 = b; omega)).trans (by simpa using c30)
  have d50 : w5.cell? ⟨g5, 0, none⟩ = some (.int .i64 4) := by simpa using c50
  have d51 : w5.cell? ⟨g5, 1, none⟩ = some (.int .u64 7) := by simpa using c51
  have hend := Kp.from_elder hB1 (Kp.of_below (S := fun i => i = b) hB2 |>.trans hk25) (fun i hi (e : i = b) => by omega)
  have HE := Lib.hid hend
  have HQ := Lib.hid (queue_any b _ w5 hp5)
  have HR := Lib.hid (ready_any b _ w5 hp5)
  have HT := Lib.hid (stem_any b _ w5 hp5)
  clear c20 c21 c30 c31 c50 c51 hk02 hk3 hk4 hk5 hk35 hk25 hend hp1 hp2 hp3 hp4 hp5 hB1 hB2 z1 z2 z3 z4 z5 hg2 hg3 hg5 hlt2 hlt3 hlt5 hb1 hb1'
  go_wp2_with fail
  refine HQ.out.mono ?_
  rintro e w6 ⟨q, rfl, rfl⟩
  go_wp2_with fail
  refine HR.out.mono ?_
  rintro e w6 ⟨rfl, rfl⟩
  go_wp2_with fail
  refine HT.out.mono ?_
  rintro e w6 ⟨rfl, rfl⟩
  go_wp2_with fail
  go_ret
  exact ⟨rfl, HE.out⟩
end Go.Proofs.Ytpacgblddeoheaa
