/- The document's peer: what it is made of; Later, over, New, Open, Tick. -/
import Derived.Test.YtpacgblddeoheaaDoorPrIn
namespace Go.Proofs.YtpacgblddeoheaaDoor.P22
open Go.RowKit Go.Deep
set_option linter.unusedVariables false
set_option linter.unusedSimpArgs false
set_option maxRecDepth 100000
set_option maxHeartbeats 1000000
attribute [local go_sem ↓] Go.wp_at_zero Go.wp_at_succ

theorem rlater1 (t d : Int) (q : Nat) (w : World) (hx : 0 ≤ t) (hx' : t ≤ 18446744073709551615) (hy : 0 ≤ d) (hy' : d ≤ 18446744073709551615)
   (hc : w.cell? ⟨q, 0, none⟩ = some (.int .u64 d)) :
    Calls Tryd.prog 63 #[.int .u64 t, .slice (some ⟨q, 0, none⟩) 1 1] w fun r w' => r = .returned (.int .u64 (later t d)) ∧ w = w' := by
  have hw1 : IntKind.u64.wrap (18446744073709551615 - t) = 18446744073709551615 - t := IntWalk.u64_in _ (by omega)
  by_cases h : t + d ≤ 18446744073709551615
  · have h3 : later t d = t + d := by unfold later; omega
    have hw2 : IntKind.u64.wrap (t + d) = t + d := IntWalk.u64_in _ (by omega)
    have h4 : ¬ (18446744073709551615 - t < d) := by omega
    rw [h3]
    clear h3
    go_enter Tryd.func63, Tryd.ntmps63
    go_wp2
    refine wp_loop_rounds 2 ?_
    rw [rounds_succ]
    go_wp2
    rw [rounds_succ]
    go_wp2
    go_ret
    exact ⟨rfl, rfl⟩
  · have h3 : later t d = 18446744073709551615 := by unfold later; omega
    have h4 : 18446744073709551615 - t < d := by omega
    rw [h3]
    clear h3
    go_enter Tryd.func63, Tryd.ntmps63
    go_wp2
    refine wp_loop_rounds 2 ?_
    rw [rounds_succ]
    go_wp2
    go_ret
    exact ⟨rfl, rfl⟩
theorem over_any (t d now : Int) (w : World) (hx : 0 ≤ t) (hx' : t ≤ 18446744073709551615) (hy : 0 ≤ d) (hy' : d ≤ 18446744073709551615) :
    Calls Tryd.prog 43 #[.int .u64 t, .int .u64 d, .int .u64 now] w fun r w' => r = .returned (.bool (decide (later t d ≤ now))) ∧ Below w.heap.size w w' := by
  go_enter Tryd.func43, Tryd.ntmps43
  go_wp2_with fail
  refine (rlater1 t d _ _ hx hx' hy hy' (by go_simp)).mono ?_
  rintro e w1 ⟨rfl, rfl⟩
  go_wp2
  go_ret
  exact ⟨rfl, Joins.below_alloc1 _ _⟩
/-- what stands in the document's peer beside what it is -/
structure RX where
  bg : Nat
  v0 : Value
  e0 : Bool
  v1 : Value
  e1 : Bool
  q : Addr
def rpC (d : PeerD) (Y : RX) : Array Value := #[.bool d.out, .int .u64 (d.nonce : Int), .int .u64 (Y.bg : Int), Y.v0, .bool Y.e0, Y.v1, .bool Y.e1, .pointer (some Y.q), .bool (decide (1 ≤ d.step)), .bool (decide (d.step = 2)), .bool d.takes, .int .u64 (d.since : Int), .int .u64 (d.pings : Int), .bool d.waits]
def IsR (Y : RX) (w : World) (b : Nat) (d : PeerD) : Prop := Bk w b 65 (rpC d Y) ∧ (d.step ≠ 2 → Y.bg = d.since)
variable {Y : RX}
theorem IsR.lt {w : World} {b : Nat} {d : PeerD} (h : IsR Y w b d) : b < w.heap.size := h.1.lt
theorem IsR.alloc {w : World} {b : Nat} {d : PeerD} (h : IsR Y w b d) (o : Obj) : IsR Y (w.alloc o) b d := ⟨h.1.alloc o, h.2⟩
theorem IsR.kp {S : Nat → Prop} {w w' : World} {b : Nat} {d : PeerD} (h : IsR Y w b d) (k : Kp S w w') (hn : ¬ S b) : IsR Y w' b d := ⟨h.1.kp k hn, h.2⟩
theorem IsR.below {w w' : World} {b : Nat} {d : PeerD} (h : IsR Y w b d) (k : Below w.heap.size w w') : IsR Y w' b d := ⟨h.1.below k h.1.lt, h.2⟩
theorem IsR.cells {w : World} {b : Nat} {d : PeerD} (h : IsR Y w b d) : w.cell? ⟨b, 0, none⟩ = some (.bool d.out) ∧ w.cell? ⟨b, 1, none⟩ = some (.int .u64 (d.nonce : Int)) ∧ w.cell? ⟨b, 2, none⟩ = some (.int .u64 (Y.bg : Int)) ∧
    w.cell? ⟨b, 8, none⟩ = some (.bool (decide (1 ≤ d.step))) ∧ w.cell? ⟨b, 9, none⟩ = some (.bool (decide (d.step = 2))) ∧ w.cell? ⟨b, 10, none⟩ = some (.bool d.takes) ∧ w.cell? ⟨b, 11, none⟩ = some (.int .u64 (d.since : Int)) ∧ w.cell? ⟨b, 12, none⟩ = some (.int .u64 (d.pings : Int)) ∧ w.cell? ⟨b, 13, none⟩ = some (.bool d.waits) :=
  ⟨(h.1.cell 0).trans rfl, (h.1.cell 1).trans rfl, (h.1.cell 2).trans rfl, (h.1.cell 8).trans rfl, (h.1.cell 9).trans rfl, (h.1.cell 10).trans rfl, (h.1.cell 11).trans rfl, (h.1.cell 12).trans rfl, (h.1.cell 13).trans rfl⟩
theorem rqueue_any (w : World) : Calls Tryd.prog 35 #[] w fun r w' => ∃ b, r = .returned (.pointer (some ⟨b, 0, none⟩)) ∧ Below w.heap.size w w' := by
  go_enter Tryd.func35, Tryd.ntmps35
  go_wp2
  go_ret
  exact ⟨_, rfl, Joins.below_alloc1 _ _⟩
theorem rnew_any (o : Bool) (n t : Nat) (w : World) : Calls Tryd.prog 13 #[.bool o, .int .u64 (n : Int), .int .u64 (t : Int)] w fun r w' =>
    ∃ b q, r = .returned (.pointer (some ⟨b, 0, none⟩)) ∧ w.heap.size ≤ b ∧ IsR ⟨t, .slice none 0 0, false, .slice none 0 0, false, q⟩ w' b ⟨o, n, 0, false, t, 0, false⟩ ∧ Below w.heap.size w w' := by
  go_enter Tryd.func13, Tryd.ntmps13
  go_wp2_with fail
  refine (rqueue_any w).mono ?_
  rintro e w1 ⟨q, rfl, hb1⟩
  go_wp2
  go_ret
  have hz := hb1.size
  exact ⟨w1.heap.size, ⟨q, 0, none⟩, rfl, hz, ⟨Bk.new _ _ _, fun _ => rfl⟩, hb1.alloc hz _⟩
/-- a message that the document says -/
theorem rversion_any (b : Nat) (d : PeerD) (w : World) (h : IsR Y w b d) : Calls Tryd.prog 37 #[.pointer (some ⟨b, 0, none⟩)] w fun r w' => r = .returned (.agg (msgCells 1 d.nonce 1)) ∧ Below w.heap.size w w' := by
  have hlt := h.lt
  obtain ⟨c0, c1, c2, c8, c9, c10, c11, c12, c13⟩ := h.cells
  clear h
  go_enter Tryd.func37, Tryd.ntmps37
  go_wp2
  refine bodyPost_ret (results_cell_row rfl _ _ w.heap.size 51 (msgCells 1 d.nonce 1) (0, 0) _ rfl (Bk.new _ _ _) Tryd.underlying51 rfl msg_size) rfl ⟨rfl, Joins.below_alloc1 _ _⟩
theorem ropen_out (b : Nat) (d : PeerD) (w : World) (h : IsR Y w b d) (ho : d.out = true) : Calls Tryd.prog 16 #[.pointer (some ⟨b, 0, none⟩)] w fun r w' => ∃ v, r = .returned v ∧ Outs w' w.heap.size v [(1, d.nonce, 1)] ∧ Below w.heap.size w w' := by
  have hlt := h.lt
  have HV := Lib.hid (rversion_any b d w h)
  obtain ⟨c0, _⟩ := h.cells
  rw [ho] at c0
  clear h ho
  go_enter Tryd.func16, Tryd.ntmps16
  go_wp2_with fail
  refine HV.out.mono ?_
  rintro e w1 ⟨rfl, hb⟩
  have hz := hb.size
  unfold msgCells
  go_wp2
  go_ret
  exact ⟨_, rfl, Outs.one (Bk.new w1 51 (msgCells 1 d.nonce 1)) hz, hb.alloc hz _⟩
theorem ropen_in (b : Nat) (d : PeerD) (w : World) (h : IsR Y w b d) (ho : d.out = false) : Calls Tryd.prog 16 #[.pointer (some ⟨b, 0, none⟩)] w fun r w' => r = .returned (.slice none 0 0) ∧ w = w' := by
  have hlt := h.lt
  obtain ⟨c0, _⟩ := h.cells
  rw [ho] at c0
  clear h ho
  go_enter Tryd.func16, Tryd.ntmps16
  go_wp2
  go_ret
  exact ⟨rfl, rfl⟩
def RTickP (Y : RX) (b : Nat) (d : PeerD) (now : Nat) (w : World) (e : Ending) (w' : World) : Prop :=
  ∃ v, e = .returned (.tuple #[v, .bool (ticked d now).2.1]) ∧ Outs w' w.heap.size v (ticked d now).1 ∧ IsR Y w' b (ticked d now).2.2 ∧ Kp (fun i => i = b) w w'
theorem rtickP_mk {b : Nat} {d d' : PeerD} {now : Nat} {w w' : World} {v : Value} {l : List (Nat × Nat × Nat)} {x : Bool} (hh : ticked d now = (l, x, d')) (h1 : Outs w' w.heap.size v l) (h2 : IsR Y w' b d') (h3 : Kp (fun i => i = b) w w') :
    RTickP Y b d now w (.returned (.tuple #[v, .bool x])) w' := by
  refine ⟨v, ?_, ?_, ?_, h3⟩ <;> rw [hh] <;> first | rfl | assumption
theorem rtickP_same {b : Nat} {d : PeerD} {now : Nat} {w w' : World} {x : Bool} (hp : Hid (IsR Y w b d)) (hh : Hid (ticked d now = ([], x, d))) (hb : Below w.heap.size w w') : RTickP Y b d now w (.returned (.tuple #[.slice none 0 0, .bool x])) w' :=
  rtickP_mk hh.out (Outs.nil _ _) (hp.out.below hb) (Kp.of_below hb)
theorem rtick_early (b : Nat) (d : PeerD) (now : Nat) (w : World) (h : IsR Y w b d) (hS : d.since ≤ 18446744073709551615) (hs : d.step ≠ 2) :
    Calls Tryd.prog 22 #[.pointer (some ⟨b, 0, none⟩), .int .u64 (now : Int)] w (RTickP Y b d now w) := by
  have HH := Lib.hid (show ticked d now = ([], decide (later d.since 60 ≤ now), d) by simp [ticked, hs])
  have hlt := h.lt
  have HP := Lib.hid h
  have hbg := h.2
  obtain ⟨c0, c1, c2, c8, c9, c10, c11, c12, c13⟩ := h.cells
  rw [hbg hs] at c2
  rw [show decide (d.step = 2) = false by simp [hs]] at c9
  clear hbg hs
  clear h
  go_enter Tryd.func22, Tryd.ntmps22
  go_wp2_with fail
  refine (over_any _ 60 _ _ (by omega) (by omega) (by omega) (by omega)).mono ?_
  rintro e w1 ⟨rfl, hb⟩
  have HB := Lib.hid hb
  clear hb
  go_wp2
  go_ret2
  exact rtickP_same HP HH HB.out
theorem rtick_waits (b : Nat) (d : PeerD) (now : Nat) (w : World) (h : IsR Y w b d) (hS : d.since ≤ 18446744073709551615) (hs : d.step = 2) (hw : d.waits = true) :
    Calls Tryd.prog 22 #[.pointer (some ⟨b, 0, none⟩), .int .u64 (now : Int)] w (RTickP Y b d now w) := by
  have HH := Lib.hid (show ticked d now = ([], decide (later d.since 60 ≤ now), d) by simp [ticked, hs, hw])
  have hlt := h.lt
  have HP := Lib.hid h
  have hbg := h.2
  obtain ⟨c0, c1, c2, c8, c9, c10, c11, c12, c13⟩ := h.cells
  rw [show decide (d.step = 2) = true by simp [hs]] at c9
  rw [hw] at c13
  clear hbg hs hw
  clear h
  go_enter Tryd.func22, Tryd.ntmps22
  go_wp2_with fail
  refine (over_any _ 60 _ _ (by omega) (by omega) (by omega) (by omega)).mono ?_
  rintro e w1 ⟨rfl, hb⟩
  have HB := Lib.hid hb
  clear hb
  go_wp2
  go_ret2
  exact rtickP_same HP HH HB.out
theorem rtick_not (b : Nat) (d : PeerD) (now : Nat) (w : World) (h : IsR Y w b d) (hS : d.since ≤ 18446744073709551615) (hs : d.step = 2) (hw : d.waits = false) (hl : later d.since 120 > now) :
    Calls Tryd.prog 22 #[.pointer (some ⟨b, 0, none⟩), .int .u64 (now : Int)] w (RTickP Y b d now w) := by
  have HH := Lib.hid (show ticked d now = ([], false, d) by simp [ticked, hs, hw, hl])
  have hlt := h.lt
  have HP := Lib.hid h
  have hbg := h.2
  obtain ⟨c0, c1, c2, c8, c9, c10, c11, c12, c13⟩ := h.cells
  rw [show decide (d.step = 2) = true by simp [hs]] at c9
  rw [hw] at c13
  have hl2 : decide (later (d.since : Int) 120 ≤ (now : Int)) = false := by simpa using hl
  clear hbg hs hw hl
  clear h
  go_enter Tryd.func22, Tryd.ntmps22
  go_wp2_with fail
  refine (over_any _ 120 _ _ (by omega) (by omega) (by omega) (by omega)).mono ?_
  rintro e w1 ⟨rfl, hb⟩
  have HB := Lib.hid hb
  clear hb
  go_wp2
  go_ret2
  exact rtickP_same HP HH HB.out
theorem rtick_pings (b : Nat) (d : PeerD) (now : Nat) (w : World) (h : IsR Y w b d) (hS : d.since ≤ 18446744073709551615) (hs : d.step = 2) (hw : d.waits = false) (hl : later d.since 120 ≤ now) (hp : d.pings + 1 < 18446744073709551616) :
    Calls Tryd.prog 22 #[.pointer (some ⟨b, 0, none⟩), .int .u64 (now : Int)] w (RTickP Y b d now w) := by
  have HH := Lib.hid (show ticked d now = ([(3, d.pings + 1, 0)], false, { d with since := now, pings := d.pings + 1, waits := true }) by simp [ticked, hs, hw, Int.not_lt.2 hl])
  have hlt := h.lt
  obtain ⟨c0, c1, c2, c8, c9, c10, c11, c12, c13⟩ := h.cells
  have HP := Lib.hid h
  have HS2 := Lib.hid hs
  rw [show decide (d.step = 2) = true by simp [hs]] at c9
  rw [hw] at c13
  have hwr : IntKind.u64.wrap ((d.pings : Int) + 1) = (d.pings : Int) + 1 := IntWalk.u64_in _ (by omega)
  have hl2 : decide (later (d.since : Int) 120 ≤ (now : Int)) = true := by simpa using hl
  have HW := Lib.hid hwr
  clear h hs hw hl hp hwr
  go_enter Tryd.func22, Tryd.ntmps22
  go_wp2_with fail
  refine (over_any _ 120 _ _ (by omega) (by omega) (by omega) (by omega)).mono ?_
  rintro e w1 ⟨rfl, hb1⟩
  have hp1 := HP.out.below hb1
  have hz1 := hb1.size
  have hlt1 : b < w1.heap.size := hp1.lt
  have HB1 := Lib.hid hb1
  have hb := hp1.1
  obtain ⟨c0, c1, c2, c8, c9, c10, c11, c12, c13⟩ := hp1.cells
  have hset := ((hb.set 11 (.int .u64 now)).set 12 (.int .u64 ((d.pings + 1 : Nat) : Int))).set 13 (.bool true)
  rw [show (((rpC d Y).setIfInBounds 11 (.int .u64 now)).setIfInBounds 12 (.int .u64 ((d.pings + 1 : Nat) : Int))).setIfInBounds 13 (.bool true) = rpC { d with since := now, pings := d.pings + 1, waits := true } Y by simp [rpC]] at hset
  have f11 : w1.frozen? ⟨b, 11, none⟩ = false := hb.frozen 11
  have f12 : w1.frozen? ⟨b, 12, none⟩ = false := hb.frozen 12
  have f13 : w1.frozen? ⟨b, 13, none⟩ = false := hb.frozen 13
  obtain ⟨W3, hW3⟩ : ∃ W3, W3 = ((w1.setCell ⟨b, 11, none⟩ (.int .u64 now)).setCell ⟨b, 12, none⟩ (.int .u64 ((d.pings + 1 : Nat) : Int))).setCell ⟨b, 13, none⟩ (.bool true) := ⟨_, rfl⟩
  have hz3 : W3.heap.size = w1.heap.size := by rw [hW3]; simp
  rw [← hW3] at hset
  have hk3 : Kp (fun i => i = b) w1 W3 := by rw [hW3]; exact Kp.setCell (S := fun i => i = b) (Kp.setCell (S := fun i => i = b) (Kp.setCell (S := fun i => i = b) (Kp.refl _ w1) (fun _ => rfl) _) (fun _ => rfl) _) (fun _ => rfl) _
  have HE : Hid (RTickP Y b d now w (.returned (.tuple #[.slice (some ⟨w1.heap.size, 0, none⟩) 1 1, .bool false])) (W3.alloc (.cells (msgCells 3 (d.pings + 1) 0) 51))) := Lib.hid (by
    have hn := Bk.new W3 51 (msgCells 3 (d.pings + 1) 0)
    rw [hz3] at hn
    exact rtickP_mk HH.out (Outs.one hn (by omega)) ⟨hset.alloc _, fun h2 => absurd HS2.out h2⟩ (((Kp.of_below hb1).trans hk3).alloc _))
  rw [hW3, show ((d.pings + 1 : Nat) : Int) = (d.pings : Int) + 1 by omega] at HE
  have hwr := HW.out
  clear hb hset hW3 hz3 hk3 W3 hp1 hb1 HB1 HP HH HW HS2
  clear hS
  go_wp2
  go_ret2
  exact HE.out
theorem rtick_any (b : Nat) (d : PeerD) (now : Nat) (w : World) (h : IsR Y w b d) (hS : d.since ≤ 18446744073709551615) (hp : d.pings + 1 < 18446744073709551616) :
    Calls Tryd.prog 22 #[.pointer (some ⟨b, 0, none⟩), .int .u64 (now : Int)] w (RTickP Y b d now w) := by
  by_cases hs : d.step = 2
  · cases hw : d.waits with
    | true => exact rtick_waits b d now w h hS hs hw
    | false =>
      by_cases hl : later d.since 120 ≤ now
      · exact rtick_pings b d now w h hS hs hw hl hp
      · exact rtick_not b d now w h hS hs hw (by omega)
  · exact rtick_early b d now w h hS hs
def RHearP (Y : RX) (b : Nat) (d : PeerD) (k n c : Int) (w : World) (e : Ending) (w' : World) : Prop :=
  ∃ v, e = hearR v (heard d k n c).2.1 (heard d k n c).2.2.1 ∧ Outs w' w.heap.size v (heard d k n c).1 ∧ IsR Y w' b (heard d k n c).2.2.2 ∧ Kp (fun i => i = b) w w'
theorem rhearP_mk {b : Nat} {d d' : PeerD} {k n c : Int} {w w' : World} {v : Value} {l : List (Nat × Nat × Nat)} {x : Int} {m : Bool} (hh : heard d k n c = (l, x, m, d')) (h1 : Outs w' w.heap.size v l) (h2 : IsR Y w' b d') (h3 : Kp (fun i => i = b) w w') :
    RHearP Y b d k n c w (hearR v x m) w' := by
  refine ⟨v, ?_, ?_, ?_, h3⟩ <;> rw [hh] <;> first | rfl | assumption
theorem rhearP_same {b : Nat} {d : PeerD} {k n c : Int} {w : World} {x : Int} {m : Bool} {o : Obj} (hp : Hid (IsR Y w b d)) (hh : Hid (heard d k n c = ([], x, m, d))) : RHearP Y b d k n c w (hearR (.slice none 0 0) x m) (w.alloc o) :=
  rhearP_mk hh.out (Outs.nil _ _) (hp.out.alloc o) ((Kp.refl _ w).alloc o)
theorem rhear_version_wrong (b : Nat) (d : PeerD) (n c : Int) (r : MsgR) (w : World) (h : IsR Y w b d) (hs : d.step ≠ 0) :
    Calls Tryd.prog 20 #[.pointer (some ⟨b, 0, none⟩), msgV 1 n c r] w (RHearP Y b d 1 n c w) := by
  have HH := Lib.hid (show heard d 1 n c = ([], 20, true, d) by simp [heard, hs])
  have hlt := h.lt
  have HP := Lib.hid h
  obtain ⟨c0, c1, c2, c8, c9, c10, c11, c12, c13⟩ := h.cells
  rw [show decide (1 ≤ d.step) = true by simp; omega] at c8
  clear h hs
  unfold msgV
  go_enter Tryd.func20, Tryd.ntmps20
  go_wp2
  refine bodyPost_ret (results_tmp3 rfl _ _ _) rfl ?_
  exact rhearP_same HP HH
theorem rhear_send_wrong0 (b : Nat) (d : PeerD) (n c : Int) (r : MsgR) (w : World) (h : IsR Y w b d) (hs : d.step = 0) :
    Calls Tryd.prog 20 #[.pointer (some ⟨b, 0, none⟩), msgV 11 n c r] w (RHearP Y b d 11 n c w) := by
  have HH := Lib.hid (show heard d 11 n c = ([], 20, true, d) by simp [heard, hs])
  have hlt := h.lt
  have HP := Lib.hid h
  obtain ⟨c0, c1, c2, c8, c9, c10, c11, c12, c13⟩ := h.cells
  rw [show decide (1 ≤ d.step) = false by simp; omega] at c8
  clear h hs
  unfold msgV
  go_enter Tryd.func20, Tryd.ntmps20
  go_wp2
  refine bodyPost_ret (results_tmp3 rfl _ _ _) rfl ?_
  exact rhearP_same HP HH
theorem rhear_send_wrong2 (b : Nat) (d : PeerD) (n c : Int) (r : MsgR) (w : World) (h : IsR Y w b d) (hs : d.step = 2) :
    Calls Tryd.prog 20 #[.pointer (some ⟨b, 0, none⟩), msgV 11 n c r] w (RHearP Y b d 11 n c w) := by
  have HH := Lib.hid (show heard d 11 n c = ([], 20, true, d) by simp [heard, hs])
  have hlt := h.lt
  have HP := Lib.hid h
  obtain ⟨c0, c1, c2, c8, c9, c10, c11, c12, c13⟩ := h.cells
  rw [show decide (1 ≤ d.step) = true by simp; omega] at c8
  rw [show decide (d.step = 2) = true by simp; omega] at c9
  clear h hs
  unfold msgV
  go_enter Tryd.func20, Tryd.ntmps20
  go_wp2
  refine bodyPost_ret (results_tmp3 rfl _ _ _) rfl ?_
  exact rhearP_same HP HH
theorem rhear_ack_wrong0 (b : Nat) (d : PeerD) (n c : Int) (r : MsgR) (w : World) (h : IsR Y w b d) (hs : d.step = 0) :
    Calls Tryd.prog 20 #[.pointer (some ⟨b, 0, none⟩), msgV 2 n c r] w (RHearP Y b d 2 n c w) := by
  have HH := Lib.hid (show heard d 2 n c = ([], 20, true, d) by simp [heard, hs])
  have hlt := h.lt
  have HP := Lib.hid h
  obtain ⟨c0, c1, c2, c8, c9, c10, c11, c12, c13⟩ := h.cells
  rw [show decide (1 ≤ d.step) = false by simp; omega] at c8
  clear h hs
  unfold msgV
  go_enter Tryd.func20, Tryd.ntmps20
  go_wp2
  refine bodyPost_ret (results_tmp3 rfl _ _ _) rfl ?_
  exact rhearP_same HP HH
theorem rhear_ack_wrong2 (b : Nat) (d : PeerD) (n c : Int) (r : MsgR) (w : World) (h : IsR Y w b d) (hs : d.step = 2) :
    Calls Tryd.prog 20 #[.pointer (some ⟨b, 0, none⟩), msgV 2 n c r] w (RHearP Y b d 2 n c w) := by
  have HH := Lib.hid (show heard d 2 n c = ([], 20, true, d) by simp [heard, hs])
  have hlt := h.lt
  have HP := Lib.hid h
  obtain ⟨c0, c1, c2, c8, c9, c10, c11, c12, c13⟩ := h.cells
  rw [show decide (1 ≤ d.step) = true by simp; omega] at c8
  rw [show decide (d.step = 2) = true by simp; omega] at c9
  clear h hs
  unfold msgV
  go_enter Tryd.func20, Tryd.ntmps20
  go_wp2
  refine bodyPost_ret (results_tmp3 rfl _ _ _) rfl ?_
  exact rhearP_same HP HH
theorem rhear_ping_wrong (b : Nat) (d : PeerD) (n c : Int) (r : MsgR) (w : World) (h : IsR Y w b d) (hs : d.step ≠ 2) :
    Calls Tryd.prog 20 #[.pointer (some ⟨b, 0, none⟩), msgV 3 n c r] w (RHearP Y b d 3 n c w) := by
  have HH := Lib.hid (show heard d 3 n c = ([], 20, true, d) by simp [heard, hs])
  have hlt := h.lt
  have HP := Lib.hid h
  obtain ⟨c0, c1, c2, c8, c9, c10, c11, c12, c13⟩ := h.cells
  rw [show decide (d.step = 2) = false by simp; omega] at c9
  clear h hs
  unfold msgV
  go_enter Tryd.func20, Tryd.ntmps20
  go_wp2
  refine bodyPost_ret (results_tmp3 rfl _ _ _) rfl ?_
  exact rhearP_same HP HH
theorem rhear_pong_wrong (b : Nat) (d : PeerD) (n c : Int) (r : MsgR) (w : World) (h : IsR Y w b d) (hs : d.step ≠ 2) :
    Calls Tryd.prog 20 #[.pointer (some ⟨b, 0, none⟩), msgV 4 n c r] w (RHearP Y b d 4 n c w) := by
  have HH := Lib.hid (show heard d 4 n c = ([], 20, true, d) by simp [heard, hs])
  have hlt := h.lt
  have HP := Lib.hid h
  obtain ⟨c0, c1, c2, c8, c9, c10, c11, c12, c13⟩ := h.cells
  rw [show decide (d.step = 2) = false by simp; omega] at c9
  clear h hs
  unfold msgV
  go_enter Tryd.func20, Tryd.ntmps20
  go_wp2
  refine bodyPost_ret (results_tmp3 rfl _ _ _) rfl ?_
  exact rhearP_same HP HH
theorem rhear_stem (b : Nat) (d : PeerD) (n c : Int) (r : MsgR) (w : World) (h : IsR Y w b d) (hs : d.step ≠ 2) :
    Calls Tryd.prog 20 #[.pointer (some ⟨b, 0, none⟩), msgV 9 n c r] w (RHearP Y b d 9 n c w) := by
  have HH := Lib.hid (show heard d 9 n c = ([], 0, true, d) by simp [heard, hs])
  have hlt := h.lt
  have HP := Lib.hid h
  obtain ⟨c0, c1, c2, c8, c9, c10, c11, c12, c13⟩ := h.cells
  rw [show decide (d.step = 2) = false by simp; omega] at c9
  clear h hs
  unfold msgV
  go_enter Tryd.func20, Tryd.ntmps20
  go_wp2
  refine bodyPost_ret (results_tmp3 rfl _ _ _) rfl ?_
  exact rhearP_same HP HH
theorem rhear_stem_on (b : Nat) (d : PeerD) (n c : Int) (r : MsgR) (w : World) (h : IsR Y w b d) (hs : d.step = 2) :
    Calls Tryd.prog 20 #[.pointer (some ⟨b, 0, none⟩), msgV 9 n c r] w (RHearP Y b d 9 n c w) := by
  have HH := Lib.hid (show heard d 9 n c = ([], 0, false, d) by simp [heard, hs])
  have hlt := h.lt
  have HP := Lib.hid h
  obtain ⟨c0, c1, c2, c8, c9, c10, c11, c12, c13⟩ := h.cells
  rw [show decide (d.step = 2) = true by simp; omega] at c9
  clear h hs
  unfold msgV
  go_enter Tryd.func20, Tryd.ntmps20
  go_wp2
  refine bodyPost_ret (results_tmp3 rfl _ _ _) rfl ?_
  exact rhearP_same HP HH
theorem rhear_version_self (b : Nat) (d : PeerD) (n c : Int) (r : MsgR) (w : World) (h : IsR Y w b d) (w0 : 0 ≤ n) (hs : d.step = 0) (hn : n = d.nonce) :
    Calls Tryd.prog 20 #[.pointer (some ⟨b, 0, none⟩), msgV 1 n c r] w (RHearP Y b d 1 n c w) := by
  have HH := Lib.hid (show heard d 1 n c = ([], 22, true, d) by simp [heard, hs, hn])
  have hlt := h.lt
  have HP := Lib.hid h
  obtain ⟨c0, c1, c2, c8, c9, c10, c11, c12, c13⟩ := h.cells
  rw [show decide (1 ≤ d.step) = false by simp; omega] at c8
  clear h hs
  unfold msgV
  go_enter Tryd.func20, Tryd.ntmps20
  go_wp2
  go_region
  all_goals go_wp2
  refine bodyPost_ret (results_tmp3 rfl _ _ _) rfl ?_
  exact rhearP_mk HH.out (Outs.nil _ _) (HP.out.alloc _) ((Kp.refl _ w).alloc _).drew
theorem rhear_send (b : Nat) (d : PeerD) (n c : Int) (r : MsgR) (w : World) (h : IsR Y w b d) (hs : d.step = 1) :
    Calls Tryd.prog 20 #[.pointer (some ⟨b, 0, none⟩), msgV 11 n c r] w (RHearP Y b d 11 n c w) := by
  have HH := Lib.hid (show heard d 11 n c = ([], 0, true, { d with takes := c == 1 }) by simp [heard, hs])
  have hlt := h.lt
  obtain ⟨c0, c1, c2, c8, c9, c10, c11, c12, c13⟩ := h.cells
  rw [show decide (1 ≤ d.step) = true by simp; omega] at c8
  rw [show decide (d.step = 2) = false by simp; omega] at c9
  have fi : w.frozen? ⟨b, 10, none⟩ = false := h.1.frozen 10
  have HP : ∀ o : Obj, Hid (IsR Y ((w.setCell ⟨b, 10, none⟩ (.bool (c == 1))).alloc o) b { d with takes := c == 1 }) := fun o => Lib.hid ⟨by have := (h.1.set 10 (.bool (c == 1))).alloc o; rwa [show (rpC d Y).setIfInBounds 10 (.bool (c == 1)) = rpC { d with takes := c == 1 } Y by simp [rpC, hs]] at this, by have := h.2; simp [hs] at this ⊢ <;> omega⟩
  have HK : ∀ o : Obj, Hid (Kp (fun i => i = b) w ((w.setCell ⟨b, 10, none⟩ (.bool (c == 1))).alloc o)) := fun o => Lib.hid ((Kp.setCell (S := fun i => i = b) (Kp.refl _ w) (fun _ => rfl) _).alloc o)
  clear h hs
  unfold msgV
  go_enter Tryd.func20, Tryd.ntmps20
  go_wp2
  refine bodyPost_ret (results_tmp3 rfl _ _ _) rfl ?_
  exact rhearP_mk HH.out (Outs.nil _ _) (HP _).out (HK _).out
theorem rhear_ack (b : Nat) (d : PeerD) (n c : Int) (r : MsgR) (w : World) (h : IsR Y w b d) (hs : d.step = 1) :
    Calls Tryd.prog 20 #[.pointer (some ⟨b, 0, none⟩), msgV 2 n c r] w (RHearP Y b d 2 n c w) := by
  have HH := Lib.hid (show heard d 2 n c = ([], 0, true, { d with step := 2 }) by simp [heard, hs])
  have hlt := h.lt
  obtain ⟨c0, c1, c2, c8, c9, c10, c11, c12, c13⟩ := h.cells
  rw [show decide (1 ≤ d.step) = true by simp; omega] at c8
  rw [show decide (d.step = 2) = false by simp; omega] at c9
  have fi : w.frozen? ⟨b, 9, none⟩ = false := h.1.frozen 9
  have HP : ∀ o : Obj, Hid (IsR Y ((w.setCell ⟨b, 9, none⟩ (.bool true)).alloc o) b { d with step := 2 }) := fun o => Lib.hid ⟨by have := (h.1.set 9 (.bool true)).alloc o; rwa [show (rpC d Y).setIfInBounds 9 (.bool true) = rpC { d with step := 2 } Y by simp [rpC, hs]] at this, by have := h.2; simp [hs] at this ⊢ <;> omega⟩
  have HK : ∀ o : Obj, Hid (Kp (fun i => i = b) w ((w.setCell ⟨b, 9, none⟩ (.bool true)).alloc o)) := fun o => Lib.hid ((Kp.setCell (S := fun i => i = b) (Kp.refl _ w) (fun _ => rfl) _).alloc o)
  clear h hs
  unfold msgV
  go_enter Tryd.func20, Tryd.ntmps20
  go_wp2
  refine bodyPost_ret (results_tmp3 rfl _ _ _) rfl ?_
  exact rhearP_mk HH.out (Outs.nil _ _) (HP _).out (HK _).out
theorem rhear_pong_yes (b : Nat) (d : PeerD) (n c : Int) (r : MsgR) (w : World) (h : IsR Y w b d) (hs : d.step = 2) (hn : n = (d.pings : Int)) :
    Calls Tryd.prog 20 #[.pointer (some ⟨b, 0, none⟩), msgV 4 n c r] w (RHearP Y b d 4 n c w) := by
  have HH := Lib.hid (show heard d 4 n c = ([], 0, true, { d with waits := false }) by simp [heard, hs, hn])
  have hlt := h.lt
  obtain ⟨c0, c1, c2, c8, c9, c10, c11, c12, c13⟩ := h.cells
  rw [show decide (d.step = 2) = true by simp; omega] at c9
  have fi : w.frozen? ⟨b, 13, none⟩ = false := h.1.frozen 13
  have HP : ∀ o : Obj, Hid (IsR Y ((w.setCell ⟨b, 13, none⟩ (.bool false)).alloc o) b { d with waits := false }) := fun o => Lib.hid ⟨by have := (h.1.set 13 (.bool false)).alloc o; rwa [show (rpC d Y).setIfInBounds 13 (.bool false) = rpC { d with waits := false } Y by simp [rpC, hs, hn]] at this, by have := h.2; simp [hs, hn] at this ⊢ <;> omega⟩
  have HK : ∀ o : Obj, Hid (Kp (fun i => i = b) w ((w.setCell ⟨b, 13, none⟩ (.bool false)).alloc o)) := fun o => Lib.hid ((Kp.setCell (S := fun i => i = b) (Kp.refl _ w) (fun _ => rfl) _).alloc o)
  clear h hs
  unfold msgV
  go_enter Tryd.func20, Tryd.ntmps20
  go_wp2
  go_region
  all_goals go_wp2
  refine bodyPost_ret (results_tmp3 rfl _ _ _) rfl ?_
  exact rhearP_mk HH.out (Outs.nil _ _) (HP _).out (HK _).out.drew
theorem rhear_pong_no (b : Nat) (d : PeerD) (n c : Int) (r : MsgR) (w : World) (h : IsR Y w b d) (hs : d.step = 2) (hn : n ≠ (d.pings : Int)) :
    Calls Tryd.prog 20 #[.pointer (some ⟨b, 0, none⟩), msgV 4 n c r] w (RHearP Y b d 4 n c w) := by
  have HH := Lib.hid (show heard d 4 n c = ([], 0, true, d) by cases d; simp_all [heard])
  have hlt := h.lt
  have HP := Lib.hid h
  obtain ⟨c0, c1, c2, c8, c9, c10, c11, c12, c13⟩ := h.cells
  rw [show decide (d.step = 2) = true by simp; omega] at c9
  clear h hs
  unfold msgV
  go_enter Tryd.func20, Tryd.ntmps20
  go_wp2
  go_region
  all_goals go_wp2
  refine bodyPost_ret (results_tmp3 rfl _ _ _) rfl ?_
  exact rhearP_mk HH.out (Outs.nil _ _) (HP.out.alloc _) ((Kp.refl _ w).alloc _).drew
theorem rhear_ping (b : Nat) (d : PeerD) (n c : Int) (r : MsgR) (w : World) (h : IsR Y w b d) (w0 : 0 ≤ n) (hs : d.step = 2) :
    Calls Tryd.prog 20 #[.pointer (some ⟨b, 0, none⟩), msgV 3 n c r] w (RHearP Y b d 3 n c w) := by
  obtain ⟨n, rfl⟩ := Int.eq_ofNat_of_zero_le w0
  have HH := Lib.hid (show heard d 3 (n : Int) c = ([(4, n, 0)], 0, true, d) by simp [heard, hs])
  have hlt := h.lt
  have HP := Lib.hid h
  obtain ⟨c0, c1, c2, c8, c9, c10, c11, c12, c13⟩ := h.cells
  rw [show decide (d.step = 2) = true by simp; omega] at c9
  have HB : ∀ o : Obj, Hid (Bk ((w.alloc o).alloc (.cells (msgCells 4 n 0) 51)) (w.heap.size + 1) 51 (msgCells 4 n 0)) := fun o => Lib.hid (by have := Bk.new (w.alloc o) 51 (msgCells 4 n 0); rwa [show (w.alloc o).heap.size = w.heap.size + 1 by simp] at this)
  clear h hs
  unfold msgV
  go_enter Tryd.func20, Tryd.ntmps20
  go_wp2
  refine bodyPost_ret (results_tmp3 rfl _ _ _) rfl ?_
  exact rhearP_mk HH.out (Outs.one (HB _).out (by simp)) ((HP.out.alloc _).alloc _) (((Kp.refl _ w).alloc _).alloc _)
theorem rhear_wrong (b : Nat) (d : PeerD) (k : Int) (n c : Int) (r : MsgR) (w : World) (h : IsR Y w b d) (h1 : k ≠ 1) (h2 : k ≠ 2) (h11 : k ≠ 11) (h9 : k ≠ 9) (h3 : k ≠ 3) (h4 : k ≠ 4) (hs : d.step ≠ 2) :
    Calls Tryd.prog 20 #[.pointer (some ⟨b, 0, none⟩), msgV k n c r] w (RHearP Y b d k n c w) := by
  have HH := Lib.hid (show heard d k n c = ([], 20, true, d) by simp [heard, h1, h2, h11, h9, h3, h4, hs])
  have hlt := h.lt
  have HP := Lib.hid h
  obtain ⟨c0, c1, c2, c8, c9, c10, c11, c12, c13⟩ := h.cells
  rw [show decide (d.step = 2) = false by simp; omega] at c9
  have e1 : (k == 1) = false := by simpa using h1
  have e2 : (k == 2) = false := by simpa using h2
  have e3 : (k == 3) = false := by simpa using h3
  have e4 : (k == 4) = false := by simpa using h4
  have e9 : (k == 9) = false := by simpa using h9
  have e11 : (k == 11) = false := by simpa using h11
  clear h hs
  unfold msgV
  go_enter Tryd.func20, Tryd.ntmps20
  go_wp2
  refine bodyPost_ret (results_tmp3 rfl _ _ _) rfl ?_
  exact rhearP_same HP HH
theorem rhear_other (b : Nat) (d : PeerD) (k : Int) (n c : Int) (r : MsgR) (w : World) (h : IsR Y w b d) (h1 : k ≠ 1) (h2 : k ≠ 2) (h11 : k ≠ 11) (h9 : k ≠ 9) (h3 : k ≠ 3) (h4 : k ≠ 4) (hs : d.step = 2) :
    Calls Tryd.prog 20 #[.pointer (some ⟨b, 0, none⟩), msgV k n c r] w (RHearP Y b d k n c w) := by
  have HH := Lib.hid (show heard d k n c = ([], 0, false, d) by simp [heard, h1, h2, h11, h9, h3, h4, hs])
  have hlt := h.lt
  have HP := Lib.hid h
  obtain ⟨c0, c1, c2, c8, c9, c10, c11, c12, c13⟩ := h.cells
  rw [show decide (d.step = 2) = true by simp; omega] at c9
  have e1 : (k == 1) = false := by simpa using h1
  have e2 : (k == 2) = false := by simpa using h2
  have e3 : (k == 3) = false := by simpa using h3
  have e4 : (k == 4) = false := by simpa using h4
  have e9 : (k == 9) = false := by simpa using h9
  have e11 : (k == 11) = false := by simpa using h11
  clear h hs
  unfold msgV
  go_enter Tryd.func20, Tryd.ntmps20
  go_wp2
  refine bodyPost_ret (results_tmp3 rfl _ _ _) rfl ?_
  exact rhearP_same HP HH
theorem rhear_version_out (b : Nat) (d : PeerD) (n c : Int) (r : MsgR) (w : World) (h : IsR Y w b d) (w0 : 0 ≤ n) (hs : d.step = 0) (hn : n ≠ d.nonce) (ho : d.out = true) :
    Calls Tryd.prog 20 #[.pointer (some ⟨b, 0, none⟩), msgV 1 n c r] w (RHearP Y b d 1 n c w) := by
  have HH := Lib.hid (show heard d 1 n c = ([(11, 0, 1), (2, 0, 0)], 0, true, { d with step := 1 }) by simp [heard, hs, hn, ho])
  have hne : (n == (d.nonce : Int)) = false := by rw [beq_eq_false_iff_ne]; exact hn
  have hlt := h.lt
  obtain ⟨c0, c1, c2, c8, c9, c10, c11, c12, c13⟩ := h.cells
  obtain ⟨i0, hi, hz0, hz1, hz2⟩ := info_parts msg_info
  have Hi := Lib.hid hi
  have Hz := Lib.hid hz0
  have Hz1 := Lib.hid hz1
  have Hz2 := Lib.hid hz2
  rw [show decide (1 ≤ d.step) = false by simp; omega] at c8
  rw [ho] at c0
  have fi : w.frozen? ⟨b, 8, none⟩ = false := h.1.frozen 8
  obtain ⟨W3, hW3⟩ : ∃ W3, W3 = ((w.setCell ⟨b, 8, none⟩ (.bool true)).alloc (.cells #[.int .i64 1, .int .u64 n, .int .u32 c, .slice r.a3 r.l3 r.c3, .int .u32 r.x4, .slice r.a5 r.l5 r.c5, .slice r.a6 r.l6 r.c6] 51)).drew := ⟨_, rfl⟩
  have HP3 : Hid (IsR Y W3 b { d with step := 1 }) := Lib.hid ⟨by have := ((h.1.set 8 (.bool true)).alloc (.cells #[.int .i64 1, .int .u64 n, .int .u32 c, .slice r.a3 r.l3 r.c3, .int .u32 r.x4, .slice r.a5 r.l5 r.c5, .slice r.a6 r.l6 r.c6] 51)).drew; rw [← hW3] at this; rwa [show (rpC d Y).setIfInBounds 8 (.bool true) = rpC { d with step := 1 } Y by simp [rpC, hs]] at this, by have := h.2; simp [hs] at this ⊢; omega⟩
  have HK3 : Hid (Kp (fun i => i = b) w W3) := Lib.hid (by rw [hW3]; exact ((Kp.setCell (S := fun i => i = b) (Kp.refl _ w) (fun _ => rfl) _).alloc _).drew)
  have HW3 := Lib.hid hW3
  clear h hs ho hn hi hz0 hz1 hz2 hW3
  unfold msgV
  go_enter Tryd.func20, Tryd.ntmps20
  go_upto_region 5 with (fail)
  go_region
  go_upto_region 11 with (fail)
  rw [← HW3.out]
  have HSRC := Lib.hid (Bk.src (Bk.new W3 51 ([.int .i64 11, .int .u64 0, .int .u32 1, .slice none 0 0, .int .u32 0, .slice none 0 0, .slice none 0 0, .int .i64 2, .int .u64 0, .int .u32 0, .slice none 0 0, .int .u32 0, .slice none 0 0, .slice none 0 0] : List Value).toArray))
  go_wp2_with (at_builtin; go_must (refine wpList_app _ rfl (.tmp 36) (.tmp 39) _ rfl W3.heap.size 51 i0 _ 7 104 Tryd.underlying42 Hi.out Hz.out Hz1.out Hz2.out rfl (by decide) (.slice none 0 0) 0 [] (by rfl) (World.ownsRow_nil _ _ _ _) (some ⟨W3.heap.size, 0, none⟩) 2 2 [.int .i64 11, .int .u64 0, .int .u32 1, .slice none 0 0, .int .u32 0, .slice none 0 0, .slice none 0 0, .int .i64 2, .int .u64 0, .int .u32 0, .slice none 0 0, .int .u32 0, .slice none 0 0, .slice none 0 0] (by rfl) (by rfl) HSRC.out (by decide) (by unfold maxLen; omega) (by omega) (by simp) ?_); intro v8 w8 hrow8 hg8 hat8)
  have hk8 : Kp (fun _ => False) W3 w8 := ((Kp.refl _ W3).alloc _).grown hg8 (fun k hk _ => by simp [Value.ownBlock] at hk)
  obtain ⟨A8, c8', rfl, _⟩ := own_form hrow8
  refine bodyPost_ret (results_tmp3 rfl _ _ _) rfl ?_
  refine rhearP_mk HH.out ?_ (HP3.out.below hk8.below) (HK3.out.trans_of hk8 (fun _ _ h => h.elim))
  exact Outs.mono (show w8.ownsRow _ _ 7 _ _ _ from hrow8) HK3.out.size
theorem rhear_version_in (b : Nat) (d : PeerD) (n c : Int) (r : MsgR) (w : World) (h : IsR Y w b d) (w0 : 0 ≤ n) (hs : d.step = 0) (hn : n ≠ d.nonce) (ho : d.out = false) :
    Calls Tryd.prog 20 #[.pointer (some ⟨b, 0, none⟩), msgV 1 n c r] w (RHearP Y b d 1 n c w) := by
  have HH := Lib.hid (show heard d 1 n c = ([(1, d.nonce, 1), (11, 0, 1), (2, 0, 0)], 0, true, { d with step := 1 }) by simp [heard, hs, hn, ho])
  have hne : (n == (d.nonce : Int)) = false := by rw [beq_eq_false_iff_ne]; exact hn
  have hlt := h.lt
  obtain ⟨c0, c1, c2, c8, c9, c10, c11, c12, c13⟩ := h.cells
  obtain ⟨i0, hi, hz0, hz1, hz2⟩ := info_parts msg_info
  have Hi := Lib.hid hi
  have Hz := Lib.hid hz0
  have Hz1 := Lib.hid hz1
  have Hz2 := Lib.hid hz2
  rw [show decide (1 ≤ d.step) = false by simp; omega] at c8
  rw [ho] at c0
  have fi : w.frozen? ⟨b, 8, none⟩ = false := h.1.frozen 8
  obtain ⟨W3, hW3⟩ : ∃ W3, W3 = ((w.setCell ⟨b, 8, none⟩ (.bool true)).alloc (.cells #[.int .i64 1, .int .u64 n, .int .u32 c, .slice r.a3 r.l3 r.c3, .int .u32 r.x4, .slice r.a5 r.l5 r.c5, .slice r.a6 r.l6 r.c6] 51)).drew := ⟨_, rfl⟩
  have HP3 : Hid (IsR Y W3 b { d with step := 1 }) := Lib.hid ⟨by have := ((h.1.set 8 (.bool true)).alloc (.cells #[.int .i64 1, .int .u64 n, .int .u32 c, .slice r.a3 r.l3 r.c3, .int .u32 r.x4, .slice r.a5 r.l5 r.c5, .slice r.a6 r.l6 r.c6] 51)).drew; rw [← hW3] at this; rwa [show (rpC d Y).setIfInBounds 8 (.bool true) = rpC { d with step := 1 } Y by simp [rpC, hs]] at this, by have := h.2; simp [hs] at this ⊢; omega⟩
  have HK3 : Hid (Kp (fun i => i = b) w W3) := Lib.hid (by rw [hW3]; exact ((Kp.setCell (S := fun i => i = b) (Kp.refl _ w) (fun _ => rfl) _).alloc _).drew)
  have HW3 := Lib.hid hW3
  clear h hs ho hn hi hz0 hz1 hz2 hW3
  unfold msgV
  go_enter Tryd.func20, Tryd.ntmps20
  go_upto_region 5 with (fail)
  go_region
  go_upto_region 10 with (fail)
  rw [← HW3.out]
  have HV := Lib.hid (rversion_any b _ W3 HP3.out)
  go_wp2_with fail
  refine HV.out.mono ?_
  rintro e w4 ⟨rfl, hb4⟩
  have hz4 := hb4.size
  have HB4 := Lib.hid hb4
  clear hb4
  unfold msgCells
  have HS1 := Lib.hid (Bk.src (Bk.new w4 51 ([.int .i64 1, .int .u64 (d.nonce : Int), .int .u32 1, .slice none 0 0, .int .u32 0, .slice none 0 0, .slice none 0 0] : List Value).toArray))
  go_upto_region 11 with (at_builtin; go_must (refine wpList_app _ rfl (.tmp 31) (.tmp 34) _ rfl w4.heap.size 51 i0 _ 7 104 Tryd.underlying42 Hi.out Hz.out Hz1.out Hz2.out rfl (by decide) (.slice none 0 0) 0 [] (by rfl) (World.ownsRow_nil _ _ _ _) (some ⟨w4.heap.size, 0, none⟩) 1 1 [.int .i64 1, .int .u64 (d.nonce : Int), .int .u32 1, .slice none 0 0, .int .u32 0, .slice none 0 0, .slice none 0 0] (by rfl) (by rfl) HS1.out (by intro u hu; simp only [List.mem_cons, List.not_mem_nil, or_false] at hu; rcases hu with rfl | rfl | rfl | rfl | rfl | rfl | rfl <;> rfl) (by unfold maxLen; omega) (by omega) (by simp) ?_); intro v8 w8 hrow8 hg8 hat8)
  have hk8 : Kp (fun _ => False) w4 w8 := ((Kp.refl _ w4).alloc _).grown hg8 (fun k hk _ => by simp [Value.ownBlock] at hk)
  have HK8 := Lib.hid hk8
  have hz8 := hk8.size
  obtain ⟨A8, c8', rfl, hl8⟩ := own_form hrow8
  have HR8 := Lib.hid hrow8
  have HL8 := Lib.hid (own_lt hrow8)
  clear hrow8 hg8 hat8 hk8 hl8
  have HSRC := Lib.hid (Bk.src (Bk.new w8 51 ([.int .i64 11, .int .u64 0, .int .u32 1, .slice none 0 0, .int .u32 0, .slice none 0 0, .slice none 0 0, .int .i64 2, .int .u64 0, .int .u32 0, .slice none 0 0, .int .u32 0, .slice none 0 0, .slice none 0 0] : List Value).toArray))
  go_wp2_with (at_builtin; go_must (refine wpList_app _ rfl (.tmp 36) (.tmp 39) _ rfl w4.heap.size 51 i0 _ 7 104 Tryd.underlying42 Hi.out Hz.out Hz1.out Hz2.out rfl (by decide) (.slice A8 1 c8') 1 [.int .i64 1, .int .u64 (d.nonce : Int), .int .u32 1, .slice none 0 0, .int .u32 0, .slice none 0 0, .slice none 0 0] (by rfl) (own_below HR8.out (Joins.below_alloc1 _ _)) (some ⟨w8.heap.size, 0, none⟩) 2 2 [.int .i64 11, .int .u64 0, .int .u32 1, .slice none 0 0, .int .u32 0, .slice none 0 0, .slice none 0 0, .int .i64 2, .int .u64 0, .int .u32 0, .slice none 0 0, .int .u32 0, .slice none 0 0, .slice none 0 0] (by rfl) (by rfl) HSRC.out (by decide) (by unfold maxLen; omega) (by omega) (by simp; omega) ?_); intro v9 w9 hrow9 hg9 hat9)
  have hk9 : Kp (fun i => w4.heap.size ≤ i) w8 w9 := ((Kp.refl _ w8).alloc _).grown hg9 (fun k hk _ => (HL8.out k hk).1)
  have hkb : Kp (fun _ => False) W3 w9 := ((Kp.of_below (S := fun _ => False) HB4.out).trans_of HK8.out (fun _ _ h => h)).trans_of hk9 (fun i hi h => by omega)
  obtain ⟨A9, c9', rfl, _⟩ := own_form hrow9
  refine bodyPost_ret (results_tmp3 rfl _ _ _) rfl ?_
  refine rhearP_mk HH.out ?_ (HP3.out.below hkb.below) (HK3.out.trans_of hkb (fun _ _ h => h.elim))
  exact Outs.mono (show w9.ownsRow _ _ 7 _ _ _ from hrow9) (Nat.le_trans HK3.out.size hz4)
theorem rhear_any (b : Nat) (d : PeerD) (k n c : Int) (r : MsgR) (w : World) (h : IsR Y w b d) (w0 : 0 ≤ n) (hs : d.step ≤ 2) :
    Calls Tryd.prog 20 #[.pointer (some ⟨b, 0, none⟩), msgV k n c r] w (RHearP Y b d k n c w) := by
  by_cases h1 : k = 1
  · subst h1
    by_cases e : d.step = 0
    · by_cases hn : n = d.nonce
      · exact rhear_version_self b d n c r w h w0 e hn
      · cases ho : d.out with
        | true => exact rhear_version_out b d n c r w h w0 e hn ho
        | false => exact rhear_version_in b d n c r w h w0 e hn ho
    · exact rhear_version_wrong b d n c r w h e
  by_cases h11 : k = 11
  · subst h11
    rcases (by omega : d.step = 0 ∨ d.step = 1 ∨ d.step = 2) with e | e | e
    · exact rhear_send_wrong0 b d n c r w h e
    · exact rhear_send b d n c r w h e
    · exact rhear_send_wrong2 b d n c r w h e
  by_cases h2 : k = 2
  · subst h2
    rcases (by omega : d.step = 0 ∨ d.step = 1 ∨ d.step = 2) with e | e | e
    · exact rhear_ack_wrong0 b d n c r w h e
    · exact rhear_ack b d n c r w h e
    · exact rhear_ack_wrong2 b d n c r w h e
  by_cases e : d.step = 2
  · by_cases h9 : k = 9
    · subst h9; exact rhear_stem_on b d n c r w h e
    by_cases h3 : k = 3
    · subst h3; exact rhear_ping b d n c r w h w0 e
    by_cases h4 : k = 4
    · subst h4
      by_cases hn : n = (d.pings : Int)
      · exact rhear_pong_yes b d n c r w h e hn
      · exact rhear_pong_no b d n c r w h e hn
    exact rhear_other b d k n c r w h h1 h2 h11 h9 h3 h4 e
  · by_cases h9 : k = 9
    · subst h9; exact rhear_stem b d n c r w h e
    by_cases h3 : k = 3
    · subst h3; exact rhear_ping_wrong b d n c r w h e
    by_cases h4 : k = 4
    · subst h4; exact rhear_pong_wrong b d n c r w h e
    exact rhear_wrong b d k n c r w h h1 h2 h11 h9 h3 h4 e
end Go.Proofs.YtpacgblddeoheaaDoor.P22
