/- What a peer hears: each kind of message, each step. -/
import Derived.Test.YtpacgblddeoheaaPeerHear
namespace Go.Proofs.Ytpacgblddeoheaa
open Go.RowKit Go.Deep
set_option linter.unusedVariables false
set_option maxRecDepth 100000
attribute [local go_sem ↓] Go.wp_at_zero Go.wp_at_succ

/-- what a message holds beside its kind, its number, its code -/
structure MsgR where
  a3 : Option Addr
  l3 : Nat
  c3 : Nat
  x4 : Int
  a5 : Option Addr
  l5 : Nat
  c5 : Nat
  a6 : Option Addr
  l6 : Nat
  c6 : Nat
def msgV (k n c : Int) (r : MsgR) : Value := .agg #[.int .i64 k, .int .u64 n, .int .u32 c, .slice r.a3 r.l3 r.c3, .int .u32 r.x4, .slice r.a5 r.l5 r.c5, .slice r.a6 r.l6 r.c6]
abbrev hearR (v : Value) (e : Int) (mine : Bool) : Ending := .returned (.tuple #[v, .int .i64 e, .bool mine])
/-- what becomes of a peer that hears a message: what it says, the error's number, whether it was its own, the peer behind it -/
def heard (d : PeerD) (k n c : Int) : List (Nat × Nat × Nat) × Int × Bool × PeerD :=
  if k = 1 then
    if d.step ≠ 0 then ([], 20, true, d)
    else if n = d.nonce then ([], 22, true, d)
    else if d.out then ([(11, 0, 1), (2, 0, 0)], 0, true, { d with step := 1 })
    else ([(1, d.nonce, 1), (11, 0, 1), (2, 0, 0)], 0, true, { d with step := 1 })
  else if k = 11 then (if d.step ≠ 1 then ([], 20, true, d) else ([], 0, true, { d with takes := c == 1 }))
  else if k = 2 then (if d.step ≠ 1 then ([], 20, true, d) else ([], 0, true, { d with step := 2 }))
  else if d.step ≠ 2 then ([], (if k = 9 then 0 else 20), true, d)
  else if k = 3 then ([(4, n.toNat, 0)], 0, true, d)
  else if k = 4 then ([], 0, true, { d with waits := d.waits && n != (d.pings : Int) })
  else ([], 0, false, d)
def HearP (b : Nat) (d : PeerD) (k n c : Int) (w : World) (e : Ending) (w' : World) : Prop :=
  ∃ v, e = hearR v (heard d k n c).2.1 (heard d k n c).2.2.1 ∧ Outs w' w.heap.size v (heard d k n c).1 ∧ IsPeer w' b (heard d k n c).2.2.2 ∧ Kp (fun i => i = b) w w'
theorem IsPeer.alloc {w : World} {b : Nat} {d : PeerD} (h : IsPeer w b d) (o : Obj) : IsPeer (w.alloc o) b d := by obtain ⟨f, g, q, hb⟩ := h; exact ⟨f, g, q, hb.alloc o⟩
theorem hearP_mk {b : Nat} {d d' : PeerD} {k n c : Int} {w w' : World} {v : Value} {l : List (Nat × Nat × Nat)} {x : Int} {m : Bool} (hh : heard d k n c = (l, x, m, d')) (h1 : Outs w' w.heap.size v l) (h2 : IsPeer w' b d') (h3 : Kp (fun i => i = b) w w') :
    HearP b d k n c w (hearR v x m) w' := by
  refine ⟨v, ?_, ?_, ?_, h3⟩ <;> rw [hh] <;> first | rfl | assumption
/-- the plain end: nothing said, the peer as it was -/
theorem hearP_same {b : Nat} {d : PeerD} {k n c : Int} {w : World} {x : Int} {m : Bool} {o : Obj} (hp : Hid (IsPeer w b d)) (hh : Hid (heard d k n c = ([], x, m, d))) : HearP b d k n c w (hearR (.slice none 0 0) x m) (w.alloc o) :=
  hearP_mk hh.out (Outs.nil _ _) (hp.out.alloc o) ((Kp.refl _ w).alloc o)
theorem hear_send_wrong (b : Nat) (d : PeerD) (n c : Int) (r : MsgR) (w : World) (h : IsPeer w b d) (hs : d.step ≠ 1) :
    Calls Try.prog 9 #[.pointer (some ⟨b, 0, none⟩), msgV 11 n c r] w (HearP b d 11 n c w) := by
  have HH := Lib.hid (show heard d 11 n c = ([], 20, true, d) by simp [heard, hs])
  have hlt := h.lt
  have HP := Lib.hid h
  obtain ⟨f, g, q, c0, c1, c2, c3, c4, c5, c6, c7, c8, c9⟩ := h.cells
  have es : ((d.step : Int) != 1) = true := by rw [bne_iff_ne]; omega
  clear h hs
  unfold msgV
  go_enter Try.func9, Try.ntmps9
  go_wp2
  refine bodyPost_ret (results_tmp3 rfl _ _ _) rfl ?_
  exact hearP_same HP HH

theorem hear_ack_wrong (b : Nat) (d : PeerD) (n c : Int) (r : MsgR) (w : World) (h : IsPeer w b d) (hs : d.step ≠ 1) :
    Calls Try.prog 9 #[.pointer (some ⟨b, 0, none⟩), msgV 2 n c r] w (HearP b d 2 n c w) := by
  have HH := Lib.hid (show heard d 2 n c = ([], 20, true, d) by simp [heard, hs])
  have hlt := h.lt
  have HP := Lib.hid h
  obtain ⟨f, g, q, c0, c1, c2, c3, c4, c5, c6, c7, c8, c9⟩ := h.cells
  have es : ((d.step : Int) != 1) = true := by rw [bne_iff_ne]; omega
  clear h hs
  unfold msgV
  go_enter Try.func9, Try.ntmps9
  go_wp2
  refine bodyPost_ret (results_tmp3 rfl _ _ _) rfl ?_
  exact hearP_same HP HH

theorem hear_ping_wrong (b : Nat) (d : PeerD) (n c : Int) (r : MsgR) (w : World) (h : IsPeer w b d) (hs : d.step ≠ 2) :
    Calls Try.prog 9 #[.pointer (some ⟨b, 0, none⟩), msgV 3 n c r] w (HearP b d 3 n c w) := by
  have HH := Lib.hid (show heard d 3 n c = ([], 20, true, d) by simp [heard, hs])
  have hlt := h.lt
  have HP := Lib.hid h
  obtain ⟨f, g, q, c0, c1, c2, c3, c4, c5, c6, c7, c8, c9⟩ := h.cells
  have es : ((d.step : Int) != 2) = true := by rw [bne_iff_ne]; omega
  clear h hs
  unfold msgV
  go_enter Try.func9, Try.ntmps9
  go_wp2
  refine bodyPost_ret (results_tmp3 rfl _ _ _) rfl ?_
  exact hearP_same HP HH

theorem hear_pong_wrong (b : Nat) (d : PeerD) (n c : Int) (r : MsgR) (w : World) (h : IsPeer w b d) (hs : d.step ≠ 2) :
    Calls Try.prog 9 #[.pointer (some ⟨b, 0, none⟩), msgV 4 n c r] w (HearP b d 4 n c w) := by
  have HH := Lib.hid (show heard d 4 n c = ([], 20, true, d) by simp [heard, hs])
  have hlt := h.lt
  have HP := Lib.hid h
  obtain ⟨f, g, q, c0, c1, c2, c3, c4, c5, c6, c7, c8, c9⟩ := h.cells
  have es : ((d.step : Int) != 2) = true := by rw [bne_iff_ne]; omega
  clear h hs
  unfold msgV
  go_enter Try.func9, Try.ntmps9
  go_wp2
  refine bodyPost_ret (results_tmp3 rfl _ _ _) rfl ?_
  exact hearP_same HP HH

theorem hear_stem (b : Nat) (d : PeerD) (n c : Int) (r : MsgR) (w : World) (h : IsPeer w b d) (hs : d.step ≠ 2) :
    Calls Try.prog 9 #[.pointer (some ⟨b, 0, none⟩), msgV 9 n c r] w (HearP b d 9 n c w) := by
  have HH := Lib.hid (show heard d 9 n c = ([], 0, true, d) by simp [heard, hs])
  have hlt := h.lt
  have HP := Lib.hid h
  obtain ⟨f, g, q, c0, c1, c2, c3, c4, c5, c6, c7, c8, c9⟩ := h.cells
  have es : ((d.step : Int) != 2) = true := by rw [bne_iff_ne]; omega
  clear h hs
  unfold msgV
  go_enter Try.func9, Try.ntmps9
  go_wp2
  refine bodyPost_ret (results_tmp3 rfl _ _ _) rfl ?_
  exact hearP_same HP HH

theorem hear_wrong (b : Nat) (d : PeerD) (k n c : Int) (r : MsgR) (w : World) (h : IsPeer w b d) (h1 : k ≠ 1) (h2 : k ≠ 2) (h11 : k ≠ 11) (h9 : k ≠ 9) (hs : d.step ≠ 2) :
    Calls Try.prog 9 #[.pointer (some ⟨b, 0, none⟩), msgV k n c r] w (HearP b d k n c w) := by
  have HH := Lib.hid (show heard d k n c = ([], 20, true, d) by simp [heard, hs, h1, h2, h11, h9])
  have hlt := h.lt
  have HP := Lib.hid h
  obtain ⟨f, g, q, c0, c1, c2, c3, c4, c5, c6, c7, c8, c9⟩ := h.cells
  have e1 : (k == 1) = false := by rw [beq_eq_false_iff_ne]; exact h1
  have e2 : (k == 2) = false := by rw [beq_eq_false_iff_ne]; exact h2
  have e11 : (k == 11) = false := by rw [beq_eq_false_iff_ne]; exact h11
  have e9 : (k == 9) = false := by rw [beq_eq_false_iff_ne]; exact h9
  have es : ((d.step : Int) != 2) = true := by rw [bne_iff_ne]; omega
  clear h hs h1 h2 h11 h9
  unfold msgV
  go_enter Try.func9, Try.ntmps9
  go_wp2
  refine bodyPost_ret (results_tmp3 rfl _ _ _) rfl ?_
  exact hearP_same HP HH

theorem hear_other (b : Nat) (d : PeerD) (k n c : Int) (r : MsgR) (w : World) (h : IsPeer w b d) (h1 : k ≠ 1) (h2 : k ≠ 2) (h11 : k ≠ 11) (h9 : k ≠ 9) (h3 : k ≠ 3) (h4 : k ≠ 4) (hs : d.step = 2) :
    Calls Try.prog 9 #[.pointer (some ⟨b, 0, none⟩), msgV k n c r] w (HearP b d k n c w) := by
  have HH := Lib.hid (show heard d k n c = ([], 0, false, d) by simp [heard, hs, h1, h2, h11, h3, h4])
  have hlt := h.lt
  have HP := Lib.hid h
  obtain ⟨f, g, q, c0, c1, c2, c3, c4, c5, c6, c7, c8, c9⟩ := h.cells
  have c2' : w.cell? ⟨b, 2, none⟩ = some (.int .i64 2) := by rw [c2, hs]; rfl
  clear c2
  have e1 : (k == 1) = false := by rw [beq_eq_false_iff_ne]; exact h1
  have e2 : (k == 2) = false := by rw [beq_eq_false_iff_ne]; exact h2
  have e11 : (k == 11) = false := by rw [beq_eq_false_iff_ne]; exact h11
  have e9 : (k == 9) = false := by rw [beq_eq_false_iff_ne]; exact h9
  have e3 : (k == 3) = false := by rw [beq_eq_false_iff_ne]; exact h3
  have e4 : (k == 4) = false := by rw [beq_eq_false_iff_ne]; exact h4
  clear h hs h1 h2 h11 h9 h3 h4
  unfold msgV
  go_enter Try.func9, Try.ntmps9
  go_wp2
  refine bodyPost_ret (results_tmp3 rfl _ _ _) rfl ?_
  exact hearP_same HP HH

theorem hear_stem_on (b : Nat) (d : PeerD) (n c : Int) (r : MsgR) (w : World) (h : IsPeer w b d) (hs : d.step = 2) :
    Calls Try.prog 9 #[.pointer (some ⟨b, 0, none⟩), msgV 9 n c r] w (HearP b d 9 n c w) := by
  have HH := Lib.hid (show heard d 9 n c = ([], 0, false, d) by simp [heard, hs])
  have hlt := h.lt
  have HP := Lib.hid h
  obtain ⟨f, g, q, c0, c1, c2, c3, c4, c5, c6, c7, c8, c9⟩ := h.cells
  have c2' : w.cell? ⟨b, 2, none⟩ = some (.int .i64 2) := by rw [c2, hs]; rfl
  clear c2
  clear h hs
  unfold msgV
  go_enter Try.func9, Try.ntmps9
  go_wp2
  refine bodyPost_ret (results_tmp3 rfl _ _ _) rfl ?_
  exact hearP_same HP HH

theorem hear_version_wrong (b : Nat) (d : PeerD) (n c : Int) (r : MsgR) (w : World) (h : IsPeer w b d) (w0 : 0 ≤ n) (hs : d.step ≠ 0) :
    Calls Try.prog 9 #[.pointer (some ⟨b, 0, none⟩), msgV 1 n c r] w (HearP b d 1 n c w) := by
  obtain ⟨n, rfl⟩ := Int.eq_ofNat_of_zero_le w0
  have HH := Lib.hid (show heard d 1 (n : Int) c = ([], 20, true, d) by simp [heard, hs])
  have HG := Lib.hid (fun m : Obj => greet_wrong b d n (w.alloc m) (h.alloc m) hs)
  have HP := Lib.hid h
  clear h hs
  unfold msgV
  go_enter Try.func9, Try.ntmps9
  go_wp2_with fail
  refine (HG.out _).mono ?_
  rintro e w1 ⟨rfl, rfl⟩
  go_wp2
  refine bodyPost_ret (results_tmp3 rfl _ _ _) rfl ?_
  exact hearP_same HP HH

theorem hear_version_self (b : Nat) (d : PeerD) (n c : Int) (r : MsgR) (w : World) (h : IsPeer w b d) (w0 : 0 ≤ n) (hs : d.step = 0) (hn : n = d.nonce) :
    Calls Try.prog 9 #[.pointer (some ⟨b, 0, none⟩), msgV 1 n c r] w (HearP b d 1 n c w) := by
  obtain ⟨n, rfl⟩ := Int.eq_ofNat_of_zero_le w0
  have HH := Lib.hid (show heard d 1 (n : Int) c = ([], 22, true, d) by simp [heard, hs, hn])
  have HG := Lib.hid (fun m : Obj => greet_self b d n (w.alloc m) (h.alloc m) hs (by omega))
  have HP := Lib.hid h
  clear h hs hn
  unfold msgV
  go_enter Try.func9, Try.ntmps9
  go_wp2_with fail
  refine (HG.out _).mono ?_
  rintro e w1 ⟨rfl, rfl⟩
  go_wp2
  refine bodyPost_ret (results_tmp3 rfl _ _ _) rfl ?_
  exact hearP_same HP HH

theorem hear_version_out (b : Nat) (d : PeerD) (n c : Int) (r : MsgR) (w : World) (h : IsPeer w b d) (w0 : 0 ≤ n) (hs : d.step = 0) (hn : n ≠ d.nonce) (ho : d.out = true) :
    Calls Try.prog 9 #[.pointer (some ⟨b, 0, none⟩), msgV 1 n c r] w (HearP b d 1 n c w) := by
  obtain ⟨n, rfl⟩ := Int.eq_ofNat_of_zero_le w0
  have HH := Lib.hid (show heard d 1 (n : Int) c = ([(11, 0, 1), (2, 0, 0)], 0, true, { d with step := 1 }) by simp [heard, hs, hn, ho])
  have HG := Lib.hid (fun m : Obj => greet_out b d n (w.alloc m) (h.alloc m) hs (by omega) ho)
  have HP := Lib.hid h
  clear h hs hn ho
  unfold msgV
  go_enter Try.func9, Try.ntmps9
  go_wp2_with fail
  refine (HG.out _).mono ?_
  rintro e w1 ⟨v, rfl, ho, hp, hkp⟩
  go_wp2
  refine bodyPost_ret (results_tmp3 rfl _ _ _) rfl ?_
  exact hearP_mk HH.out (Outs.mono ho (by simp)) hp (((Kp.refl _ w).alloc _).trans hkp)

theorem hear_version_in (b : Nat) (d : PeerD) (n c : Int) (r : MsgR) (w : World) (h : IsPeer w b d) (w0 : 0 ≤ n) (hs : d.step = 0) (hn : n ≠ d.nonce) (ho : d.out = false) :
    Calls Try.prog 9 #[.pointer (some ⟨b, 0, none⟩), msgV 1 n c r] w (HearP b d 1 n c w) := by
  obtain ⟨n, rfl⟩ := Int.eq_ofNat_of_zero_le w0
  have HH := Lib.hid (show heard d 1 (n : Int) c = ([(1, d.nonce, 1), (11, 0, 1), (2, 0, 0)], 0, true, { d with step := 1 }) by simp [heard, hs, hn, ho])
  have HG := Lib.hid (fun m : Obj => greet_in b d n (w.alloc m) (h.alloc m) hs (by omega) ho)
  have HP := Lib.hid h
  clear h hs hn ho
  unfold msgV
  go_enter Try.func9, Try.ntmps9
  go_wp2_with fail
  refine (HG.out _).mono ?_
  rintro e w1 ⟨v, rfl, ho, hp, hkp⟩
  go_wp2
  refine bodyPost_ret (results_tmp3 rfl _ _ _) rfl ?_
  exact hearP_mk HH.out (Outs.mono ho (by simp)) hp (((Kp.refl _ w).alloc _).trans hkp)

theorem hear_send (b : Nat) (d : PeerD) (n c : Int) (r : MsgR) (w : World) (h : IsPeer w b d) (hs : d.step = 1) :
    Calls Try.prog 9 #[.pointer (some ⟨b, 0, none⟩), msgV 11 n c r] w (HearP b d 11 n c w) := by
  have HH := Lib.hid (show heard d 11 n c = ([], 0, true, { d with takes := c == 1 }) by simp [heard, hs])
  have hlt := h.lt
  obtain ⟨f, g, q, hb⟩ := h
  obtain ⟨f', g', q', c0, c1, c2, c3, c4, c5, c6, c7, c8, c9⟩ := IsPeer.cells ⟨f, g, q, hb⟩
  have c2' : w.cell? ⟨b, 2, none⟩ = some (.int .i64 1) := by rw [c2, hs]; rfl
  clear c2
  have f3 : w.frozen? ⟨b, 3, none⟩ = false := hb.frozen 3
  have HP : ∀ o : Obj, Hid (IsPeer ((w.setCell ⟨b, 3, none⟩ (.bool (c == 1))).alloc o) b { d with takes := c == 1 }) := fun o => Lib.hid ⟨f, g, q, by have := (hb.set 3 (.bool (c == 1))).alloc o; rwa [show (peerCells d f g (some q)).setIfInBounds 3 (.bool (c == 1)) = peerCells { d with takes := c == 1 } f g (some q) by simp [peerCells]] at this⟩
  have HK : ∀ o : Obj, Hid (Kp (fun i => i = b) w ((w.setCell ⟨b, 3, none⟩ (.bool (c == 1))).alloc o)) := fun o => Lib.hid ((Kp.setCell (S := fun i => i = b) (Kp.refl _ w) (fun _ => rfl) _).alloc o)
  clear hb hs
  unfold msgV
  go_enter Try.func9, Try.ntmps9
  go_wp2
  refine bodyPost_ret (results_tmp3 rfl _ _ _) rfl ?_
  exact hearP_mk HH.out (Outs.nil _ _) (HP _).out (HK _).out

theorem hear_ack (b : Nat) (d : PeerD) (n c : Int) (r : MsgR) (w : World) (h : IsPeer w b d) (hs : d.step = 1) :
    Calls Try.prog 9 #[.pointer (some ⟨b, 0, none⟩), msgV 2 n c r] w (HearP b d 2 n c w) := by
  have HH := Lib.hid (show heard d 2 n c = ([], 0, true, { d with step := 2 }) by simp [heard, hs])
  have hlt := h.lt
  obtain ⟨f, g, q, hb⟩ := h
  obtain ⟨f', g', q', c0, c1, c2, c3, c4, c5, c6, c7, c8, c9⟩ := IsPeer.cells ⟨f, g, q, hb⟩
  have c2' : w.cell? ⟨b, 2, none⟩ = some (.int .i64 1) := by rw [c2, hs]; rfl
  clear c2
  have f2 : w.frozen? ⟨b, 2, none⟩ = false := hb.frozen 2
  have HP : ∀ o : Obj, Hid (IsPeer ((w.setCell ⟨b, 2, none⟩ (.int .i64 2)).alloc o) b { d with step := 2 }) := fun o => Lib.hid ⟨f, g, q, by have := (hb.set 2 (.int .i64 2)).alloc o; rwa [show (peerCells d f g (some q)).setIfInBounds 2 (.int .i64 2) = peerCells { d with step := 2 } f g (some q) by simp [peerCells]] at this⟩
  have HK : ∀ o : Obj, Hid (Kp (fun i => i = b) w ((w.setCell ⟨b, 2, none⟩ (.int .i64 2)).alloc o)) := fun o => Lib.hid ((Kp.setCell (S := fun i => i = b) (Kp.refl _ w) (fun _ => rfl) _).alloc o)
  clear hb hs
  unfold msgV
  go_enter Try.func9, Try.ntmps9
  go_wp2
  refine bodyPost_ret (results_tmp3 rfl _ _ _) rfl ?_
  exact hearP_mk HH.out (Outs.nil _ _) (HP _).out (HK _).out

theorem hear_ping (b : Nat) (d : PeerD) (n c : Int) (r : MsgR) (w : World) (h : IsPeer w b d) (hs : d.step = 2) (w0 : 0 ≤ n) :
    Calls Try.prog 9 #[.pointer (some ⟨b, 0, none⟩), msgV 3 n c r] w (HearP b d 3 n c w) := by
  obtain ⟨n, rfl⟩ := Int.eq_ofNat_of_zero_le w0
  have HH := Lib.hid (show heard d 3 (n : Int) c = ([(4, n, 0)], 0, true, d) by simp [heard, hs])
  have hlt := h.lt
  have HP := Lib.hid h
  obtain ⟨f, g, q, c0, c1, c2, c3, c4, c5, c6, c7, c8, c9⟩ := h.cells
  have c2' : w.cell? ⟨b, 2, none⟩ = some (.int .i64 2) := by rw [c2, hs]; rfl
  clear c2
  have HB : ∀ o : Obj, Hid (Bk ((w.alloc o).alloc (.cells (msgCells 4 n 0) 32)) (w.heap.size + 1) 32 (msgCells 4 n 0)) := fun o => Lib.hid (by have := Bk.new (w.alloc o) 32 (msgCells 4 n 0); rwa [show (w.alloc o).heap.size = w.heap.size + 1 by simp] at this)
  clear h hs
  unfold msgV
  go_enter Try.func9, Try.ntmps9
  go_wp2
  refine bodyPost_ret (results_tmp3 rfl _ _ _) rfl ?_
  exact hearP_mk HH.out (Outs.one (HB _).out (by simp)) ((HP.out.alloc _).alloc _) (((Kp.refl _ w).alloc _).alloc _)

theorem hear_pong_yes (b : Nat) (d : PeerD) (n c : Int) (r : MsgR) (w : World) (h : IsPeer w b d) (hs : d.step = 2) (hw : d.waits = true) :
    Calls Try.prog 9 #[.pointer (some ⟨b, 0, none⟩), msgV 4 n c r] w (HearP b d 4 n c w) := by
  have HH := Lib.hid (show heard d 4 n c = ([], 0, true, { d with waits := n != (d.pings : Int) }) by simp [heard, hs, hw])
  have hlt := h.lt
  obtain ⟨f, g, q, hb⟩ := h
  obtain ⟨f', g', q', c0, c1, c2, c3, c4, c5, c6, c7, c8, c9⟩ := IsPeer.cells ⟨f, g, q, hb⟩
  have c2' : w.cell? ⟨b, 2, none⟩ = some (.int .i64 2) := by rw [c2, hs]; rfl
  clear c2
  have f9 : w.frozen? ⟨b, 9, none⟩ = false := hb.frozen 9
  have HP : ∀ o : Obj, Hid (IsPeer ((w.setCell ⟨b, 9, none⟩ (.bool (n != (d.pings : Int)))).alloc o) b { d with waits := n != (d.pings : Int) }) := fun o => Lib.hid ⟨f, g, q, by have := (hb.set 9 (.bool (n != (d.pings : Int)))).alloc o; rwa [show (peerCells d f g (some q)).setIfInBounds 9 (.bool (n != (d.pings : Int))) = peerCells { d with waits := n != (d.pings : Int) } f g (some q) by simp [peerCells]] at this⟩
  have HK : ∀ o : Obj, Hid (Kp (fun i => i = b) w ((w.setCell ⟨b, 9, none⟩ (.bool (n != (d.pings : Int)))).alloc o)) := fun o => Lib.hid ((Kp.setCell (S := fun i => i = b) (Kp.refl _ w) (fun _ => rfl) _).alloc o)
  clear hb hs
  rw [hw] at c9
  clear hw
  unfold msgV
  go_enter Try.func9, Try.ntmps9
  go_wp2
  go_region
  all_goals go_wp2
  refine bodyPost_ret (results_tmp3 rfl _ _ _) rfl ?_
  exact hearP_mk HH.out (Outs.nil _ _) (HP _).out (HK _).out.drew

theorem hear_pong_no (b : Nat) (d : PeerD) (n c : Int) (r : MsgR) (w : World) (h : IsPeer w b d) (hs : d.step = 2) (hw : d.waits = false) :
    Calls Try.prog 9 #[.pointer (some ⟨b, 0, none⟩), msgV 4 n c r] w (HearP b d 4 n c w) := by
  have HH := Lib.hid (show heard d 4 n c = ([], 0, true, { d with waits := false }) by simp [heard, hs, hw])
  have hlt := h.lt
  obtain ⟨f, g, q, hb⟩ := h
  obtain ⟨f', g', q', c0, c1, c2, c3, c4, c5, c6, c7, c8, c9⟩ := IsPeer.cells ⟨f, g, q, hb⟩
  have c2' : w.cell? ⟨b, 2, none⟩ = some (.int .i64 2) := by rw [c2, hs]; rfl
  clear c2
  have f9 : w.frozen? ⟨b, 9, none⟩ = false := hb.frozen 9
  have HP : ∀ o : Obj, Hid (IsPeer ((w.setCell ⟨b, 9, none⟩ (.bool false)).alloc o) b { d with waits := false }) := fun o => Lib.hid ⟨f, g, q, by have := (hb.set 9 (.bool false)).alloc o; rwa [show (peerCells d f g (some q)).setIfInBounds 9 (.bool false) = peerCells { d with waits := false } f g (some q) by simp [peerCells]] at this⟩
  have HK : ∀ o : Obj, Hid (Kp (fun i => i = b) w ((w.setCell ⟨b, 9, none⟩ (.bool false)).alloc o)) := fun o => Lib.hid ((Kp.setCell (S := fun i => i = b) (Kp.refl _ w) (fun _ => rfl) _).alloc o)
  clear hb hs
  rw [hw] at c9
  clear hw
  unfold msgV
  go_enter Try.func9, Try.ntmps9
  go_wp2
  go_region
  all_goals go_wp2
  refine bodyPost_ret (results_tmp3 rfl _ _ _) rfl ?_
  exact hearP_mk HH.out (Outs.nil _ _) (HP _).out (HK _).out.drew

theorem hear_any (b : Nat) (d : PeerD) (k n c : Int) (r : MsgR) (w : World) (h : IsPeer w b d) (w0 : 0 ≤ n) (hs : d.step ≤ 2) :
    Calls Try.prog 9 #[.pointer (some ⟨b, 0, none⟩), msgV k n c r] w (HearP b d k n c w) := by
  by_cases h1 : k = 1
  · subst h1
    by_cases e : d.step = 0
    · by_cases hn : n = d.nonce
      · exact hear_version_self b d n c r w h w0 e hn
      · cases ho : d.out with
        | true => exact hear_version_out b d n c r w h w0 e hn ho
        | false => exact hear_version_in b d n c r w h w0 e hn ho
    · exact hear_version_wrong b d n c r w h w0 e
  by_cases h11 : k = 11
  · subst h11
    by_cases e : d.step = 1
    · exact hear_send b d n c r w h e
    · exact hear_send_wrong b d n c r w h e
  by_cases h2 : k = 2
  · subst h2
    by_cases e : d.step = 1
    · exact hear_ack b d n c r w h e
    · exact hear_ack_wrong b d n c r w h e
  by_cases e : d.step = 2
  · by_cases h9 : k = 9
    · subst h9; exact hear_stem_on b d n c r w h e
    by_cases h3 : k = 3
    · subst h3; exact hear_ping b d n c r w h e w0
    by_cases h4 : k = 4
    · subst h4
      cases hw : d.waits with
      | true => exact hear_pong_yes b d n c r w h e hw
      | false => exact hear_pong_no b d n c r w h e hw
    exact hear_other b d k n c r w h h1 h2 h11 h9 h3 h4 e
  · by_cases h9 : k = 9
    · subst h9; exact hear_stem b d n c r w h e
    exact hear_wrong b d k n c r w h h1 h2 h11 h9 e
end Go.Proofs.Ytpacgblddeoheaa
