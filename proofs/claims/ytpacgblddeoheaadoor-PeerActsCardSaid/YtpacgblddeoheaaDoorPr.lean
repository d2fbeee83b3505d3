/- A peer: what it is made of, its pointers fixed; New, Hear, Tick, Open, the law's alive. -/
import Derived.Test.YtpacgblddeoheaaDoorFeedA
import Derived.Lib.SmallJoins
namespace Go.Proofs.YtpacgblddeoheaaDoor.P22
open Go.RowKit Go.Deep
set_option linter.unusedVariables false
set_option linter.unusedSimpArgs false
set_option maxRecDepth 100000
attribute [local go_sem ↓] Go.wp_at_zero Go.wp_at_succ


theorem known_any (w : World) : Calls Tryd.prog 49 #[.int .i64 64] w fun r w' => ∃ p, r = .returned (.tuple #[.pointer (some p), .int .i64 0]) ∧ Below w.heap.size w w' := by
  have hmm := @run_makeMap Tryd.prog
  go_enter Tryd.func49, Tryd.ntmps49
  go_wp2
  go_ret2
  exact ⟨_, rfl, Joins.below_alloc2 _ _ _⟩
theorem trickle_any (w : World) : Calls Tryd.prog 30 #[] w fun r w' => ∃ p, r = .returned (.pointer (some p)) ∧ Below w.heap.size w w' := by
  go_enter Tryd.func30, Tryd.ntmps30
  go_wp2_with fail
  refine (known_any _).mono ?_
  rintro e w1 ⟨p, rfl, hb⟩
  go_wp2
  go_ret
  exact ⟨_, rfl, hb.alloc hb.size _⟩
/-- what a peer is -/
structure PeerD where
  out : Bool
  nonce : Nat
  step : Nat
  takes : Bool
  since : Nat
  pings : Nat
  waits : Bool
def peerCells (d : PeerD) (f g q : Option Addr) : Array Value :=
  #[.bool d.out, .int .u64 d.nonce, .int .i64 d.step, .bool d.takes, .pointer f, .pointer g, .pointer q, .int .u64 d.since, .int .u64 d.pings, .bool d.waits]
abbrev Ptrs := Option Addr × Option Addr × Addr
def IsPeer (X : Ptrs) (w : World) (b : Nat) (d : PeerD) : Prop := ∃ f g q, (f = X.1 ∧ g = X.2.1 ∧ q = X.2.2) ∧ Bk w b 85 (peerCells d f g (some q))
variable {X : Ptrs}
/-- a new peer: its block, its flows' blocks -/
structure NewP (w w' : World) (o : Bool) (n t : Nat) (b F G : Nat) (q : Addr) : Prop where
  peer : IsPeer (some ⟨F, 0, none⟩, some ⟨G, 0, none⟩, q) w' b ⟨o, n, 0, false, t, 0, false⟩
  hb : w.heap.size ≤ b ∧ w.heap.size ≤ F ∧ w.heap.size ≤ G
  ne : F < G ∧ G < b
  fl : ∀ base, FlowS w' F base (.slice none 0 0) ([], false)
  gl : ∀ base, FlowS w' G base (.slice none 0 0) ([], false)
  below : Below w.heap.size w w'
theorem new_any (o : Bool) (n t : Nat) (w : World) : Calls Tryd.prog 8 #[.bool o, .int .u64 (n : Int), .int .u64 (t : Int)] w fun r w' =>
    ∃ b F G q, r = .returned (.pointer (some ⟨b, 0, none⟩)) ∧ NewP w w' o n t b F G q := by
  go_enter Tryd.func8, Tryd.ntmps8
  go_wp2_with fail
  refine (trickle_any _).mono ?_
  rintro e w1 ⟨q, rfl, hb1⟩
  go_wp2_with fail
  refine (flowNew_any w1).mono ?_
  rintro e w2 ⟨rfl, hk2, hz2, hb2⟩
  go_wp2_with fail
  refine (flowNew_any w2).mono ?_
  rintro e w3 ⟨rfl, hk3, hz3, hb3⟩
  have b2 := hb1.trans (hb2.mono hb1.size)
  have b3 := b2.trans (hb3.mono b2.size)
  have hz1 := hb1.size
  have HF := Lib.hid (hk2.below hb3 hk2.lt)
  have HG := Lib.hid hk3
  have HZ2 := Lib.hid hz2
  have HZ3 := Lib.hid hz3
  clear hk2 hk3 hz2 hz3
  go_wp2
  go_ret
  have hz2 := HZ2.out
  have hz3 := HZ3.out
  refine ⟨w3.heap.size, w1.heap.size, w2.heap.size, q, rfl, ⟨⟨some ⟨w1.heap.size, 0, none⟩, some ⟨w2.heap.size, 0, none⟩, q, ⟨rfl, rfl, rfl⟩, Bk.new _ _ _⟩, ⟨by omega, by omega, by omega⟩, ⟨by omega, by omega⟩, fun base => FlowS.new w base _ _ (HF.out.alloc _), fun base => FlowS.new w base _ _ (HG.out.alloc _), b3.alloc b3.size _⟩⟩
theorem IsPeer.cells {w : World} {b : Nat} {d : PeerD} (h : IsPeer X w b d) : ∃ f g q, w.cell? ⟨b, 0, none⟩ = some (.bool d.out) ∧ w.cell? ⟨b, 1, none⟩ = some (.int .u64 d.nonce) ∧ w.cell? ⟨b, 2, none⟩ = some (.int .i64 d.step) ∧
    w.cell? ⟨b, 3, none⟩ = some (.bool d.takes) ∧ w.cell? ⟨b, 4, none⟩ = some (.pointer f) ∧ w.cell? ⟨b, 5, none⟩ = some (.pointer g) ∧ w.cell? ⟨b, 6, none⟩ = some (.pointer (some q)) ∧ w.cell? ⟨b, 7, none⟩ = some (.int .u64 d.since) ∧
    w.cell? ⟨b, 8, none⟩ = some (.int .u64 d.pings) ∧ w.cell? ⟨b, 9, none⟩ = some (.bool d.waits) := by
  obtain ⟨f, g, q, he, hb⟩ := h
  refine ⟨f, g, q, ?_, ?_, ?_, ?_, ?_, ?_, ?_, ?_, ?_, ?_⟩ <;> (rw [hb.cell]; rfl)
theorem ready_any (b : Nat) (d : PeerD) (w : World) (h : IsPeer X w b d) : Calls Tryd.prog 23 #[.pointer (some ⟨b, 0, none⟩)] w fun r w' => r = .returned (.bool ((d.step : Int) == 2)) ∧ w = w' := by
  obtain ⟨f, g, q, c0, c1, c2, c3, c4, c5, c6, c7, c8, c9⟩ := h.cells
  clear h
  go_enter Tryd.func23, Tryd.ntmps23
  go_wp2
  go_ret
  exact ⟨rfl, rfl⟩
theorem out_any (b : Nat) (d : PeerD) (w : World) (h : IsPeer X w b d) : Calls Tryd.prog 17 #[.pointer (some ⟨b, 0, none⟩)] w fun r w' => r = .returned (.bool d.out) ∧ w = w' := by
  obtain ⟨f, g, q, c0, c1, c2, c3, c4, c5, c6, c7, c8, c9⟩ := h.cells
  clear h
  go_enter Tryd.func17, Tryd.ntmps17
  go_wp2
  go_ret
  exact ⟨rfl, rfl⟩
theorem stem_any (b : Nat) (d : PeerD) (w : World) (h : IsPeer X w b d) : Calls Tryd.prog 24 #[.pointer (some ⟨b, 0, none⟩)] w fun r w' => r = .returned (.bool (((d.step : Int) == 2) && d.takes)) ∧ w = w' := by
  have hr := ready_any b d w h
  obtain ⟨f, g, q, c0, c1, c2, c3, c4, c5, c6, c7, c8, c9⟩ := h.cells
  clear h
  have HR := Lib.hid hr
  clear hr
  cases hs : ((d.step : Int) == 2)
  all_goals
    rw [hs] at HR
    clear hs
    go_enter Tryd.func24, Tryd.ntmps24
    go_wp2_with fail
    refine HR.out.mono ?_
    rintro e w1 ⟨rfl, rfl⟩
    go_wp2
    go_ret
    exact ⟨rfl, rfl⟩
theorem queue_any (b : Nat) (d : PeerD) (w : World) (h : IsPeer X w b d) : Calls Tryd.prog 29 #[.pointer (some ⟨b, 0, none⟩)] w fun r w' => ∃ q, r = .returned (.pointer (some q)) ∧ w = w' := by
  obtain ⟨f, g, q, c0, c1, c2, c3, c4, c5, c6, c7, c8, c9⟩ := h.cells
  clear h
  go_enter Tryd.func29, Tryd.ntmps29
  go_wp2
  go_ret
  exact ⟨q, rfl, rfl⟩



theorem IsPeer.lt {w : World} {b : Nat} {d : PeerD} (h : IsPeer X w b d) : b < w.heap.size := by obtain ⟨f, g, q, he, hb⟩ := h; exact hb.lt
/-- a message of a kind, a number and a code, and nothing else -/
def msgCells (k n c : Nat) : Array Value := #[.int .i64 k, .int .u64 n, .int .u32 c, .slice none 0 0, .int .u32 0, .slice none 0 0, .slice none 0 0]
theorem msg_size : (Tryd.prog.info? 51).map (·.size) = some 7 := by kernel_rfl
/-- what the call has put together to be sent: messages of a kind, a number, a code -/
def Outs (w : World) (base : Nat) (v : Value) (l : List (Nat × Nat × Nat)) : Prop := w.ownsRow base 51 7 v l.length (l.flatMap fun m => (msgCells m.1 m.2.1 m.2.2).toList)
theorem Outs.nil (w : World) (base : Nat) : Outs w base (.slice none 0 0) [] := World.ownsRow_nil _ _ _ _
theorem Outs.one {w : World} {base g k n c : Nat} (h : Bk w g 51 (msgCells k n c)) (hb : base ≤ g) : Outs w base (.slice (some ⟨g, 0, none⟩) 1 1) [(k, n, c)] :=
  ⟨by simp [msgCells], .inr ⟨g, 1, msgCells k n c, rfl, hb, h, Nat.le_refl _, by simp [maxLen], by simp [msgCells], by simp [msgCells]⟩⟩
theorem Outs.two {w : World} {base g k n c k' n' c' : Nat} (h : Bk w g 51 (msgCells k n c ++ msgCells k' n' c')) (hb : base ≤ g) : Outs w base (.slice (some ⟨g, 0, none⟩) 2 2) [(k, n, c), (k', n', c')] :=
  ⟨by simp [msgCells], .inr ⟨g, 2, msgCells k n c ++ msgCells k' n' c', rfl, hb, h, Nat.le_refl _, by simp [maxLen], by simp [msgCells], by simp [msgCells]⟩⟩
theorem Outs.mono {w : World} {base base' : Nat} {v : Value} {l : List (Nat × Nat × Nat)} (h : Outs w base v l) (hb : base' ≤ base) : Outs w base' v l := own_mono h hb
theorem Outs.form {w : World} {base : Nat} {v : Value} {l : List (Nat × Nat × Nat)} (h : Outs w base v l) : ∃ A cap, v = .slice A l.length cap ∧ l.length ≤ cap ∧ cap ≤ maxLen ∧
    ∀ i (hi : i < l.length), ∃ g, A = some ⟨g, 0, none⟩ ∧ base ≤ g ∧ g < w.heap.size ∧ w.cell? ⟨g, i * 7, none⟩ = some (.int .i64 (l[i].1 : Int)) ∧ w.cell? ⟨g, i * 7 + 1, none⟩ = some (.int .u64 (l[i].2.1 : Int)) ∧ w.cell? ⟨g, i * 7 + 2, none⟩ = some (.int .u32 (l[i].2.2 : Int)) := by
  obtain ⟨A, cap, hv, h1, h2, _, hc⟩ := own_form h
  refine ⟨A, cap, hv, h1, h2, fun i hi => ?_⟩
  have hx : ∀ j, j < 7 → (l.flatMap fun m => (msgCells m.1 m.2.1 m.2.2).toList)[i * 7 + j]? = (msgCells l[i].1 l[i].2.1 l[i].2.2).toList[j]? := fun j hj => flatMap_index l (fun x _ => by simp [msgCells]) i hi j hj
  obtain ⟨g, hA, hg, hlt, h0⟩ := hc (i * 7) (.int .i64 (l[i].1 : Int)) ((hx 0 (by omega)).trans (by simp [msgCells]))
  obtain ⟨g1, hA1, _, _, h1⟩ := hc (i * 7 + 1) (.int .u64 (l[i].2.1 : Int)) ((hx 1 (by omega)).trans (by simp [msgCells]))
  obtain ⟨g2, hA2, _, _, h2⟩ := hc (i * 7 + 2) (.int .u32 (l[i].2.2 : Int)) ((hx 2 (by omega)).trans (by simp [msgCells]))
  rw [hA] at hA1 hA2
  injection hA1 with e1
  injection e1 with e1
  injection hA2 with e2
  injection e2 with e2
  subst e1; subst e2
  exact ⟨g, hA, hg, hlt, h0, h1, h2⟩
theorem hello_any (b : Nat) (d : PeerD) (w : World) (h : IsPeer X w b d) : Calls Tryd.prog 36 #[.pointer (some ⟨b, 0, none⟩)] w fun r w' => r = .returned (.agg (msgCells 1 d.nonce 1)) ∧ Below w.heap.size w w' := by
  have hlt := h.lt
  obtain ⟨f, g, q, c0, c1, c2, c3, c4, c5, c6, c7, c8, c9⟩ := h.cells
  clear h
  go_enter Tryd.func36, Tryd.ntmps36
  go_wp2
  refine bodyPost_ret (results_cell_row rfl _ _ w.heap.size 51 (msgCells 1 d.nonce 1) (0, 0) _ rfl (Bk.new _ _ _) Tryd.underlying51 rfl msg_size) rfl ?_
  exact ⟨rfl, Joins.below_alloc1 _ _⟩
theorem greet_wrong (b : Nat) (d : PeerD) (n : Nat) (w : World) (h : IsPeer X w b d) (hs : d.step ≠ 0) : Calls Tryd.prog 41 #[.pointer (some ⟨b, 0, none⟩), .int .u64 (n : Int)] w fun r w' => r = .returned (.tuple #[.slice none 0 0, .int .i64 20]) ∧ w = w' := by
  have hne : ((d.step : Int) != 0) = true := by rw [bne_iff_ne]; omega
  obtain ⟨f, g, q, c0, c1, c2, c3, c4, c5, c6, c7, c8, c9⟩ := h.cells
  clear h hs
  go_enter Tryd.func41, Tryd.ntmps41
  go_wp2
  go_ret2
  exact ⟨rfl, rfl⟩
theorem greet_self (b : Nat) (d : PeerD) (n : Nat) (w : World) (h : IsPeer X w b d) (hs : d.step = 0) (hn : n = d.nonce) : Calls Tryd.prog 41 #[.pointer (some ⟨b, 0, none⟩), .int .u64 (n : Int)] w fun r w' => r = .returned (.tuple #[.slice none 0 0, .int .i64 22]) ∧ w = w' := by
  subst hn
  obtain ⟨f, g, q, c0, c1, c2, c3, c4, c5, c6, c7, c8, c9⟩ := h.cells
  rw [hs] at c2
  clear h hs
  generalize d.nonce = x at *
  go_enter Tryd.func41, Tryd.ntmps41
  go_wp2
  go_ret2
  exact ⟨rfl, rfl⟩
theorem greet_out (b : Nat) (d : PeerD) (n : Nat) (w : World) (h : IsPeer X w b d) (hs : d.step = 0) (hn : n ≠ d.nonce) (ho : d.out = true) : Calls Tryd.prog 41 #[.pointer (some ⟨b, 0, none⟩), .int .u64 (n : Int)] w fun r w' =>
    ∃ v, r = .returned (.tuple #[v, .int .i64 0]) ∧ Outs w' w.heap.size v [(11, 0, 1), (2, 0, 0)] ∧ IsPeer X w' b { d with step := 1 } ∧ Kp (fun i => i = b) w w' := by
  have hne : ((n : Int) == (d.nonce : Int)) = false := by rw [beq_eq_false_iff_ne]; omega
  have hlt := h.lt
  obtain ⟨f, g, q, he, hb⟩ := h
  have hf := hb.frozen
  have hset := hb.set 2 (.int .i64 1)
  have c0 : w.cell? ⟨b, 0, none⟩ = some (.bool d.out) := by rw [hb.cell]; rfl
  have c1 : w.cell? ⟨b, 1, none⟩ = some (.int .u64 d.nonce) := by rw [hb.cell]; rfl
  have c2 : w.cell? ⟨b, 2, none⟩ = some (.int .i64 0) := by rw [hb.cell]; simp [peerCells, hs]
  have f2 : w.frozen? ⟨b, 2, none⟩ = false := hb.frozen 2
  rw [ho] at c0
  have HS := Lib.hid hset
  have hkp : Kp (fun i => i = b) w (w.setCell ⟨b, 2, none⟩ (.int .i64 1)) := Kp.setCell (S := fun i => i = b) (Kp.refl _ w) (fun _ => rfl) _
  clear hs hset hb hf hn
  go_enter Tryd.func41, Tryd.ntmps41
  go_wp2
  go_ret2
  have hnew := Bk.new (w.setCell ⟨b, 2, none⟩ (.int .i64 1)) 51 (msgCells 11 0 1 ++ msgCells 2 0 0)
  rw [show (w.setCell ⟨b, 2, none⟩ (.int .i64 1)).heap.size = w.heap.size by simp] at hnew
  have hp : (peerCells d f g (some q)).setIfInBounds 2 (.int .i64 1) = peerCells { d with step := 1 } f g (some q) := by simp [peerCells]
  have hpeer := HS.out
  rw [hp] at hpeer
  exact ⟨_, rfl, Outs.two hnew (Nat.le_refl _), ⟨f, g, q, he, hpeer.alloc _⟩, hkp.alloc _⟩
theorem msg_info : (Tryd.prog.info? 51).map (fun i => (i.zero, i.size, i.bytes)) = some (some (.agg (msgCells 0 0 0)), 7, 104) := by kernel_rfl
theorem msg_own (w : World) (base g k n c : Nat) (h : Bk w g 51 (msgCells k n c)) (hb : base ≤ g) : w.ownsRow base 51 7 (.slice (some ⟨g, 0, none⟩) 1 1) 1 (msgCells k n c).toList :=
  ⟨by simp [msgCells], .inr ⟨g, 1, msgCells k n c, rfl, hb, h, Nat.le_refl _, by simp [maxLen], by simp [msgCells], by simp [msgCells]⟩⟩
/-- what grows a row of one's own leaves what lies under it -/
theorem grown_low {w w' : World} {B base : Nat} {e : TypeId} {size : Nat} {v : Value} {n : Nat} {xs : List Value} (hg : w.grownBy w' v.ownBlock) (h : w.ownsRow base e size v n xs) (hB : B ≤ base) (hs : B ≤ w.heap.size) : Below B w w' :=
  ⟨hg.os, hg.tape, hg.output, hg.size, fun i hi => hg.block i (by omega) (fun e => by have := (h.lt i e.symm).1; omega)⟩
theorem Bk.src {w : World} {g t : Nat} {cs : Array Value} (h : Bk w g t cs) : Src w (some ⟨g, 0, none⟩) cs.toList := by
  intro j u hu
  refine ⟨_, rfl, ?_⟩
  have e : (⟨g, 0, none⟩ : Addr).add j = ⟨g, j, none⟩ := by unfold Addr.add; split <;> simp_all
  rw [e, h.cell]
  simpa using hu
set_option maxHeartbeats 400000 in
theorem greet_in (b : Nat) (d : PeerD) (n : Nat) (w : World) (h : IsPeer X w b d) (hs : d.step = 0) (hn : n ≠ d.nonce) (ho : d.out = false) : Calls Tryd.prog 41 #[.pointer (some ⟨b, 0, none⟩), .int .u64 (n : Int)] w fun r w' =>
    ∃ v, r = .returned (.tuple #[v, .int .i64 0]) ∧ Outs w' w.heap.size v [(1, d.nonce, 1), (11, 0, 1), (2, 0, 0)] ∧ IsPeer X w' b { d with step := 1 } ∧ Kp (fun i => i = b) w w' := by
  have hne : ((n : Int) == (d.nonce : Int)) = false := by rw [beq_eq_false_iff_ne]; omega
  have hlt := h.lt
  obtain ⟨i0, hi, hz0, hz1, hz2⟩ := info_parts msg_info
  have Hi := Lib.hid hi
  have Hz := Lib.hid hz0
  have Hz1 := Lib.hid hz1
  have Hz2 := Lib.hid hz2
  clear hi hz0 hz1 hz2
  obtain ⟨f, g, q, he, hb⟩ := h
  have hset := hb.set 2 (.int .i64 1)
  have c0 : w.cell? ⟨b, 0, none⟩ = some (.bool d.out) := by rw [hb.cell]; rfl
  have c1 : w.cell? ⟨b, 1, none⟩ = some (.int .u64 d.nonce) := by rw [hb.cell]; rfl
  have c2 : w.cell? ⟨b, 2, none⟩ = some (.int .i64 0) := by rw [hb.cell]; simp [peerCells, hs]
  have f2 : w.frozen? ⟨b, 2, none⟩ = false := hb.frozen 2
  rw [ho] at c0
  have hp : (peerCells d f g (some q)).setIfInBounds 2 (.int .i64 1) = peerCells { d with step := 1 } f g (some q) := by simp [peerCells]
  rw [hp] at hset
  have hkp : Kp (fun i => i = b) w (w.setCell ⟨b, 2, none⟩ (.int .i64 1)) := Kp.setCell (S := fun i => i = b) (Kp.refl _ w) (fun _ => rfl) _
  have hnew := Bk.new (w.setCell ⟨b, 2, none⟩ (.int .i64 1)) 51 (msgCells 11 0 1 ++ msgCells 2 0 0)
  rw [show (w.setCell ⟨b, 2, none⟩ (.int .i64 1)).heap.size = w.heap.size by simp] at hnew
  have hpeer : IsPeer X ((w.setCell ⟨b, 2, none⟩ (.int .i64 1)).alloc (.cells (msgCells 11 0 1 ++ msgCells 2 0 0) 51)) b { d with step := 1 } := ⟨f, g, q, he, hset.alloc _⟩
  clear hs hset hb hn hp
  go_enter Tryd.func41, Tryd.ntmps41
  go_wp2_with fail
  refine (hello_any b { d with step := 1 } _ hpeer).mono ?_
  rintro e w2 ⟨rfl, hb2⟩
  simp only [msgCells]
  have hsz2 := hb2.size
  have hsz0 : w.heap.size < w2.heap.size := Nat.lt_of_lt_of_le (by simp) hsz2
  have hnew2 := Bk.below hnew hb2 (by simp)
  obtain ⟨f', g', q', he', hbk⟩ := hpeer
  have hpeer2 := Bk.below hbk hb2 hbk.lt
  have hkp2 := (hkp.alloc (.cells (msgCells 11 0 1 ++ msgCells 2 0 0) 51)).trans (Kp.of_below (S := fun i => i = b) hb2)
  have hblt : b < w2.heap.size := by omega
  clear hnew hbk hkp hb2
  go_wp2_with (at_builtin; refine wpList_app _ rfl (.tmp 31) (.tmp 32) _ rfl w2.heap.size 51 i0 _ 7 104 Tryd.underlying42 Hi.out Hz.out Hz1.out Hz2.out rfl (by decide) (.slice (some ⟨w2.heap.size, 0, none⟩) 1 1) 1 _ rfl (msg_own _ _ _ 1 d.nonce 1 (Bk.new _ _ _) (Nat.le_refl _)) (some ⟨w.heap.size, 0, none⟩) 2 2 (msgCells 11 0 1 ++ msgCells 2 0 0).toList rfl (by simp [msgCells]) (Bk.src (hnew2.alloc _)) (by simp [msgCells, Value.oneCell']) (by simp [maxLen]) (by omega) (by simp) ?_; intro v4 w4 hrow4 hg4 hat4)
  have hlow := (Joins.below_alloc1 w2 _).trans (grown_low hg4 (msg_own _ _ _ 1 d.nonce 1 (Bk.new _ _ _) (Nat.le_refl _)) (Nat.le_refl _) (by simp))
  have hout : Outs w4 w2.heap.size v4 [(1, d.nonce, 1), (11, 0, 1), (2, 0, 0)] := by
    unfold Outs
    rw [show ([(1, d.nonce, 1), (11, 0, 1), (2, 0, 0)] : List (Nat × Nat × Nat)).flatMap (fun m => (msgCells m.1 m.2.1 m.2.2).toList) = (msgCells 1 d.nonce 1).toList ++ (msgCells 11 0 1 ++ msgCells 2 0 0).toList by simp]
    exact hrow4
  obtain ⟨A4, c4, rfl, _, _, _, _⟩ := own_form hrow4
  go_ret2
  exact ⟨_, rfl, Outs.mono hout (by omega), ⟨f', g', q', he', Bk.below hpeer2 hlow hblt⟩, hkp2.trans (Kp.of_below hlow)⟩



/-- what a message holds beside its kind, its number, its code -/
structure MsgR where
  a3 : Option Addr
  l3 : Nat
  c3 : Nat
  x4 : Int
  a5 : Option Addr
  l5 : Nat
  c5 : Nat
  a6 : Option Addr
  l6 : Nat
  c6 : Nat
def msgV (k n c : Int) (r : MsgR) : Value := .agg #[.int .i64 k, .int .u64 n, .int .u32 c, .slice r.a3 r.l3 r.c3, .int .u32 r.x4, .slice r.a5 r.l5 r.c5, .slice r.a6 r.l6 r.c6]
abbrev hearR (v : Value) (e : Int) (mine : Bool) : Ending := .returned (.tuple #[v, .int .i64 e, .bool mine])
/-- what becomes of a peer that hears a message: what it says, the error's number, whether it was its own, the peer behind it -/
def heard (d : PeerD) (k n c : Int) : List (Nat × Nat × Nat) × Int × Bool × PeerD :=
  if k = 1 then
    if d.step ≠ 0 then ([], 20, true, d)
    else if n = d.nonce then ([], 22, true, d)
    else if d.out then ([(11, 0, 1), (2, 0, 0)], 0, true, { d with step := 1 })
    else ([(1, d.nonce, 1), (11, 0, 1), (2, 0, 0)], 0, true, { d with step := 1 })
  else if k = 11 then (if d.step ≠ 1 then ([], 20, true, d) else ([], 0, true, { d with takes := c == 1 }))
  else if k = 2 then (if d.step ≠ 1 then ([], 20, true, d) else ([], 0, true, { d with step := 2 }))
  else if d.step ≠ 2 then ([], (if k = 9 then 0 else 20), true, d)
  else if k = 3 then ([(4, n.toNat, 0)], 0, true, d)
  else if k = 4 then ([], 0, true, { d with waits := d.waits && n != (d.pings : Int) })
  else ([], 0, false, d)
def HearP (X : Ptrs) (b : Nat) (d : PeerD) (k n c : Int) (w : World) (e : Ending) (w' : World) : Prop :=
  ∃ v, e = hearR v (heard d k n c).2.1 (heard d k n c).2.2.1 ∧ Outs w' w.heap.size v (heard d k n c).1 ∧ IsPeer X w' b (heard d k n c).2.2.2 ∧ Kp (fun i => i = b) w w'
theorem IsPeer.alloc {w : World} {b : Nat} {d : PeerD} (h : IsPeer X w b d) (o : Obj) : IsPeer X (w.alloc o) b d := by obtain ⟨f, g, q, he, hb⟩ := h; exact ⟨f, g, q, he, hb.alloc o⟩
theorem hearP_mk {b : Nat} {d d' : PeerD} {k n c : Int} {w w' : World} {v : Value} {l : List (Nat × Nat × Nat)} {x : Int} {m : Bool} (hh : heard d k n c = (l, x, m, d')) (h1 : Outs w' w.heap.size v l) (h2 : IsPeer X w' b d') (h3 : Kp (fun i => i = b) w w') :
    HearP X b d k n c w (hearR v x m) w' := by
  refine ⟨v, ?_, ?_, ?_, h3⟩ <;> rw [hh] <;> first | rfl | assumption
/-- the plain end: nothing said, the peer as it was -/
theorem hearP_same {b : Nat} {d : PeerD} {k n c : Int} {w : World} {x : Int} {m : Bool} {o : Obj} (hp : Hid (IsPeer X w b d)) (hh : Hid (heard d k n c = ([], x, m, d))) : HearP X b d k n c w (hearR (.slice none 0 0) x m) (w.alloc o) :=
  hearP_mk hh.out (Outs.nil _ _) (hp.out.alloc o) ((Kp.refl _ w).alloc o)
theorem hear_send_wrong (b : Nat) (d : PeerD) (n c : Int) (r : MsgR) (w : World) (h : IsPeer X w b d) (hs : d.step ≠ 1) :
    Calls Tryd.prog 19 #[.pointer (some ⟨b, 0, none⟩), msgV 11 n c r] w (HearP X b d 11 n c w) := by
  have HH := Lib.hid (show heard d 11 n c = ([], 20, true, d) by simp [heard, hs])
  have hlt := h.lt
  have HP := Lib.hid h
  obtain ⟨f, g, q, c0, c1, c2, c3, c4, c5, c6, c7, c8, c9⟩ := h.cells
  have es : ((d.step : Int) != 1) = true := by rw [bne_iff_ne]; omega
  clear h hs
  unfold msgV
  go_enter Tryd.func19, Tryd.ntmps19
  go_wp2
  refine bodyPost_ret (results_tmp3 rfl _ _ _) rfl ?_
  exact hearP_same HP HH

theorem hear_ack_wrong (b : Nat) (d : PeerD) (n c : Int) (r : MsgR) (w : World) (h : IsPeer X w b d) (hs : d.step ≠ 1) :
    Calls Tryd.prog 19 #[.pointer (some ⟨b, 0, none⟩), msgV 2 n c r] w (HearP X b d 2 n c w) := by
  have HH := Lib.hid (show heard d 2 n c = ([], 20, true, d) by simp [heard, hs])
  have hlt := h.lt
  have HP := Lib.hid h
  obtain ⟨f, g, q, c0, c1, c2, c3, c4, c5, c6, c7, c8, c9⟩ := h.cells
  have es : ((d.step : Int) != 1) = true := by rw [bne_iff_ne]; omega
  clear h hs
  unfold msgV
  go_enter Tryd.func19, Tryd.ntmps19
  go_wp2
  refine bodyPost_ret (results_tmp3 rfl _ _ _) rfl ?_
  exact hearP_same HP HH

theorem hear_ping_wrong (b : Nat) (d : PeerD) (n c : Int) (r : MsgR) (w : World) (h : IsPeer X w b d) (hs : d.step ≠ 2) :
    Calls Tryd.prog 19 #[.pointer (some ⟨b, 0, none⟩), msgV 3 n c r] w (HearP X b d 3 n c w) := by
  have HH := Lib.hid (show heard d 3 n c = ([], 20, true, d) by simp [heard, hs])
  have hlt := h.lt
  have HP := Lib.hid h
  obtain ⟨f, g, q, c0, c1, c2, c3, c4, c5, c6, c7, c8, c9⟩ := h.cells
  have es : ((d.step : Int) != 2) = true := by rw [bne_iff_ne]; omega
  clear h hs
  unfold msgV
  go_enter Tryd.func19, Tryd.ntmps19
  go_wp2
  refine bodyPost_ret (results_tmp3 rfl _ _ _) rfl ?_
  exact hearP_same HP HH

theorem hear_pong_wrong (b : Nat) (d : PeerD) (n c : Int) (r : MsgR) (w : World) (h : IsPeer X w b d) (hs : d.step ≠ 2) :
    Calls Tryd.prog 19 #[.pointer (some ⟨b, 0, none⟩), msgV 4 n c r] w (HearP X b d 4 n c w) := by
  have HH := Lib.hid (show heard d 4 n c = ([], 20, true, d) by simp [heard, hs])
  have hlt := h.lt
  have HP := Lib.hid h
  obtain ⟨f, g, q, c0, c1, c2, c3, c4, c5, c6, c7, c8, c9⟩ := h.cells
  have es : ((d.step : Int) != 2) = true := by rw [bne_iff_ne]; omega
  clear h hs
  unfold msgV
  go_enter Tryd.func19, Tryd.ntmps19
  go_wp2
  refine bodyPost_ret (results_tmp3 rfl _ _ _) rfl ?_
  exact hearP_same HP HH

theorem hear_stem (b : Nat) (d : PeerD) (n c : Int) (r : MsgR) (w : World) (h : IsPeer X w b d) (hs : d.step ≠ 2) :
    Calls Tryd.prog 19 #[.pointer (some ⟨b, 0, none⟩), msgV 9 n c r] w (HearP X b d 9 n c w) := by
  have HH := Lib.hid (show heard d 9 n c = ([], 0, true, d) by simp [heard, hs])
  have hlt := h.lt
  have HP := Lib.hid h
  obtain ⟨f, g, q, c0, c1, c2, c3, c4, c5, c6, c7, c8, c9⟩ := h.cells
  have es : ((d.step : Int) != 2) = true := by rw [bne_iff_ne]; omega
  clear h hs
  unfold msgV
  go_enter Tryd.func19, Tryd.ntmps19
  go_wp2
  refine bodyPost_ret (results_tmp3 rfl _ _ _) rfl ?_
  exact hearP_same HP HH

theorem hear_wrong (b : Nat) (d : PeerD) (k n c : Int) (r : MsgR) (w : World) (h : IsPeer X w b d) (h1 : k ≠ 1) (h2 : k ≠ 2) (h11 : k ≠ 11) (h9 : k ≠ 9) (hs : d.step ≠ 2) :
    Calls Tryd.prog 19 #[.pointer (some ⟨b, 0, none⟩), msgV k n c r] w (HearP X b d k n c w) := by
  have HH := Lib.hid (show heard d k n c = ([], 20, true, d) by simp [heard, hs, h1, h2, h11, h9])
  have hlt := h.lt
  have HP := Lib.hid h
  obtain ⟨f, g, q, c0, c1, c2, c3, c4, c5, c6, c7, c8, c9⟩ := h.cells
  have e1 : (k == 1) = false := by rw [beq_eq_false_iff_ne]; exact h1
  have e2 : (k == 2) = false := by rw [beq_eq_false_iff_ne]; exact h2
  have e11 : (k == 11) = false := by rw [beq_eq_false_iff_ne]; exact h11
  have e9 : (k == 9) = false := by rw [beq_eq_false_iff_ne]; exact h9
  have es : ((d.step : Int) != 2) = true := by rw [bne_iff_ne]; omega
  clear h hs h1 h2 h11 h9
  unfold msgV
  go_enter Tryd.func19, Tryd.ntmps19
  go_wp2
  refine bodyPost_ret (results_tmp3 rfl _ _ _) rfl ?_
  exact hearP_same HP HH

theorem hear_other (b : Nat) (d : PeerD) (k n c : Int) (r : MsgR) (w : World) (h : IsPeer X w b d) (h1 : k ≠ 1) (h2 : k ≠ 2) (h11 : k ≠ 11) (h9 : k ≠ 9) (h3 : k ≠ 3) (h4 : k ≠ 4) (hs : d.step = 2) :
    Calls Tryd.prog 19 #[.pointer (some ⟨b, 0, none⟩), msgV k n c r] w (HearP X b d k n c w) := by
  have HH := Lib.hid (show heard d k n c = ([], 0, false, d) by simp [heard, hs, h1, h2, h11, h3, h4])
  have hlt := h.lt
  have HP := Lib.hid h
  obtain ⟨f, g, q, c0, c1, c2, c3, c4, c5, c6, c7, c8, c9⟩ := h.cells
  have c2' : w.cell? ⟨b, 2, none⟩ = some (.int .i64 2) := by rw [c2, hs]; rfl
  clear c2
  have e1 : (k == 1) = false := by rw [beq_eq_false_iff_ne]; exact h1
  have e2 : (k == 2) = false := by rw [beq_eq_false_iff_ne]; exact h2
  have e11 : (k == 11) = false := by rw [beq_eq_false_iff_ne]; exact h11
  have e9 : (k == 9) = false := by rw [beq_eq_false_iff_ne]; exact h9
  have e3 : (k == 3) = false := by rw [beq_eq_false_iff_ne]; exact h3
  have e4 : (k == 4) = false := by rw [beq_eq_false_iff_ne]; exact h4
  clear h hs h1 h2 h11 h9 h3 h4
  unfold msgV
  go_enter Tryd.func19, Tryd.ntmps19
  go_wp2
  refine bodyPost_ret (results_tmp3 rfl _ _ _) rfl ?_
  exact hearP_same HP HH

theorem hear_stem_on (b : Nat) (d : PeerD) (n c : Int) (r : MsgR) (w : World) (h : IsPeer X w b d) (hs : d.step = 2) :
    Calls Tryd.prog 19 #[.pointer (some ⟨b, 0, none⟩), msgV 9 n c r] w (HearP X b d 9 n c w) := by
  have HH := Lib.hid (show heard d 9 n c = ([], 0, false, d) by simp [heard, hs])
  have hlt := h.lt
  have HP := Lib.hid h
  obtain ⟨f, g, q, c0, c1, c2, c3, c4, c5, c6, c7, c8, c9⟩ := h.cells
  have c2' : w.cell? ⟨b, 2, none⟩ = some (.int .i64 2) := by rw [c2, hs]; rfl
  clear c2
  clear h hs
  unfold msgV
  go_enter Tryd.func19, Tryd.ntmps19
  go_wp2
  refine bodyPost_ret (results_tmp3 rfl _ _ _) rfl ?_
  exact hearP_same HP HH

theorem hear_version_wrong (b : Nat) (d : PeerD) (n c : Int) (r : MsgR) (w : World) (h : IsPeer X w b d) (w0 : 0 ≤ n) (hs : d.step ≠ 0) :
    Calls Tryd.prog 19 #[.pointer (some ⟨b, 0, none⟩), msgV 1 n c r] w (HearP X b d 1 n c w) := by
  obtain ⟨n, rfl⟩ := Int.eq_ofNat_of_zero_le w0
  have HH := Lib.hid (show heard d 1 (n : Int) c = ([], 20, true, d) by simp [heard, hs])
  have HG := Lib.hid (fun m : Obj => greet_wrong b d n (w.alloc m) (h.alloc m) hs)
  have HP := Lib.hid h
  clear h hs
  unfold msgV
  go_enter Tryd.func19, Tryd.ntmps19
  go_wp2_with fail
  refine (HG.out _).mono ?_
  rintro e w1 ⟨rfl, rfl⟩
  go_wp2
  refine bodyPost_ret (results_tmp3 rfl _ _ _) rfl ?_
  exact hearP_same HP HH

theorem hear_version_self (b : Nat) (d : PeerD) (n c : Int) (r : MsgR) (w : World) (h : IsPeer X w b d) (w0 : 0 ≤ n) (hs : d.step = 0) (hn : n = d.nonce) :
    Calls Tryd.prog 19 #[.pointer (some ⟨b, 0, none⟩), msgV 1 n c r] w (HearP X b d 1 n c w) := by
  obtain ⟨n, rfl⟩ := Int.eq_ofNat_of_zero_le w0
  have HH := Lib.hid (show heard d 1 (n : Int) c = ([], 22, true, d) by simp [heard, hs, hn])
  have HG := Lib.hid (fun m : Obj => greet_self b d n (w.alloc m) (h.alloc m) hs (by omega))
  have HP := Lib.hid h
  clear h hs hn
  unfold msgV
  go_enter Tryd.func19, Tryd.ntmps19
  go_wp2_with fail
  refine (HG.out _).mono ?_
  rintro e w1 ⟨rfl, rfl⟩
  go_wp2
  refine bodyPost_ret (results_tmp3 rfl _ _ _) rfl ?_
  exact hearP_same HP HH

theorem hear_version_out (b : Nat) (d : PeerD) (n c : Int) (r : MsgR) (w : World) (h : IsPeer X w b d) (w0 : 0 ≤ n) (hs : d.step = 0) (hn : n ≠ d.nonce) (ho : d.out = true) :
    Calls Tryd.prog 19 #[.pointer (some ⟨b, 0, none⟩), msgV 1 n c r] w (HearP X b d 1 n c w) := by
  obtain ⟨n, rfl⟩ := Int.eq_ofNat_of_zero_le w0
  have HH := Lib.hid (show heard d 1 (n : Int) c = ([(11, 0, 1), (2, 0, 0)], 0, true, { d with step := 1 }) by simp [heard, hs, hn, ho])
  have HG := Lib.hid (fun m : Obj => greet_out b d n (w.alloc m) (h.alloc m) hs (by omega) ho)
  have HP := Lib.hid h
  clear h hs hn ho
  unfold msgV
  go_enter Tryd.func19, Tryd.ntmps19
  go_wp2_with fail
  refine (HG.out _).mono ?_
  rintro e w1 ⟨v, rfl, ho, hp, hkp⟩
  go_wp2
  refine bodyPost_ret (results_tmp3 rfl _ _ _) rfl ?_
  exact hearP_mk HH.out (Outs.mono ho (by simp)) hp (((Kp.refl _ w).alloc _).trans hkp)

theorem hear_version_in (b : Nat) (d : PeerD) (n c : Int) (r : MsgR) (w : World) (h : IsPeer X w b d) (w0 : 0 ≤ n) (hs : d.step = 0) (hn : n ≠ d.nonce) (ho : d.out = false) :
    Calls Tryd.prog 19 #[.pointer (some ⟨b, 0, none⟩), msgV 1 n c r] w (HearP X b d 1 n c w) := by
  obtain ⟨n, rfl⟩ := Int.eq_ofNat_of_zero_le w0
  have HH := Lib.hid (show heard d 1 (n : Int) c = ([(1, d.nonce, 1), (11, 0, 1), (2, 0, 0)], 0, true, { d with step := 1 }) by simp [heard, hs, hn, ho])
  have HG := Lib.hid (fun m : Obj => greet_in b d n (w.alloc m) (h.alloc m) hs (by omega) ho)
  have HP := Lib.hid h
  clear h hs hn ho
  unfold msgV
  go_enter Tryd.func19, Tryd.ntmps19
  go_wp2_with fail
  refine (HG.out _).mono ?_
  rintro e w1 ⟨v, rfl, ho, hp, hkp⟩
  go_wp2
  refine bodyPost_ret (results_tmp3 rfl _ _ _) rfl ?_
  exact hearP_mk HH.out (Outs.mono ho (by simp)) hp (((Kp.refl _ w).alloc _).trans hkp)

theorem hear_send (b : Nat) (d : PeerD) (n c : Int) (r : MsgR) (w : World) (h : IsPeer X w b d) (hs : d.step = 1) :
    Calls Tryd.prog 19 #[.pointer (some ⟨b, 0, none⟩), msgV 11 n c r] w (HearP X b d 11 n c w) := by
  have HH := Lib.hid (show heard d 11 n c = ([], 0, true, { d with takes := c == 1 }) by simp [heard, hs])
  have hlt := h.lt
  obtain ⟨f, g, q, he, hb⟩ := h
  obtain ⟨f', g', q', c0, c1, c2, c3, c4, c5, c6, c7, c8, c9⟩ := IsPeer.cells ⟨f, g, q, he, hb⟩
  have c2' : w.cell? ⟨b, 2, none⟩ = some (.int .i64 1) := by rw [c2, hs]; rfl
  clear c2
  have f3 : w.frozen? ⟨b, 3, none⟩ = false := hb.frozen 3
  have HP : ∀ o : Obj, Hid (IsPeer X ((w.setCell ⟨b, 3, none⟩ (.bool (c == 1))).alloc o) b { d with takes := c == 1 }) := fun o => Lib.hid ⟨f, g, q, he, by have := (hb.set 3 (.bool (c == 1))).alloc o; rwa [show (peerCells d f g (some q)).setIfInBounds 3 (.bool (c == 1)) = peerCells { d with takes := c == 1 } f g (some q) by simp [peerCells]] at this⟩
  have HK : ∀ o : Obj, Hid (Kp (fun i => i = b) w ((w.setCell ⟨b, 3, none⟩ (.bool (c == 1))).alloc o)) := fun o => Lib.hid ((Kp.setCell (S := fun i => i = b) (Kp.refl _ w) (fun _ => rfl) _).alloc o)
  clear hb hs
  unfold msgV
  go_enter Tryd.func19, Tryd.ntmps19
  go_wp2
  refine bodyPost_ret (results_tmp3 rfl _ _ _) rfl ?_
  exact hearP_mk HH.out (Outs.nil _ _) (HP _).out (HK _).out

theorem hear_ack (b : Nat) (d : PeerD) (n c : Int) (r : MsgR) (w : World) (h : IsPeer X w b d) (hs : d.step = 1) :
    Calls Tryd.prog 19 #[.pointer (some ⟨b, 0, none⟩), msgV 2 n c r] w (HearP X b d 2 n c w) := by
  have HH := Lib.hid (show heard d 2 n c = ([], 0, true, { d with step := 2 }) by simp [heard, hs])
  have hlt := h.lt
  obtain ⟨f, g, q, he, hb⟩ := h
  obtain ⟨f', g', q', c0, c1, c2, c3, c4, c5, c6, c7, c8, c9⟩ := IsPeer.cells ⟨f, g, q, he, hb⟩
  have c2' : w.cell? ⟨b, 2, none⟩ = some (.int .i64 1) := by rw [c2, hs]; rfl
  clear c2
  have f2 : w.frozen? ⟨b, 2, none⟩ = false := hb.frozen 2
  have HP : ∀ o : Obj, Hid (IsPeer X ((w.setCell ⟨b, 2, none⟩ (.int .i64 2)).alloc o) b { d with step := 2 }) := fun o => Lib.hid ⟨f, g, q, he, by have := (hb.set 2 (.int .i64 2)).alloc o; rwa [show (peerCells d f g (some q)).setIfInBounds 2 (.int .i64 2) = peerCells { d with step := 2 } f g (some q) by simp [peerCells]] at this⟩
  have HK : ∀ o : Obj, Hid (Kp (fun i => i = b) w ((w.setCell ⟨b, 2, none⟩ (.int .i64 2)).alloc o)) := fun o => Lib.hid ((Kp.setCell (S := fun i => i = b) (Kp.refl _ w) (fun _ => rfl) _).alloc o)
  clear hb hs
  unfold msgV
  go_enter Tryd.func19, Tryd.ntmps19
  go_wp2
  refine bodyPost_ret (results_tmp3 rfl _ _ _) rfl ?_
  exact hearP_mk HH.out (Outs.nil _ _) (HP _).out (HK _).out

theorem hear_ping (b : Nat) (d : PeerD) (n c : Int) (r : MsgR) (w : World) (h : IsPeer X w b d) (hs : d.step = 2) (w0 : 0 ≤ n) :
    Calls Tryd.prog 19 #[.pointer (some ⟨b, 0, none⟩), msgV 3 n c r] w (HearP X b d 3 n c w) := by
  obtain ⟨n, rfl⟩ := Int.eq_ofNat_of_zero_le w0
  have HH := Lib.hid (show heard d 3 (n : Int) c = ([(4, n, 0)], 0, true, d) by simp [heard, hs])
  have hlt := h.lt
  have HP := Lib.hid h
  obtain ⟨f, g, q, c0, c1, c2, c3, c4, c5, c6, c7, c8, c9⟩ := h.cells
  have c2' : w.cell? ⟨b, 2, none⟩ = some (.int .i64 2) := by rw [c2, hs]; rfl
  clear c2
  have HB : ∀ o : Obj, Hid (Bk ((w.alloc o).alloc (.cells (msgCells 4 n 0) 51)) (w.heap.size + 1) 51 (msgCells 4 n 0)) := fun o => Lib.hid (by have := Bk.new (w.alloc o) 51 (msgCells 4 n 0); rwa [show (w.alloc o).heap.size = w.heap.size + 1 by simp] at this)
  clear h hs
  unfold msgV
  go_enter Tryd.func19, Tryd.ntmps19
  go_wp2
  refine bodyPost_ret (results_tmp3 rfl _ _ _) rfl ?_
  exact hearP_mk HH.out (Outs.one (HB _).out (by simp)) ((HP.out.alloc _).alloc _) (((Kp.refl _ w).alloc _).alloc _)

theorem hear_pong_yes (b : Nat) (d : PeerD) (n c : Int) (r : MsgR) (w : World) (h : IsPeer X w b d) (hs : d.step = 2) (hw : d.waits = true) :
    Calls Tryd.prog 19 #[.pointer (some ⟨b, 0, none⟩), msgV 4 n c r] w (HearP X b d 4 n c w) := by
  have HH := Lib.hid (show heard d 4 n c = ([], 0, true, { d with waits := n != (d.pings : Int) }) by simp [heard, hs, hw])
  have hlt := h.lt
  obtain ⟨f, g, q, he, hb⟩ := h
  obtain ⟨f', g', q', c0, c1, c2, c3, c4, c5, c6, c7, c8, c9⟩ := IsPeer.cells ⟨f, g, q, he, hb⟩
  have c2' : w.cell? ⟨b, 2, none⟩ = some (.int .i64 2) := by rw [c2, hs]; rfl
  clear c2
  have f9 : w.frozen? ⟨b, 9, none⟩ = false := hb.frozen 9
  have HP : ∀ o : Obj, Hid (IsPeer X ((w.setCell ⟨b, 9, none⟩ (.bool (n != (d.pings : Int)))).alloc o) b { d with waits := n != (d.pings : Int) }) := fun o => Lib.hid ⟨f, g, q, he, by have := (hb.set 9 (.bool (n != (d.pings : Int)))).alloc o; rwa [show (peerCells d f g (some q)).setIfInBounds 9 (.bool (n != (d.pings : Int))) = peerCells { d with waits := n != (d.pings : Int) } f g (some q) by simp [peerCells]] at this⟩
  have HK : ∀ o : Obj, Hid (Kp (fun i => i = b) w ((w.setCell ⟨b, 9, none⟩ (.bool (n != (d.pings : Int)))).alloc o)) := fun o => Lib.hid ((Kp.setCell (S := fun i => i = b) (Kp.refl _ w) (fun _ => rfl) _).alloc o)
  clear hb hs
  rw [hw] at c9
  clear hw
  unfold msgV
  go_enter Tryd.func19, Tryd.ntmps19
  go_wp2
  go_region
  all_goals go_wp2
  refine bodyPost_ret (results_tmp3 rfl _ _ _) rfl ?_
  exact hearP_mk HH.out (Outs.nil _ _) (HP _).out (HK _).out.drew

theorem hear_pong_no (b : Nat) (d : PeerD) (n c : Int) (r : MsgR) (w : World) (h : IsPeer X w b d) (hs : d.step = 2) (hw : d.waits = false) :
    Calls Tryd.prog 19 #[.pointer (some ⟨b, 0, none⟩), msgV 4 n c r] w (HearP X b d 4 n c w) := by
  have HH := Lib.hid (show heard d 4 n c = ([], 0, true, { d with waits := false }) by simp [heard, hs, hw])
  have hlt := h.lt
  obtain ⟨f, g, q, he, hb⟩ := h
  obtain ⟨f', g', q', c0, c1, c2, c3, c4, c5, c6, c7, c8, c9⟩ := IsPeer.cells ⟨f, g, q, he, hb⟩
  have c2' : w.cell? ⟨b, 2, none⟩ = some (.int .i64 2) := by rw [c2, hs]; rfl
  clear c2
  have f9 : w.frozen? ⟨b, 9, none⟩ = false := hb.frozen 9
  have HP : ∀ o : Obj, Hid (IsPeer X ((w.setCell ⟨b, 9, none⟩ (.bool false)).alloc o) b { d with waits := false }) := fun o => Lib.hid ⟨f, g, q, he, by have := (hb.set 9 (.bool false)).alloc o; rwa [show (peerCells d f g (some q)).setIfInBounds 9 (.bool false) = peerCells { d with waits := false } f g (some q) by simp [peerCells]] at this⟩
  have HK : ∀ o : Obj, Hid (Kp (fun i => i = b) w ((w.setCell ⟨b, 9, none⟩ (.bool false)).alloc o)) := fun o => Lib.hid ((Kp.setCell (S := fun i => i = b) (Kp.refl _ w) (fun _ => rfl) _).alloc o)
  clear hb hs
  rw [hw] at c9
  clear hw
  unfold msgV
  go_enter Tryd.func19, Tryd.ntmps19
  go_wp2
  go_region
  all_goals go_wp2
  refine bodyPost_ret (results_tmp3 rfl _ _ _) rfl ?_
  exact hearP_mk HH.out (Outs.nil _ _) (HP _).out (HK _).out.drew

theorem hear_any (b : Nat) (d : PeerD) (k n c : Int) (r : MsgR) (w : World) (h : IsPeer X w b d) (w0 : 0 ≤ n) (hs : d.step ≤ 2) :
    Calls Tryd.prog 19 #[.pointer (some ⟨b, 0, none⟩), msgV k n c r] w (HearP X b d k n c w) := by
  by_cases h1 : k = 1
  · subst h1
    by_cases e : d.step = 0
    · by_cases hn : n = d.nonce
      · exact hear_version_self b d n c r w h w0 e hn
      · cases ho : d.out with
        | true => exact hear_version_out b d n c r w h w0 e hn ho
        | false => exact hear_version_in b d n c r w h w0 e hn ho
    · exact hear_version_wrong b d n c r w h w0 e
  by_cases h11 : k = 11
  · subst h11
    by_cases e : d.step = 1
    · exact hear_send b d n c r w h e
    · exact hear_send_wrong b d n c r w h e
  by_cases h2 : k = 2
  · subst h2
    by_cases e : d.step = 1
    · exact hear_ack b d n c r w h e
    · exact hear_ack_wrong b d n c r w h e
  by_cases e : d.step = 2
  · by_cases h9 : k = 9
    · subst h9; exact hear_stem_on b d n c r w h e
    by_cases h3 : k = 3
    · subst h3; exact hear_ping b d n c r w h e w0
    by_cases h4 : k = 4
    · subst h4
      cases hw : d.waits with
      | true => exact hear_pong_yes b d n c r w h e hw
      | false => exact hear_pong_no b d n c r w h e hw
    exact hear_other b d k n c r w h h1 h2 h11 h9 h3 h4 e
  · by_cases h9 : k = 9
    · subst h9; exact hear_stem b d n c r w h e
    exact hear_wrong b d k n c r w h h1 h2 h11 h9 e



theorem addEq (x y : Int) (w : World) (hx : 0 ≤ x) (hy : 0 ≤ y) :
   (callFunc 62 #[.int .u64 x, .int .u64 y, .int .u64 0]).run Tryd.prog w = .ok (.value (.tuple #[.int .u64 ((x + y) % 18446744073709551616), .int .u64 ((x + y) / 18446744073709551616)])) w := by
  rw [run_callFunc_extern (e := add64Entry) Tryd.func62 (by kernel_rfl) (by kernel_rfl) (by kernel_rfl) (by kernel_rfl)]
  rw [run_add64 x y 0 hx hy (by omega) (by omega)]
  simp [Result.andThen]

/-- a time, and so much more -/
def later (t d : Int) : Int := min (t + d) 18446744073709551615

set_option maxHeartbeats 400000 in
theorem later1 (t d : Int) (q : Nat) (w : World) (hx : 0 ≤ t) (hx' : t ≤ 18446744073709551615) (hy : 0 ≤ d) (hy' : d ≤ 18446744073709551615)
   (hc : w.cell? ⟨q, 0, none⟩ = some (.int .u64 d)) :
    Calls Tryd.prog 42 #[.int .u64 t, .slice (some ⟨q, 0, none⟩) 1 1] w fun r w' => r = .returned (.int .u64 (later t d)) ∧ w = w' := by
  have ha := addEq t d w hx hy
  by_cases h : t + d ≤ 18446744073709551615
  · have h1 : (t + d) % 18446744073709551616 = t + d := by omega
    have h2 : (t + d) / 18446744073709551616 = 0 := by omega
    have h3 : later t d = t + d := by unfold later; omega
    rw [h1, h2] at ha
    rw [h3]
    clear h1 h2 h3
    go_enter Tryd.func42, Tryd.ntmps42
    go_wp2
    refine wp_loop_rounds 2 ?_
    rw [rounds_succ]
    go_wp2
    rw [rounds_succ]
    go_wp2
    go_ret
    exact ⟨rfl, rfl⟩
  · have h2 : (t + d) / 18446744073709551616 = 1 := by omega
    have h3 : later t d = 18446744073709551615 := by unfold later; omega
    rw [h2] at ha
    rw [h3]
    clear h2 h3
    go_enter Tryd.func42, Tryd.ntmps42
    go_wp2
    refine wp_loop_rounds 2 ?_
    rw [rounds_succ]
    go_wp2
    go_ret
    exact ⟨rfl, rfl⟩


/-- what time brings: what it says, whether it is to be stopped, the peer behind it -/
def ticked (d : PeerD) (now : Nat) : List (Nat × Nat × Nat) × Bool × PeerD :=
  if d.step ≠ 2 then ([], decide (later d.since 60 ≤ now), d)
  else if d.waits then ([], decide (later d.since 60 ≤ now), d)
  else if later d.since 120 > now then ([], false, d)
  else ([(3, d.pings + 1, 0)], false, { d with since := now, pings := d.pings + 1, waits := true })
def TickP (X : Ptrs) (b : Nat) (d : PeerD) (now : Nat) (w : World) (e : Ending) (w' : World) : Prop :=
  ∃ v, e = .returned (.tuple #[v, .bool (ticked d now).2.1]) ∧ Outs w' w.heap.size v (ticked d now).1 ∧ IsPeer X w' b (ticked d now).2.2 ∧ Kp (fun i => i = b) w w'
theorem tickP_mk {b : Nat} {d d' : PeerD} {now : Nat} {w w' : World} {v : Value} {l : List (Nat × Nat × Nat)} {x : Bool} (hh : ticked d now = (l, x, d')) (h1 : Outs w' w.heap.size v l) (h2 : IsPeer X w' b d') (h3 : Kp (fun i => i = b) w w') :
    TickP X b d now w (.returned (.tuple #[v, .bool x])) w' := by
  refine ⟨v, ?_, ?_, ?_, h3⟩ <;> rw [hh] <;> first | rfl | assumption
theorem tickP_same {b : Nat} {d : PeerD} {now : Nat} {w : World} {x : Bool} {o : Obj} (hp : Hid (IsPeer X w b d)) (hh : Hid (ticked d now = ([], x, d))) : TickP X b d now w (.returned (.tuple #[.slice none 0 0, .bool x])) (w.alloc o) :=
  tickP_mk hh.out (Outs.nil _ _) (hp.out.alloc o) ((Kp.refl _ w).alloc o)
theorem tick_early (b : Nat) (d : PeerD) (now : Nat) (w : World) (h : IsPeer X w b d) (hS : d.since ≤ 18446744073709551615) (hN : now ≤ 18446744073709551615) (hs : d.step ≠ 2) :
    Calls Tryd.prog 21 #[.pointer (some ⟨b, 0, none⟩), .int .u64 (now : Int)] w (TickP X b d now w) := by
  have HH := Lib.hid (show ticked d now = ([], decide (later d.since 60 ≤ now), d) by simp [ticked, hs])
  have hlt := h.lt
  have HP := Lib.hid h
  obtain ⟨f, g, q, c0, c1, c2, c3, c4, c5, c6, c7, c8, c9⟩ := h.cells
  have es : ((d.step : Int) != 2) = true := by rw [bne_iff_ne]; omega
  clear h hs
  go_enter Tryd.func21, Tryd.ntmps21
  go_wp2_with fail
  refine (later1 _ 60 _ _ (by omega) (by omega) (by omega) (by omega) (by go_simp)).mono ?_
  rintro e w1 ⟨rfl, rfl⟩
  go_wp2
  go_ret2
  exact tickP_same HP HH

theorem tick_waits (b : Nat) (d : PeerD) (now : Nat) (w : World) (h : IsPeer X w b d) (hS : d.since ≤ 18446744073709551615) (hN : now ≤ 18446744073709551615) (hs : d.step = 2) (hw : d.waits = true) :
    Calls Tryd.prog 21 #[.pointer (some ⟨b, 0, none⟩), .int .u64 (now : Int)] w (TickP X b d now w) := by
  have HH := Lib.hid (show ticked d now = ([], decide (later d.since 60 ≤ now), d) by simp [ticked, hs, hw])
  have hlt := h.lt
  have HP := Lib.hid h
  obtain ⟨f, g, q, c0, c1, c2, c3, c4, c5, c6, c7, c8, c9⟩ := h.cells
  have c2' : w.cell? ⟨b, 2, none⟩ = some (.int .i64 2) := by rw [c2, hs]; rfl
  clear c2
  rw [hw] at c9
  clear h hs hw
  go_enter Tryd.func21, Tryd.ntmps21
  go_wp2_with fail
  refine (later1 _ 60 _ _ (by omega) (by omega) (by omega) (by omega) (by go_simp)).mono ?_
  rintro e w1 ⟨rfl, rfl⟩
  go_wp2
  go_ret2
  exact tickP_same HP HH

theorem tick_not (b : Nat) (d : PeerD) (now : Nat) (w : World) (h : IsPeer X w b d) (hS : d.since ≤ 18446744073709551615) (hN : now ≤ 18446744073709551615) (hs : d.step = 2) (hw : d.waits = false) (hl : later d.since 120 > now) :
    Calls Tryd.prog 21 #[.pointer (some ⟨b, 0, none⟩), .int .u64 (now : Int)] w (TickP X b d now w) := by
  have HH := Lib.hid (show ticked d now = ([], false, d) by simp [ticked, hs, hw, hl])
  have hlt := h.lt
  have HP := Lib.hid h
  obtain ⟨f, g, q, c0, c1, c2, c3, c4, c5, c6, c7, c8, c9⟩ := h.cells
  have c2' : w.cell? ⟨b, 2, none⟩ = some (.int .i64 2) := by rw [c2, hs]; rfl
  clear c2
  rw [hw] at c9
  have hl' : (now : Int) < later d.since 120 := hl
  clear h hs hw hl
  go_enter Tryd.func21, Tryd.ntmps21
  go_wp2_with fail
  refine (later1 _ 120 _ _ (by omega) (by omega) (by omega) (by omega) (by go_simp)).mono ?_
  rintro e w1 ⟨rfl, rfl⟩
  go_wp2
  go_ret2
  exact tickP_same HP HH

theorem tick_pings (b : Nat) (d : PeerD) (now : Nat) (w : World) (h : IsPeer X w b d) (hS : d.since ≤ 18446744073709551615) (hN : now ≤ 18446744073709551615) (hs : d.step = 2) (hw : d.waits = false) (hl : later d.since 120 ≤ now) (hp : d.pings + 1 < 18446744073709551616) :
    Calls Tryd.prog 21 #[.pointer (some ⟨b, 0, none⟩), .int .u64 (now : Int)] w (TickP X b d now w) := by
  have HH := Lib.hid (show ticked d now = ([(3, d.pings + 1, 0)], false, { d with since := now, pings := d.pings + 1, waits := true }) by simp [ticked, hs, hw, Int.not_lt.2 hl])
  have hlt := h.lt
  obtain ⟨f, g, q, he, hb⟩ := h
  obtain ⟨f', g', q', c0, c1, c2, c3, c4, c5, c6, c7, c8, c9⟩ := IsPeer.cells ⟨f, g, q, he, hb⟩
  have hset := ((hb.set 7 (.int .u64 now)).set 8 (.int .u64 ((d.pings + 1 : Nat) : Int))).set 9 (.bool true)
  rw [show (((peerCells d f g (some q)).setIfInBounds 7 (.int .u64 now)).setIfInBounds 8 (.int .u64 ((d.pings + 1 : Nat) : Int))).setIfInBounds 9 (.bool true) = peerCells { d with since := now, pings := d.pings + 1, waits := true } f g (some q) by simp [peerCells]] at hset
  have f7 : w.frozen? ⟨b, 7, none⟩ = false := hb.frozen 7
  have f8 : w.frozen? ⟨b, 8, none⟩ = false := hb.frozen 8
  have f9 : w.frozen? ⟨b, 9, none⟩ = false := hb.frozen 9
  obtain ⟨W3, hW3⟩ : ∃ W3, W3 = ((w.setCell ⟨b, 7, none⟩ (.int .u64 now)).setCell ⟨b, 8, none⟩ (.int .u64 ((d.pings + 1 : Nat) : Int))).setCell ⟨b, 9, none⟩ (.bool true) := ⟨_, rfl⟩
  have hz3 : W3.heap.size = w.heap.size := by rw [hW3]; simp
  rw [← hW3] at hset
  have hk3 : Kp (fun i => i = b) w W3 := by rw [hW3]; exact Kp.setCell (S := fun i => i = b) (Kp.setCell (S := fun i => i = b) (Kp.setCell (S := fun i => i = b) (Kp.refl _ w) (fun _ => rfl) _) (fun _ => rfl) _) (fun _ => rfl) _
  have HE : ∀ o : Obj, Hid (TickP X b d now w (.returned (.tuple #[.slice (some ⟨w.heap.size + 1, 0, none⟩) 1 1, .bool false])) ((W3.alloc o).alloc (.cells (msgCells 3 (d.pings + 1) 0) 51))) := fun o => Lib.hid (by
    have hn := Bk.new (W3.alloc o) 51 (msgCells 3 (d.pings + 1) 0)
    rw [show (W3.alloc o).heap.size = w.heap.size + 1 by simp [hz3]] at hn
    exact tickP_mk HH.out (Outs.one hn (by omega)) ⟨f, g, q, he, (hset.alloc _).alloc _⟩ ((hk3.alloc _).alloc _))
  rw [hW3, show ((d.pings + 1 : Nat) : Int) = (d.pings : Int) + 1 by omega] at HE
  have c2' : w.cell? ⟨b, 2, none⟩ = some (.int .i64 2) := by rw [c2, hs]; rfl
  clear c2
  rw [hw] at c9
  have hwr : IntKind.u64.wrap ((d.pings : Int) + 1) = (d.pings : Int) + 1 := IntWalk.u64_in _ (by omega)
  have hl2 : decide ((now : Int) < later d.since 120) = false := by simpa using hl
  have HW := Lib.hid hwr
  clear hb hset hs hw hwr hl hp hW3 hz3 hk3 W3
  go_enter Tryd.func21, Tryd.ntmps21
  go_wp2_with fail
  refine (later1 _ 120 _ _ (by omega) (by omega) (by omega) (by omega) (by go_simp)).mono ?_
  rintro e w1 ⟨rfl, rfl⟩
  have hwr := HW.out
  clear hS hN HW
  go_wp2
  go_ret2
  exact (HE _).out
theorem tick_any (b : Nat) (d : PeerD) (now : Nat) (w : World) (h : IsPeer X w b d) (hS : d.since ≤ 18446744073709551615) (hN : now ≤ 18446744073709551615) (hp : d.pings + 1 < 18446744073709551616) :
    Calls Tryd.prog 21 #[.pointer (some ⟨b, 0, none⟩), .int .u64 (now : Int)] w (TickP X b d now w) := by
  by_cases hs : d.step = 2
  · cases hw : d.waits with
    | true => exact tick_waits b d now w h hS hN hs hw
    | false =>
      by_cases hl : later d.since 120 ≤ now
      · exact tick_pings b d now w h hS hN hs hw hl hp
      · exact tick_not b d now w h hS hN hs hw (by omega)
  · exact tick_early b d now w h hS hN hs
theorem open_out (b : Nat) (d : PeerD) (w : World) (h : IsPeer X w b d) (ho : d.out = true) : Calls Tryd.prog 15 #[.pointer (some ⟨b, 0, none⟩)] w fun r w' => ∃ v, r = .returned v ∧ Outs w' w.heap.size v [(1, d.nonce, 1)] ∧ Below w.heap.size w w' := by
  have HH := Lib.hid (hello_any b d w h)
  obtain ⟨f, g, q, c0, c1, c2, c3, c4, c5, c6, c7, c8, c9⟩ := h.cells
  rw [ho] at c0
  clear h ho
  go_enter Tryd.func15, Tryd.ntmps15
  go_wp2_with fail
  refine HH.out.mono ?_
  rintro e w1 ⟨rfl, hb⟩
  have HB := Lib.hid (show Bk _ _ 51 (msgCells 1 d.nonce 1) from Bk.new w1 _ _)
  simp only [msgCells]
  have hz := hb.size
  go_wp2
  go_ret
  exact ⟨_, rfl, Outs.one HB.out hz, hb.alloc hz _⟩
theorem open_in (b : Nat) (d : PeerD) (w : World) (h : IsPeer X w b d) (ho : d.out = false) : Calls Tryd.prog 15 #[.pointer (some ⟨b, 0, none⟩)] w fun r w' => r = .returned (.slice none 0 0) ∧ w = w' := by
  obtain ⟨f, g, q, c0, c1, c2, c3, c4, c5, c6, c7, c8, c9⟩ := h.cells
  rw [ho] at c0
  clear h ho
  go_enter Tryd.func15, Tryd.ntmps15
  go_wp2
  go_ret
  exact ⟨rfl, rfl⟩
/-! the calls of Hear at a known peer -/
theorem hear_say0 (b : Nat) (d : PeerD) (k n c : Int) (r : MsgR) (w : World) {x : Int} {m : Bool} {d' : PeerD} (h : IsPeer X w b d) (w0 : 0 ≤ n) (hs : d.step ≤ 2) (hh : heard d k n c = ([], x, m, d')) :
    Calls Tryd.prog 19 #[.pointer (some ⟨b, 0, none⟩), msgV k n c r] w fun e w' => ∃ A cap, e = hearR (.slice A 0 cap) x m ∧ IsPeer X w' b d' ∧ Kp (fun i => i = b) w w' :=
  (hear_any b d k n c r w h w0 hs).mono fun e w' ⟨v, he, ho, hp, hk⟩ => by
    rw [hh] at he ho hp
    obtain ⟨A, cap, rfl, _⟩ := ho.form
    exact ⟨A, cap, he, hp, hk⟩
theorem hear_say1 (b : Nat) (d : PeerD) (k n c : Int) (r : MsgR) (w : World) {x : Int} {m : Bool} {d' : PeerD} {k1 n1 c1 : Nat} (h : IsPeer X w b d) (w0 : 0 ≤ n) (hs : d.step ≤ 2) (hh : heard d k n c = ([(k1, n1, c1)], x, m, d')) :
    Calls Tryd.prog 19 #[.pointer (some ⟨b, 0, none⟩), msgV k n c r] w fun e w' => ∃ g cap, e = hearR (.slice (some ⟨g, 0, none⟩) 1 cap) x m ∧ w.heap.size ≤ g ∧ g < w'.heap.size ∧
      w'.cell? ⟨g, 0, none⟩ = some (.int .i64 k1) ∧ w'.cell? ⟨g, 1, none⟩ = some (.int .u64 n1) ∧ IsPeer X w' b d' ∧ Kp (fun i => i = b) w w' :=
  (hear_any b d k n c r w h w0 hs).mono fun e w' ⟨v, he, ho, hp, hk⟩ => by
    rw [hh] at he ho hp
    obtain ⟨A, cap, rfl, _, _, hc⟩ := ho.form
    obtain ⟨g, rfl, hg, hlt, h0, h1, _⟩ := hc 0 (by simp)
    exact ⟨g, cap, he, hg, hlt, by simpa using h0, by simpa using h1, hp, hk⟩
theorem hear_say2 (b : Nat) (d : PeerD) (k n c : Int) (r : MsgR) (w : World) {x : Int} {m : Bool} {d' : PeerD} {k1 n1 c1 k2 n2 c2 : Nat} (h : IsPeer X w b d) (w0 : 0 ≤ n) (hs : d.step ≤ 2) (hh : heard d k n c = ([(k1, n1, c1), (k2, n2, c2)], x, m, d')) :
    Calls Tryd.prog 19 #[.pointer (some ⟨b, 0, none⟩), msgV k n c r] w fun e w' => ∃ g cap, e = hearR (.slice (some ⟨g, 0, none⟩) 2 cap) x m ∧ w.heap.size ≤ g ∧ g < w'.heap.size ∧
      w'.cell? ⟨g, 7, none⟩ = some (.int .i64 k2) ∧ w'.cell? ⟨g, 8, none⟩ = some (.int .u64 n2) ∧ IsPeer X w' b d' ∧ Kp (fun i => i = b) w w' :=
  (hear_any b d k n c r w h w0 hs).mono fun e w' ⟨v, he, ho, hp, hk⟩ => by
    rw [hh] at he ho hp
    obtain ⟨A, cap, rfl, _, _, hc⟩ := ho.form
    obtain ⟨g, rfl, hg, hlt, h0, h1, _⟩ := hc 1 (by simp)
    exact ⟨g, cap, he, hg, hlt, by simpa using h0, by simpa using h1, hp, hk⟩
def R0 : MsgR := ⟨none, 0, 0, 0, none, 0, 0, none, 0, 0⟩
theorem IsPeer.kp {S : Nat → Prop} {w w' : World} {b : Nat} {d : PeerD} (h : IsPeer X w b d) (k : Kp S w w') (hn : ¬ S b) : IsPeer X w' b d := by obtain ⟨f, g, q, he, hb⟩ := h; exact ⟨f, g, q, he, hb.kp k hn⟩
theorem IsPeer.below {w w' : World} {b : Nat} {d : PeerD} (h : IsPeer X w b d) (k : Below w.heap.size w w') : IsPeer X w' b d := by obtain ⟨f, g, q, he, hb⟩ := h; exact ⟨f, g, q, he, hb.below k hb.lt⟩
set_option maxHeartbeats 1000000 in
theorem alive_any (w : World) : Calls Tryd.prog 7 #[] w fun r w' => r = .returned (.bool true) ∧ Below w.heap.size w w' := by
  go_enter Tryd.func7, Tryd.ntmps7
  go_wp2_with fail
  refine (new_any true 5 0 _).mono ?_
  rintro e w1 ⟨b, F, G, q, rfl, hN1⟩
  have hb1 := hN1.hb.1
  have hp1 := hN1.peer
  have hB1 := hN1.below
  have hb1' : b < w1.heap.size := hp1.lt
  clear hN1
  go_wp2_with fail
  refine (open_out b _ _ hp1 rfl).mono ?_
  rintro e w2 ⟨v2, rfl, ho2, hB2⟩
  obtain ⟨A2, cap2, rfl, _, _, hc2⟩ := ho2.form
  obtain ⟨g2, rfl, hg2, hlt2, c20, c21, _⟩ := hc2 0 (by simp)
  have hp2 := hp1.below hB2
  have hk02 : Kp (fun i => i = b) w w2 := (Kp.of_below hB1).trans (Kp.of_below hB2)
  clear hc2 ho2
  go_wp2_with fail
  refine (hear_say2 b _ 1 6 0 R0 _ hp2 (by omega) (by decide) (show heard ⟨true, 5, 0, false, 0, 0, false⟩ 1 6 0 = ([(11, 0, 1), (2, 0, 0)], 0, true, ⟨true, 5, 1, false, 0, 0, false⟩) from rfl)).mono ?_
  rintro e w3 ⟨g3, cap3, rfl, hg3, hlt3, c30, c31, hp3, hk3⟩
  go_wp2_with fail
  refine (hear_say0 b _ 2 0 0 R0 _ hp3 (by omega) (by decide) (show heard ⟨true, 5, 1, false, 0, 0, false⟩ 2 0 0 = ([], 0, true, ⟨true, 5, 2, false, 0, 0, false⟩) from rfl)).mono ?_
  rintro e w4 ⟨A4, cap4, rfl, hp4, hk4⟩
  go_wp2_with fail
  refine (hear_say1 b _ 3 7 0 R0 _ hp4 (by omega) (by decide) (show heard ⟨true, 5, 2, false, 0, 0, false⟩ 3 7 0 = ([(4, 7, 0)], 0, true, ⟨true, 5, 2, false, 0, 0, false⟩) from rfl)).mono ?_
  rintro e w5 ⟨g5, cap5, rfl, hg5, hlt5, c50, c51, hp5, hk5⟩
  have z1 := hB1.size
  have z2 := hB2.size
  have z3 := hk3.size
  have z4 := hk4.size
  have z5 := hk5.size
  have hk35 := hk4.trans hk5
  have hk25 := hk3.trans hk35
  have d20 : w5.cell? ⟨g2, 0, none⟩ = some (.int .i64 1) := (hk25.cell (p := ⟨g2, 0, none⟩) hlt2 (by show ¬ g2 = b; omega)).trans (by simpa using c20)
  have d21 : w5.cell? ⟨g2, 1, none⟩ = some (.int .u64 5) := (hk25.cell (p := ⟨g2, 1, none⟩) hlt2 (by show ¬ g2 = b; omega)).trans (by simpa using c21)
  have d30 : w5.cell? ⟨g3, 7, none⟩ = some (.int .i64 2) := (hk35.cell (p := ⟨g3, 7, none⟩) hlt3 (by show ¬ g3 = b; omega)).trans (by simpa using c30)
  have d50 : w5.cell? ⟨g5, 0, none⟩ = some (.int .i64 4) := by simpa using c50
  have d51 : w5.cell? ⟨g5, 1, none⟩ = some (.int .u64 7) := by simpa using c51
  have hend := Kp.from_elder hB1 (Kp.of_below (S := fun i => i = b) hB2 |>.trans hk25) (fun i hi (e : i = b) => by omega)
  have HE := Lib.hid hend
  have HQ := Lib.hid (queue_any b _ w5 hp5)
  have HR := Lib.hid (ready_any b _ w5 hp5)
  have HT := Lib.hid (stem_any b _ w5 hp5)
  clear c20 c21 c30 c31 c50 c51 hk02 hk3 hk4 hk5 hk35 hk25 hend hp1 hp2 hp3 hp4 hp5 hB1 hB2 z1 z2 z3 z4 z5 hg2 hg3 hg5 hlt2 hlt3 hlt5 hb1 hb1'
  go_wp2_with fail
  refine HQ.out.mono ?_
  rintro e w6 ⟨q, rfl, rfl⟩
  go_wp2_with fail
  refine HR.out.mono ?_
  rintro e w6 ⟨rfl, rfl⟩
  go_wp2_with fail
  refine HT.out.mono ?_
  rintro e w6 ⟨rfl, rfl⟩
  go_wp2_with fail
  go_ret
  exact ⟨rfl, HE.out⟩
end Go.Proofs.YtpacgblddeoheaaDoor.P22
