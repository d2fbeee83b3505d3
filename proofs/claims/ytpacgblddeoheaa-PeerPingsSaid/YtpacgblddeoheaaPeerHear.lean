/- What a peer hears. -/
import Derived.Test.YtpacgblddeoheaaPeer
namespace Go.Proofs.Ytpacgblddeoheaa
open Go.RowKit Go.Deep
set_option linter.unusedVariables false
set_option maxRecDepth 100000
attribute [local go_sem ↓] Go.wp_at_zero Go.wp_at_succ

theorem IsPeer.lt {w : World} {b : Nat} {d : PeerD} (h : IsPeer w b d) : b < w.heap.size := by obtain ⟨f, g, q, hb⟩ := h; exact hb.lt
/-- a message of a kind, a number and a code, and nothing else -/
def msgCells (k n c : Nat) : Array Value := #[.int .i64 k, .int .u64 n, .int .u32 c, .slice none 0 0, .int .u32 0, .slice none 0 0, .slice none 0 0]
theorem msg_size : (Try.prog.info? 32).map (·.size) = some 7 := by kernel_rfl
/-- what the call has put together to be sent: messages of a kind, a number, a code -/
def Outs (w : World) (base : Nat) (v : Value) (l : List (Nat × Nat × Nat)) : Prop := w.ownsRow base 32 7 v l.length (l.flatMap fun m => (msgCells m.1 m.2.1 m.2.2).toList)
theorem Outs.nil (w : World) (base : Nat) : Outs w base (.slice none 0 0) [] := World.ownsRow_nil _ _ _ _
theorem Outs.one {w : World} {base g k n c : Nat} (h : Bk w g 32 (msgCells k n c)) (hb : base ≤ g) : Outs w base (.slice (some ⟨g, 0, none⟩) 1 1) [(k, n, c)] :=
  ⟨by simp [msgCells], .inr ⟨g, 1, msgCells k n c, rfl, hb, h, Nat.le_refl _, by simp [maxLen], by simp [msgCells], by simp [msgCells]⟩⟩
theorem Outs.two {w : World} {base g k n c k' n' c' : Nat} (h : Bk w g 32 (msgCells k n c ++ msgCells k' n' c')) (hb : base ≤ g) : Outs w base (.slice (some ⟨g, 0, none⟩) 2 2) [(k, n, c), (k', n', c')] :=
  ⟨by simp [msgCells], .inr ⟨g, 2, msgCells k n c ++ msgCells k' n' c', rfl, hb, h, Nat.le_refl _, by simp [maxLen], by simp [msgCells], by simp [msgCells]⟩⟩
theorem Outs.mono {w : World} {base base' : Nat} {v : Value} {l : List (Nat × Nat × Nat)} (h : Outs w base v l) (hb : base' ≤ base) : Outs w base' v l := own_mono h hb
theorem Outs.form {w : World} {base : Nat} {v : Value} {l : List (Nat × Nat × Nat)} (h : Outs w base v l) : ∃ A cap, v = .slice A l.length cap ∧ l.length ≤ cap ∧ cap ≤ maxLen ∧
    ∀ i (hi : i < l.length), ∃ g, A = some ⟨g, 0, none⟩ ∧ base ≤ g ∧ g < w.heap.size ∧ w.cell? ⟨g, i * 7, none⟩ = some (.int .i64 (l[i].1 : Int)) ∧ w.cell? ⟨g, i * 7 + 1, none⟩ = some (.int .u64 (l[i].2.1 : Int)) ∧ w.cell? ⟨g, i * 7 + 2, none⟩ = some (.int .u32 (l[i].2.2 : Int)) := by
  obtain ⟨A, cap, hv, h1, h2, _, hc⟩ := own_form h
  refine ⟨A, cap, hv, h1, h2, fun i hi => ?_⟩
  have hx : ∀ j, j < 7 → (l.flatMap fun m => (msgCells m.1 m.2.1 m.2.2).toList)[i * 7 + j]? = (msgCells l[i].1 l[i].2.1 l[i].2.2).toList[j]? := fun j hj => flatMap_index l (fun x _ => by simp [msgCells]) i hi j hj
  obtain ⟨g, hA, hg, hlt, h0⟩ := hc (i * 7) (.int .i64 (l[i].1 : Int)) ((hx 0 (by omega)).trans (by simp [msgCells]))
  obtain ⟨g1, hA1, _, _, h1⟩ := hc (i * 7 + 1) (.int .u64 (l[i].2.1 : Int)) ((hx 1 (by omega)).trans (by simp [msgCells]))
  obtain ⟨g2, hA2, _, _, h2⟩ := hc (i * 7 + 2) (.int .u32 (l[i].2.2 : Int)) ((hx 2 (by omega)).trans (by simp [msgCells]))
  rw [hA] at hA1 hA2
  injection hA1 with e1
  injection e1 with e1
  injection hA2 with e2
  injection e2 with e2
  subst e1; subst e2
  exact ⟨g, hA, hg, hlt, h0, h1, h2⟩
theorem hello_any (b : Nat) (d : PeerD) (w : World) (h : IsPeer w b d) : Calls Try.prog 21 #[.pointer (some ⟨b, 0, none⟩)] w fun r w' => r = .returned (.agg (msgCells 1 d.nonce 1)) ∧ Below w.heap.size w w' := by
  have hlt := h.lt
  obtain ⟨f, g, q, c0, c1, c2, c3, c4, c5, c6, c7, c8, c9⟩ := h.cells
  clear h
  go_enter Try.func21, Try.ntmps21
  go_wp2
  refine bodyPost_ret (results_cell_row rfl _ _ w.heap.size 32 (msgCells 1 d.nonce 1) (0, 0) _ rfl (Bk.new _ _ _) Try.underlying32 rfl msg_size) rfl ?_
  exact ⟨rfl, Joins.below_alloc1 _ _⟩
theorem greet_wrong (b : Nat) (d : PeerD) (n : Nat) (w : World) (h : IsPeer w b d) (hs : d.step ≠ 0) : Calls Try.prog 19 #[.pointer (some ⟨b, 0, none⟩), .int .u64 (n : Int)] w fun r w' => r = .returned (.tuple #[.slice none 0 0, .int .i64 20]) ∧ w = w' := by
  have hne : ((d.step : Int) != 0) = true := by rw [bne_iff_ne]; omega
  obtain ⟨f, g, q, c0, c1, c2, c3, c4, c5, c6, c7, c8, c9⟩ := h.cells
  clear h hs
  go_enter Try.func19, Try.ntmps19
  go_wp2
  go_ret2
  exact ⟨rfl, rfl⟩
theorem greet_self (b : Nat) (d : PeerD) (n : Nat) (w : World) (h : IsPeer w b d) (hs : d.step = 0) (hn : n = d.nonce) : Calls Try.prog 19 #[.pointer (some ⟨b, 0, none⟩), .int .u64 (n : Int)] w fun r w' => r = .returned (.tuple #[.slice none 0 0, .int .i64 22]) ∧ w = w' := by
  subst hn
  obtain ⟨f, g, q, c0, c1, c2, c3, c4, c5, c6, c7, c8, c9⟩ := h.cells
  rw [hs] at c2
  clear h hs
  generalize d.nonce = x at *
  go_enter Try.func19, Try.ntmps19
  go_wp2
  go_ret2
  exact ⟨rfl, rfl⟩
theorem greet_out (b : Nat) (d : PeerD) (n : Nat) (w : World) (h : IsPeer w b d) (hs : d.step = 0) (hn : n ≠ d.nonce) (ho : d.out = true) : Calls Try.prog 19 #[.pointer (some ⟨b, 0, none⟩), .int .u64 (n : Int)] w fun r w' =>
    ∃ v, r = .returned (.tuple #[v, .int .i64 0]) ∧ Outs w' w.heap.size v [(11, 0, 1), (2, 0, 0)] ∧ IsPeer w' b { d with step := 1 } ∧ Kp (fun i => i = b) w w' := by
  have hne : ((n : Int) == (d.nonce : Int)) = false := by rw [beq_eq_false_iff_ne]; omega
  have hlt := h.lt
  obtain ⟨f, g, q, hb⟩ := h
  have hf := hb.frozen
  have hset := hb.set 2 (.int .i64 1)
  have c0 : w.cell? ⟨b, 0, none⟩ = some (.bool d.out) := by rw [hb.cell]; rfl
  have c1 : w.cell? ⟨b, 1, none⟩ = some (.int .u64 d.nonce) := by rw [hb.cell]; rfl
  have c2 : w.cell? ⟨b, 2, none⟩ = some (.int .i64 0) := by rw [hb.cell]; simp [peerCells, hs]
  have f2 : w.frozen? ⟨b, 2, none⟩ = false := hb.frozen 2
  rw [ho] at c0
  have HS := Lib.hid hset
  have hkp : Kp (fun i => i = b) w (w.setCell ⟨b, 2, none⟩ (.int .i64 1)) := Kp.setCell (S := fun i => i = b) (Kp.refl _ w) (fun _ => rfl) _
  clear hs hset hb hf hn
  go_enter Try.func19, Try.ntmps19
  go_wp2
  go_ret2
  have hnew := Bk.new (w.setCell ⟨b, 2, none⟩ (.int .i64 1)) 32 (msgCells 11 0 1 ++ msgCells 2 0 0)
  rw [show (w.setCell ⟨b, 2, none⟩ (.int .i64 1)).heap.size = w.heap.size by simp] at hnew
  have hp : (peerCells d f g (some q)).setIfInBounds 2 (.int .i64 1) = peerCells { d with step := 1 } f g (some q) := by simp [peerCells]
  have hpeer := HS.out
  rw [hp] at hpeer
  exact ⟨_, rfl, Outs.two hnew (Nat.le_refl _), ⟨f, g, q, hpeer.alloc _⟩, hkp.alloc _⟩
theorem msg_info : (Try.prog.info? 32).map (fun i => (i.zero, i.size, i.bytes)) = some (some (.agg (msgCells 0 0 0)), 7, 104) := by kernel_rfl
theorem msg_own (w : World) (base g k n c : Nat) (h : Bk w g 32 (msgCells k n c)) (hb : base ≤ g) : w.ownsRow base 32 7 (.slice (some ⟨g, 0, none⟩) 1 1) 1 (msgCells k n c).toList :=
  ⟨by simp [msgCells], .inr ⟨g, 1, msgCells k n c, rfl, hb, h, Nat.le_refl _, by simp [maxLen], by simp [msgCells], by simp [msgCells]⟩⟩
/-- what grows a row of one's own leaves what lies under it -/
theorem grown_low {w w' : World} {B base : Nat} {e : TypeId} {size : Nat} {v : Value} {n : Nat} {xs : List Value} (hg : w.grownBy w' v.ownBlock) (h : w.ownsRow base e size v n xs) (hB : B ≤ base) (hs : B ≤ w.heap.size) : Below B w w' :=
  ⟨hg.os, hg.tape, hg.output, hg.size, fun i hi => hg.block i (by omega) (fun e => by have := (h.lt i e.symm).1; omega)⟩
theorem Bk.src {w : World} {g t : Nat} {cs : Array Value} (h : Bk w g t cs) : Src w (some ⟨g, 0, none⟩) cs.toList := by
  intro j u hu
  refine ⟨_, rfl, ?_⟩
  have e : (⟨g, 0, none⟩ : Addr).add j = ⟨g, j, none⟩ := by unfold Addr.add; split <;> simp_all
  rw [e, h.cell]
  simpa using hu
set_option maxHeartbeats 400000 in
theorem greet_in (b : Nat) (d : PeerD) (n : Nat) (w : World) (h : IsPeer w b d) (hs : d.step = 0) (hn : n ≠ d.nonce) (ho : d.out = false) : Calls Try.prog 19 #[.pointer (some ⟨b, 0, none⟩), .int .u64 (n : Int)] w fun r w' =>
    ∃ v, r = .returned (.tuple #[v, .int .i64 0]) ∧ Outs w' w.heap.size v [(1, d.nonce, 1), (11, 0, 1), (2, 0, 0)] ∧ IsPeer w' b { d with step := 1 } ∧ Kp (fun i => i = b) w w' := by
  have hne : ((n : Int) == (d.nonce : Int)) = false := by rw [beq_eq_false_iff_ne]; omega
  have hlt := h.lt
  obtain ⟨i0, hi, hz0, hz1, hz2⟩ := info_parts msg_info
  have Hi := Lib.hid hi
  have Hz := Lib.hid hz0
  have Hz1 := Lib.hid hz1
  have Hz2 := Lib.hid hz2
  clear hi hz0 hz1 hz2
  obtain ⟨f, g, q, hb⟩ := h
  have hset := hb.set 2 (.int .i64 1)
  have c0 : w.cell? ⟨b, 0, none⟩ = some (.bool d.out) := by rw [hb.cell]; rfl
  have c1 : w.cell? ⟨b, 1, none⟩ = some (.int .u64 d.nonce) := by rw [hb.cell]; rfl
  have c2 : w.cell? ⟨b, 2, none⟩ = some (.int .i64 0) := by rw [hb.cell]; simp [peerCells, hs]
  have f2 : w.frozen? ⟨b, 2, none⟩ = false := hb.frozen 2
  rw [ho] at c0
  have hp : (peerCells d f g (some q)).setIfInBounds 2 (.int .i64 1) = peerCells { d with step := 1 } f g (some q) := by simp [peerCells]
  rw [hp] at hset
  have hkp : Kp (fun i => i = b) w (w.setCell ⟨b, 2, none⟩ (.int .i64 1)) := Kp.setCell (S := fun i => i = b) (Kp.refl _ w) (fun _ => rfl) _
  have hnew := Bk.new (w.setCell ⟨b, 2, none⟩ (.int .i64 1)) 32 (msgCells 11 0 1 ++ msgCells 2 0 0)
  rw [show (w.setCell ⟨b, 2, none⟩ (.int .i64 1)).heap.size = w.heap.size by simp] at hnew
  have hpeer : IsPeer ((w.setCell ⟨b, 2, none⟩ (.int .i64 1)).alloc (.cells (msgCells 11 0 1 ++ msgCells 2 0 0) 32)) b { d with step := 1 } := ⟨f, g, q, hset.alloc _⟩
  clear hs hset hb hn hp
  go_enter Try.func19, Try.ntmps19
  go_wp2_with fail
  refine (hello_any b { d with step := 1 } _ hpeer).mono ?_
  rintro e w2 ⟨rfl, hb2⟩
  simp only [msgCells]
  have hsz2 := hb2.size
  have hsz0 : w.heap.size < w2.heap.size := Nat.lt_of_lt_of_le (by simp) hsz2
  have hnew2 := Bk.below hnew hb2 (by simp)
  obtain ⟨f', g', q', hbk⟩ := hpeer
  have hpeer2 := Bk.below hbk hb2 hbk.lt
  have hkp2 := (hkp.alloc (.cells (msgCells 11 0 1 ++ msgCells 2 0 0) 32)).trans (Kp.of_below (S := fun i => i = b) hb2)
  have hblt : b < w2.heap.size := by omega
  clear hnew hbk hkp hb2
  go_wp2_with (at_builtin; refine wpList_app _ rfl (.tmp 31) (.tmp 32) _ rfl w2.heap.size 32 i0 _ 7 104 Try.underlying36 Hi.out Hz.out Hz1.out Hz2.out rfl (by decide) (.slice (some ⟨w2.heap.size, 0, none⟩) 1 1) 1 _ rfl (msg_own _ _ _ 1 d.nonce 1 (Bk.new _ _ _) (Nat.le_refl _)) (some ⟨w.heap.size, 0, none⟩) 2 2 (msgCells 11 0 1 ++ msgCells 2 0 0).toList rfl (by simp [msgCells]) (Bk.src (hnew2.alloc _)) (by simp [msgCells, Value.oneCell']) (by simp [maxLen]) (by omega) (by simp) ?_; intro v4 w4 hrow4 hg4 hat4)
  have hlow := (Joins.below_alloc1 w2 _).trans (grown_low hg4 (msg_own _ _ _ 1 d.nonce 1 (Bk.new _ _ _) (Nat.le_refl _)) (Nat.le_refl _) (by simp))
  have hout : Outs w4 w2.heap.size v4 [(1, d.nonce, 1), (11, 0, 1), (2, 0, 0)] := by
    unfold Outs
    rw [show ([(1, d.nonce, 1), (11, 0, 1), (2, 0, 0)] : List (Nat × Nat × Nat)).flatMap (fun m => (msgCells m.1 m.2.1 m.2.2).toList) = (msgCells 1 d.nonce 1).toList ++ (msgCells 11 0 1 ++ msgCells 2 0 0).toList by simp]
    exact hrow4
  obtain ⟨A4, c4, rfl, _, _, _, _⟩ := own_form hrow4
  go_ret2
  exact ⟨_, rfl, Outs.mono hout (by omega), ⟨f', g', q', Bk.below hpeer2 hlow hblt⟩, hkp2.trans (Kp.of_below hlow)⟩
end Go.Proofs.Ytpacgblddeoheaa
