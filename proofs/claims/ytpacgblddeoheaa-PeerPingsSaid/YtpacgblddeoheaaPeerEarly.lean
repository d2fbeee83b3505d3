/- The small laws of a peer: how their arguments are read, what they answer. -/
import Derived.Test.YtpacgblddeoheaaPeerTick
import Derived.Laws.Bits64
namespace Go.Proofs.Ytpacgblddeoheaa
open Go.RowKit Go.Deep Go.Joins Go.ChangeShapes Go.WideShapes
set_option linter.unusedVariables false
set_option maxRecDepth 100000
attribute [local go_sem ↓] Go.wp_at_zero Go.wp_at_succ

theorem bcell {W w1 : World} (hb : Below W.heap.size W w1) : (∀ b o, b < W.heap.size → w1.cell? ⟨b, o, none⟩ = W.cell? ⟨b, o, none⟩) ∧ (∀ b o, b < W.heap.size → w1.frozen? ⟨b, o, none⟩ = W.frozen? ⟨b, o, none⟩) :=
  ⟨fun b o h => hb.cell (p := ⟨b, o, none⟩) h, fun b o h => hb.frozen (p := ⟨b, o, none⟩) h⟩
def sideV (o : Bool) (n t : Nat) : Value := .agg #[.bool o, .int .u64 (n : Int), .int .u64 (t : Int)]
theorem side_open {H : Type} {enc : TypeId × Value → H} {W : World} {base : Nat} {v : Value} {d : DataW H} {p : List MemPlace} (okv : Value.okWide Try.prog W .any base 24 v)
    (h : DataW.Trod enc Try.prog W 0 (fun _ => true) true 24 v d p) : ∃ (o : Bool) (n t : Nat), v = sideV o n t ∧ n ≤ 18446744073709551615 ∧ t ≤ 18446744073709551615 := by
  obtain ⟨v0, v1, v2, y0, y1, y2, m, rfl, _, _, h0, h1, h2⟩ := Joins.open_agg3 Try.underlying24 (by kernel_rfl) (by kernel_rfl) okv h
  obtain ⟨o, e0, _⟩ := DataW.trod_bool Try.underlying4 h0
  obtain ⟨n, e1, _, w1⟩ := DataW.trod_int Try.underlying22 h1
  obtain ⟨t, e2, _, w2⟩ := DataW.trod_int Try.underlying22 h2
  injection e0 with e0; injection e1 with e1; injection e2 with e2
  have w1 := wf_u64 w1
  have w2 := wf_u64 w2
  obtain ⟨n, rfl⟩ := Int.eq_ofNat_of_zero_le w1.1
  obtain ⟨t, rfl⟩ := Int.eq_ofNat_of_zero_le w2.1
  refine ⟨o, n, t, ?_, by omega, by omega⟩
  rw [e0, e1, e2]; rfl
theorem one_slice {H : Type} {enc : TypeId × Value → H} {P : Program} {W : World} {t e : TypeId} {m : Nat} {v : Value} {x : DataW H × List MemPlace} (ht : P.underlying t = some (.slice e))
    (h : DataW.trod enc P W 0 (fun _ => true) true m t [v] = some x) : ∃ A l c, v = .slice A l c := by
  rcases open_slice ht h with ⟨hcs, _⟩ | ⟨a, len, cap, m, n, D, Pl, hcs, _⟩
  · injection hcs with hcs; exact ⟨none, 0, 0, hcs⟩
  · injection hcs with hcs; exact ⟨some a, len, cap, hcs⟩
theorem msg_open {H : Type} {enc : TypeId × Value → H} {W : World} {base : Nat} {v : Value} {d : DataW H} {p : List MemPlace} (okv : Value.okWide Try.prog W .any base 32 v)
    (h : DataW.Trod enc Try.prog W 0 (fun _ => true) true 32 v d p) : ∃ (k : Int) (n : Nat) (c : Int) (r : MsgR), v = msgV k n c r ∧ n ≤ 18446744073709551615 := by
  obtain ⟨cs, rfl, hsz⟩ := okWide_struct Try.underlying32 okv
  obtain ⟨l⟩ := cs
  have hC : Try.prog.cellsOf 32 = 7 := by kernel_rfl
  match l, hsz.trans hC with
  | [c0, c1, c2, c3, c4, c5, c6], _ =>
    obtain ⟨fuel, hf⟩ := h
    obtain ⟨xs, m, _, _, _, hlen, hg⟩ := DataW.trod_struct Try.underlying32 hf
    simp only [Value.cells] at hg
    obtain ⟨k, e0, _⟩ := field_int hg hlen 0 _ rfl (by kernel_rfl) (by show (0 : Nat) < 7; omega) Try.underlying3
    obtain ⟨n, e1, w1⟩ := field_int hg hlen 1 _ rfl (by kernel_rfl) (by show (1 : Nat) < 7; omega) Try.underlying22
    obtain ⟨c, e2, _⟩ := field_int hg hlen 2 _ rfl (by kernel_rfl) (by show (2 : Nat) < 7; omega) Try.underlying25
    obtain ⟨v3, x3, e3, h3⟩ := field_cell hg hlen 3 _ rfl (by kernel_rfl) (by show (3 : Nat) < 7; omega)
    obtain ⟨A3, l3, k3, rfl⟩ := one_slice Try.underlying26 h3
    have hil : 4 < xs.length := by rw [hlen]; decide
    have hcc : List.take (Try.prog.cellsOf 30) (List.drop 4 [c0, c1, c2, c3, c4, c5, c6]) = [c4, c5, c6] := by rw [show Try.prog.cellsOf 30 = 3 by kernel_rfl]; rfl
    have h4 : DataW.trod enc Try.prog W 0 (fun _ => true) true m 30 [c4, c5, c6] = xs[4]? := by have := hg 4 _ rfl; rw [← hcc]; exact this
    rw [List.getElem?_eq_getElem hil] at h4
    obtain ⟨ys, m', _, _, _, hlen', hg'⟩ := DataW.trod_struct Try.underlying30 h4
    obtain ⟨x4, e4, _⟩ := field_int hg' hlen' 0 _ rfl (by kernel_rfl) (by show (0 : Nat) < 3; omega) Try.underlying25
    obtain ⟨v5, x5, e5, h5⟩ := field_cell hg' hlen' 1 _ rfl (by kernel_rfl) (by show (1 : Nat) < 3; omega)
    obtain ⟨A5, l5, k5, rfl⟩ := one_slice Try.underlying27 h5
    obtain ⟨v6, x6, e6, h6⟩ := field_cell hg' hlen' 2 _ rfl (by kernel_rfl) (by show (2 : Nat) < 3; omega)
    obtain ⟨A6, l6, k6, rfl⟩ := one_slice Try.underlying28 h6
    have w1 := wf_u64 w1
    obtain ⟨n, rfl⟩ := Int.eq_ofNat_of_zero_le w1.1
    refine ⟨k, n, c, ⟨A3, l3, k3, x4, A5, l5, k5, A6, l6, k6⟩, ?_, by omega⟩
    injection e0 with e0; injection e1 with e1; injection e2 with e2; injection e3 with e3; injection e4 with e4; injection e5 with e5; injection e6 with e6
    rw [e0, e1, e2, e3, e4, e5, e6]; rfl
theorem xor1 (n : Nat) (hn : n ≤ 18446744073709551615) : ∃ x : Nat, bits .xor .u64 (n : Int) 1 = (x : Int) ∧ x ≠ n := by
  refine ⟨n ^^^ 1, bits_xor_u64_nat n 1 (by omega) (by omega), fun h => ?_⟩
  have := congrArg (fun y => Nat.testBit y 0) h
  simp at this
  omega
theorem Kp.low {b B : Nat} {w w' : World} (h : Kp (fun i => i = b) w w') (hb : B ≤ b) (hs : B ≤ w.heap.size) : Below B w w' :=
  ⟨h.os, h.tape, h.output, h.size, fun i hi => h.block i (by omega) (by omega)⟩
theorem bcell' {B : Nat} {W w1 : World} (hb : Below B W w1) : (∀ b o, b < B → w1.cell? ⟨b, o, none⟩ = W.cell? ⟨b, o, none⟩) ∧ (∀ b o, b < B → w1.frozen? ⟨b, o, none⟩ = W.frozen? ⟨b, o, none⟩) :=
  ⟨fun b o h => hb.cell (p := ⟨b, o, none⟩) h, fun b o h => hb.frozen (p := ⟨b, o, none⟩) h⟩
/-- the two boxed arguments, as cells of any world behind -/
structure Boxes (w w' : World) (cs ds : Array Value) : Prop where
  lt : w.heap.size + 1 < w'.heap.size
  c : ∀ i, w'.cell? ⟨w.heap.size, i, none⟩ = cs[i]?
  d : ∀ i, w'.cell? ⟨w.heap.size + 1, i, none⟩ = ds[i]?
  b : Below w.heap.size w w'
theorem Boxes.mk' {w w1 : World} {cs ds : Array Value} {t t' : TypeId} (h : Below ((w.alloc (.cells cs t)).alloc (.cells ds t')).heap.size ((w.alloc (.cells cs t)).alloc (.cells ds t')) w1) : Boxes w w1 cs ds := by
  have hz := h.size
  have h1 : ((w.alloc (.cells cs t)).alloc (.cells ds t')).heap.size = w.heap.size + 2 := by simp
  rw [h1] at hz h
  have k1 := ((Bk.new w t cs).alloc (.cells ds t')).below h (by omega)
  have k2 := Bk.new (w.alloc (.cells cs t)) t' ds
  rw [show (w.alloc (.cells cs t)).heap.size = w.heap.size + 1 by simp] at k2
  have k2 := k2.below h (by omega)
  exact ⟨by omega, k1.cell, k2.cell, (Joins.below_alloc2 _ _ _).trans (h.mono (by omega))⟩
theorem Boxes.go {w w1 w2 : World} {cs ds : Array Value} {B : Nat} (h : Boxes w w1 cs ds) (hb : Below B w1 w2) (hB : w.heap.size + 1 < B) : Boxes w w2 cs ds :=
  ⟨Nat.lt_of_lt_of_le h.lt hb.size, fun i => (hb.cell (p := ⟨_, i, none⟩) (by show w.heap.size < B; omega)).trans (h.c i), fun i => (hb.cell (p := ⟨_, i, none⟩) (by show w.heap.size + 1 < B; omega)).trans (h.d i), h.b.trans (hb.mono (by omega))⟩
theorem Boxes.msg {w w1 : World} {cs : Array Value} {k n c : Int} {r : MsgR} (h : Boxes w w1 cs #[.int .i64 k, .int .u64 n, .int .u32 c, .slice r.a3 r.l3 r.c3, .int .u32 r.x4, .slice r.a5 r.l5 r.c5, .slice r.a6 r.l6 r.c6]) :
    w1.cell? ⟨w.heap.size + 1, 0, none⟩ = some (.int .i64 k) ∧ w1.cell? ⟨w.heap.size + 1, 1, none⟩ = some (.int .u64 n) ∧ w1.cell? ⟨w.heap.size + 1, 2, none⟩ = some (.int .u32 c) ∧ w1.cell? ⟨w.heap.size + 1, 3, none⟩ = some (.slice r.a3 r.l3 r.c3) ∧
    w1.cell? ⟨w.heap.size + 1, 4, none⟩ = some (.int .u32 r.x4) ∧ w1.cell? ⟨w.heap.size + 1, 5, none⟩ = some (.slice r.a5 r.l5 r.c5) ∧ w1.cell? ⟨w.heap.size + 1, 6, none⟩ = some (.slice r.a6 r.l6 r.c6) :=
  ⟨h.d 0, h.d 1, h.d 2, h.d 3, h.d 4, h.d 5, h.d 6⟩
theorem Boxes.side {w w1 : World} {ds : Array Value} {o : Bool} {n t : Int} (h : Boxes w w1 #[.bool o, .int .u64 n, .int .u64 t] ds) :
    w1.cell? ⟨w.heap.size, 0, none⟩ = some (.bool o) ∧ w1.cell? ⟨w.heap.size, 1, none⟩ = some (.int .u64 n) ∧ w1.cell? ⟨w.heap.size, 2, none⟩ = some (.int .u64 t) := ⟨h.c 0, h.c 1, h.c 2⟩
theorem heard_early (d : PeerD) (k n c : Int) (hs : d.step = 0) (h1 : k ≠ 1) : heard d k n c = ([], (if k = 9 then 0 else 20), true, d) := by
  unfold heard
  rw [if_neg h1]
  by_cases h11 : k = 11
  · subst h11; simp [hs]
  rw [if_neg h11]
  by_cases h2 : k = 2
  · subst h2; simp [hs]
  rw [if_neg h2, if_pos (by omega)]
theorem early_no (w : World) (o : Bool) (n t : Nat) (hn : n ≤ 18446744073709551615) (ht : t ≤ 18446744073709551615) (k : Int) (m : Nat) (c : Int) (r : MsgR) :
    Calls Try.prog 3 #[sideV o n t, .bool false, msgV k m c r] w fun e w' => e = .returned (.bool true) ∧ Below w.heap.size w w' := by
  clear hn ht
  unfold sideV
  by_cases h1 : k = 1
  · subst h1
    unfold msgV
    go_enter Try.func3, Try.ntmps3
    go_wp2_with fail
    refine (alive_any _).mono ?_
    rintro e w1 ⟨rfl, hb1⟩
    have g1 := Boxes.mk' hb1
    obtain ⟨s0, s1, s2⟩ := g1.side
    clear hb1
    go_wp2_with fail
    refine (new_any _ _ _ _).mono ?_
    rintro e w2 ⟨b, rfl, hb2, hb2', hp2, hB2⟩
    have g2 := g1.go hB2 g1.lt
    obtain ⟨m0, m1, m2, m3, m4, m5, m6⟩ := g2.msg
    clear hB2 hp2 s0 s1 s2 g1
    go_wp2_with fail
    go_ret
    exact ⟨rfl, g2.b⟩
  · have hh := heard_early ⟨o, n, 0, false, t, 0, false⟩ k m c rfl h1
    have e1 : (k == 1) = false := by rw [beq_eq_false_iff_ne]; exact h1
    have HH := Lib.hid hh
    clear hh
    by_cases h9 : k = 9
    all_goals
      first | (subst h9; clear e1) | (have e9 : (k == 9) = false := by rw [beq_eq_false_iff_ne]; exact h9)
      first | rw [if_pos rfl] at HH | rw [if_neg h9] at HH
      clear h1
      try clear h9
      unfold msgV
      go_enter Try.func3, Try.ntmps3
      go_wp2_with fail
      refine (alive_any _).mono ?_
      rintro e w1 ⟨rfl, hb1⟩
      have g1 := Boxes.mk' hb1
      obtain ⟨s0, s1, s2⟩ := g1.side
      clear hb1
      go_wp2_with fail
      refine (new_any _ _ _ _).mono ?_
      rintro e w2 ⟨b, rfl, hb2, hb2', hp2, hB2⟩
      have g2 := g1.go hB2 g1.lt
      obtain ⟨m0, m1, m2, m3, m4, m5, m6⟩ := g2.msg
      have hb2'' : w.heap.size + 1 < b := by have := g1.lt; omega
      clear hB2 s0 s1 s2 g1
      go_wp2_with fail
      refine (hear_say0 b _ _ m c r _ hp2 (by omega) (by simp) HH.out).mono ?_
      rintro e w3 ⟨A, cap, rfl, hp3, hk3⟩
      have g3 := g2.go (hk3.low (Nat.le_refl b) (by omega)) hb2''
      obtain ⟨n0, n1, n2, n3, n4, n5, n6⟩ := g3.msg
      have HR := Lib.hid (ready_any b _ w3 hp3)
      have HT := Lib.hid (stem_any b _ w3 hp3)
      clear m0 m1 m2 m3 m4 m5 m6 g2 hk3 hp3 hp2
      go_wp2_with fail
      refine HR.out.mono ?_
      rintro e w4 ⟨rfl, rfl⟩
      go_wp2_with fail
      refine HT.out.mono ?_
      rintro e w4 ⟨rfl, rfl⟩
      go_wp2_with fail
      go_ret
      exact ⟨rfl, g3.b⟩
/-- Hear, whatever is said -/
theorem hear_sayn (b : Nat) (d : PeerD) (k n c : Int) (r : MsgR) (w : World) {l : List (Nat × Nat × Nat)} {x : Int} {m : Bool} {d' : PeerD} (h : IsPeer w b d) (w0 : 0 ≤ n) (hs : d.step ≤ 2) (hh : heard d k n c = (l, x, m, d')) :
    Calls Try.prog 9 #[.pointer (some ⟨b, 0, none⟩), msgV k n c r] w fun e w' => ∃ A cap, e = hearR (.slice A l.length cap) x m ∧ IsPeer w' b d' ∧ Kp (fun i => i = b) w w' :=
  (hear_any b d k n c r w h w0 hs).mono fun e w' ⟨v, he, ho, hp, hk⟩ => by
    rw [hh] at he ho hp
    obtain ⟨A, cap, rfl, _⟩ := ho.form
    exact ⟨A, cap, he, hp, hk⟩
theorem heard_version (d : PeerD) (n c : Int) (hs : d.step = 0) (hn : n ≠ d.nonce) : ∃ l, heard d 1 n c = (l, 0, true, { d with step := 1 }) := by
  unfold heard
  rw [if_pos rfl, if_neg (by omega), if_neg hn]
  cases d.out
  · exact ⟨_, rfl⟩
  · exact ⟨_, rfl⟩
theorem heard_mid (d : PeerD) (k n c : Int) (hs : d.step = 1) (h1 : k ≠ 1) (h11 : k ≠ 11) (h2 : k ≠ 2) : heard d k n c = ([], (if k = 9 then 0 else 20), true, d) := by
  unfold heard
  rw [if_neg h1, if_neg h11, if_neg h2, if_pos (by omega)]
theorem early_yes (w : World) (o : Bool) (n t : Nat) (hn : n ≤ 18446744073709551615) (ht : t ≤ 18446744073709551615) (k : Int) (m : Nat) (c : Int) (r : MsgR) :
    Calls Try.prog 3 #[sideV o n t, .bool true, msgV k m c r] w fun e w' => e = .returned (.bool true) ∧ Below w.heap.size w w' := by
  have HX := Lib.hid (xor1 n hn)
  clear hn ht
  unfold sideV
  by_cases hk : k = 1 ∨ k = 11 ∨ k = 2
  · rcases hk with rfl | rfl | rfl
    all_goals
      unfold msgV
      go_enter Try.func3, Try.ntmps3
      go_wp2_with fail
      refine (alive_any _).mono ?_
      rintro e w1 ⟨rfl, hb1⟩
      have g1 := Boxes.mk' hb1
      obtain ⟨s0, s1, s2⟩ := g1.side
      clear hb1
      go_wp2_with fail
      refine (new_any _ _ _ _).mono ?_
      rintro e w2 ⟨b, rfl, hb2, hb2', hp2, hB2⟩
      have g2 := g1.go hB2 g1.lt
      obtain ⟨m0, m1, m2, m3, m4, m5, m6⟩ := g2.msg
      have hb2'' : w.heap.size + 1 < b := by have := g1.lt; omega
      obtain ⟨s0', s1', s2'⟩ := g2.side
      clear hB2 s0 s1 s2 g1
      go_wp2_with fail
      obtain ⟨x, hx, hxn⟩ := HX.out
      rw [hx]
      obtain ⟨l, hl⟩ := heard_version ⟨o, n, 0, false, t, 0, false⟩ (x : Int) 0 rfl (by show (x : Int) ≠ (n : Int); omega)
      refine (hear_sayn b _ 1 x 0 R0 _ hp2 (by omega) (by simp) hl).mono ?_
      clear hx hl HX
      rintro e w3 ⟨A3, cap3, rfl, hp3, hk3⟩
      have g3 := g2.go (hk3.low (Nat.le_refl b) (by omega)) hb2''
      have hlt3 : b < w3.heap.size := hp3.lt
      obtain ⟨n0, n1, n2, n3, n4, n5, n6⟩ := g3.msg
      clear m0 m1 m2 m3 m4 m5 m6 g2 hk3 hp2 s0' s1' s2' hxn
      go_wp2_with fail
      go_ret
      exact ⟨rfl, g3.b⟩
  · have h1 : k ≠ 1 := fun e => hk (.inl e)
    have h11 : k ≠ 11 := fun e => hk (.inr (.inl e))
    have h2 : k ≠ 2 := fun e => hk (.inr (.inr e))
    have HH := Lib.hid (heard_mid ⟨o, n, 1, false, t, 0, false⟩ k m c rfl h1 h11 h2)
    have e1 : (k == 1) = false := by rw [beq_eq_false_iff_ne]; exact h1
    have e11 : (k == 11) = false := by rw [beq_eq_false_iff_ne]; exact h11
    have e2 : (k == 2) = false := by rw [beq_eq_false_iff_ne]; exact h2
    clear hk h1 h11 h2
    by_cases h9 : k = 9
    all_goals
      first | (subst h9; clear e1 e11 e2) | (have e9 : (k == 9) = false := by rw [beq_eq_false_iff_ne]; exact h9)
      first | rw [if_pos rfl] at HH | rw [if_neg h9] at HH
      try clear h9
      unfold msgV
      go_enter Try.func3, Try.ntmps3
      go_wp2_with fail
      refine (alive_any _).mono ?_
      rintro e w1 ⟨rfl, hb1⟩
      have g1 := Boxes.mk' hb1
      obtain ⟨s0, s1, s2⟩ := g1.side
      clear hb1
      go_wp2_with fail
      refine (new_any _ _ _ _).mono ?_
      rintro e w2 ⟨b, rfl, hb2, hb2', hp2, hB2⟩
      have g2 := g1.go hB2 g1.lt
      obtain ⟨m0, m1, m2, m3, m4, m5, m6⟩ := g2.msg
      have hb2'' : w.heap.size + 1 < b := by have := g1.lt; omega
      obtain ⟨s0', s1', s2'⟩ := g2.side
      clear hB2 s0 s1 s2 g1
      go_wp2_with fail
      obtain ⟨x, hx, hxn⟩ := HX.out
      rw [hx]
      obtain ⟨l, hl⟩ := heard_version ⟨o, n, 0, false, t, 0, false⟩ (x : Int) 0 rfl (by show (x : Int) ≠ (n : Int); omega)
      refine (hear_sayn b _ 1 x 0 R0 _ hp2 (by omega) (by simp) hl).mono ?_
      clear hx hl HX
      rintro e w3 ⟨A3, cap3, rfl, hp3, hk3⟩
      have g3 := g2.go (hk3.low (Nat.le_refl b) (by omega)) hb2''
      have hlt3 : b < w3.heap.size := hp3.lt
      obtain ⟨n0, n1, n2, n3, n4, n5, n6⟩ := g3.msg
      clear m0 m1 m2 m3 m4 m5 m6 g2 hk3 hp2 s0' s1' s2' hxn
      go_wp2_with fail
      refine (hear_say0 b _ _ m c r _ hp3 (by omega) (by simp) HH.out).mono ?_
      rintro e w4 ⟨A4, cap4, rfl, hp4, hk4⟩
      have g4 := g3.go (hk4.low (Nat.le_refl b) (by omega)) hb2''
      obtain ⟨q0, q1, q2, q3, q4, q5, q6⟩ := g4.msg
      have HR := Lib.hid (ready_any b _ w4 hp4)
      have HT := Lib.hid (stem_any b _ w4 hp4)
      clear n0 n1 n2 n3 n4 n5 n6 g3 hk4 hp4 hp3
      go_wp2_with fail
      refine HR.out.mono ?_
      rintro e w5 ⟨rfl, rfl⟩
      go_wp2_with fail
      refine HT.out.mono ?_
      rintro e w5 ⟨rfl, rfl⟩
      go_wp2_with fail
      go_ret
      exact ⟨rfl, g4.b⟩
theorem peerEarly_walk (w : World) (o : Bool) (n t : Nat) (hn : n ≤ 18446744073709551615) (ht : t ≤ 18446744073709551615) (v : Bool) (k : Int) (m : Nat) (c : Int) (r : MsgR) :
    Calls Try.prog 3 #[sideV o n t, .bool v, msgV k m c r] w fun e w' => e = .returned (.bool true) ∧ Below w.heap.size w w' := by
  cases v
  · exact early_no w o n t hn ht k m c r
  · exact early_yes w o n t hn ht k m c r
end Go.Proofs.Ytpacgblddeoheaa
