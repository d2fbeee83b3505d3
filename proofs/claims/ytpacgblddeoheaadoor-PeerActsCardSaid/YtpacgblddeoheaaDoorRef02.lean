/- The document's numbers as bytes: Put and Get of pappusref02. -/
import Derived.Test.YtpacgblddeoheaaDoorRef02L
namespace Go.Proofs.YtpacgblddeoheaaDoor
open Go.RowKit Go.Deep
set_option linter.unusedVariables false
set_option linter.unusedSimpArgs false
set_option maxRecDepth 100000
attribute [local go_sem ↓] Go.wp_at_zero Go.wp_at_succ
theorem le_snoc (x k : Nat) : Oct.le x (k + 1) = Oct.le x k ++ [UInt8.ofNat (x / 256 ^ k)] := by
  rw [Oct.le_append]; rfl
theorem byteV_nat (x : Nat) : Value.int .u8 ((x : Int) % 256) = byteV (UInt8.ofNat x) := by
  unfold byteV
  rw [UInt8.toNat_ofNat']
  congr 1
set_option maxHeartbeats 400000 in
theorem rput_no (x : Nat) (n : Int) (hn : ¬ (n = 1 ∨ n = 2 ∨ n = 4 ∨ n = 8)) (w : World) : Calls Tryd.prog 96 #[.int .u64 (x : Int), .int .i64 n] w fun r w' => r = .returned (.tuple #[.slice none 0 0, .int .i64 2]) ∧ w = w' := by
  have e1 : (n != 1) = true := by rw [bne_iff_ne]; omega
  have e2 : (n != 2) = true := by rw [bne_iff_ne]; omega
  have e4 : (n != 4) = true := by rw [bne_iff_ne]; omega
  have e8 : (n != 8) = true := by rw [bne_iff_ne]; omega
  clear hn
  go_enter Tryd.func96, Tryd.ntmps96
  go_wp2
  go_ret2
  exact ⟨rfl, rfl⟩
/-- the bytes so far, and what is left of the number -/
structure RPut (w0 : World) (x n : Nat) (v : Value) (k : Nat) (w : World) : Prop where
  le : k ≤ n
  row : OwnB w w0.heap.size v (Oct.le x k)
  below : Below w0.heap.size w0 w
theorem RPut.step {w0 w w2 : World} {x n k : Nat} {v v' u : Value} {o : Obj} (g : RPut w0 x n v k w) (hk : k < n) (hu : u = byteV (UInt8.ofNat (x / 256 ^ k)))
    (hr : w2.ownsRow w0.heap.size 5 1 v' ((Oct.le x k).length + 1) ((Oct.le x k).map byteV ++ [u])) (hg : (w.alloc o).grownBy w2 v.ownBlock) : RPut w0 x n v' (k + 1) w2 := by
  subst hu
  have hs := g.below.size
  refine ⟨hk, ?_, g.below.trans (((Below.refl w0.heap.size w).alloc hs o).grown hg (by simp; omega) (fun j hj => (g.row.lt j hj).1))⟩
  unfold OwnB
  rw [le_snoc, List.length_append, List.length_singleton, List.map_append]
  exact hr
theorem U64.div {x : Nat} (h : U64 x) (k : Nat) : U64 (x / k) := Nat.lt_of_le_of_lt (Nat.div_le_self x k) h
theorem wrap_div256 {y : Nat} (h : U64 y) : IntKind.u64.wrap ((y : Int) / 256) = ((y / 256 : Nat) : Int) := by
  unfold U64 at h
  rw [IntKind.wrap_u64]; omega
set_option maxHeartbeats 1000000 in
theorem rput_yes (x n : Nat) (hx : U64 x) (hn : n = 1 ∨ n = 2 ∨ n = 4 ∨ n = 8) (w : World) :
    Calls Tryd.prog 96 #[.int .u64 (x : Int), .int .i64 (n : Int)] w fun r w' =>
      ∃ v e, r = .returned (.tuple #[v, .int .i64 e]) ∧ (256 ^ n ≤ x → v = .slice none 0 0 ∧ e = 3) ∧ (x < 256 ^ n → OwnB w' w.heap.size v (Oct.le x n) ∧ e = 0) ∧ Below w.heap.size w w' := by
  obtain ⟨i0, hi, hz0, hz1, hz2⟩ := info_parts byte_info
  have Hi := Lib.hid hi
  have Hz := Lib.hid hz0
  have Hz1 := Lib.hid hz1
  have Hz2 := Lib.hid hz2
  have hn8 : n ≤ 8 := by omega
  clear hi hz0 hz1 hz2
  have H : (((n : Int) != 1) = false) ∨ (((n : Int) != 1) = true ∧ ((n : Int) != 2) = false) ∨ (((n : Int) != 1) = true ∧ ((n : Int) != 2) = true ∧ ((n : Int) != 4) = false) ∨
      (((n : Int) != 1) = true ∧ ((n : Int) != 2) = true ∧ ((n : Int) != 4) = true ∧ ((n : Int) != 8) = false) := by
    simp only [bne_iff_ne, bne_eq_false_iff_eq]; omega
  clear hn
  rcases H with e1 | ⟨e1, e2⟩ | ⟨e1, e2, e3⟩ | ⟨e1, e2, e3, e4⟩
  all_goals
    go_enter Tryd.func96, Tryd.ntmps96
    go_wp2
    go_loopw [0, 6, 22] (fun y v i wr => ∃ k : Nat, i = .int .i64 k ∧ y = .int .u64 (x / 256 ^ k : Nat) ∧ RPut w x n v k wr) (fun _ _ i _ => n - (intOf i).toNat)
    case atStart => exact ⟨0, rfl, by simp, Nat.zero_le _, own_nil _ _, Below.refl _ _⟩
    case round =>
      obtain ⟨k, rfl, rfl, g⟩ := hrel
      have gle := g.le
      have hrow := g.row
      have hsz := g.below.size
      have G := Lib.hid g
      clear g
      by_cases hk : k < n
      · have hlen : (Oct.le x k).length = k := Oct.le_length x k
        have ed : x / 256 ^ (k + 1) = x / 256 ^ k / 256 := by rw [Nat.pow_succ, Nat.div_div_eq_div_mul]
        have Ed := Lib.hid ed
        have hu := hx.div (256 ^ k)
        have eb := byteV_nat (x / 256 ^ k)
        have Eb := Lib.hid eb
        rw [OwnB, hlen] at hrow
        clear ed eb
        generalize hy : x / 256 ^ k = y at *
        have Hy := Lib.hid hy
        clear hy
        go_wp2_with (at_builtin; refine wpList_app _ rfl (.tmp 24) (.tmp 28) _ rfl w.heap.size 5 i0 _ 1 1 Tryd.underlying22 Hi.out Hz.out Hz1.out Hz2.out rfl (by decide) u6 _ _ rfl (hrow.alloc _) (some ⟨wr.heap.size, 0, none⟩) 1 1 [.int .u8 ((y : Int) % 256)] rfl rfl (Src.at_ _ _ _ _ _ (by simp) rfl) (by simp [Value.oneCell']) (by unfold maxLen; omega) (by omega) (by simp; omega) ?_; intro v' w2 hrow2 hg2 _)
        go_roundw
        case rel => exact ⟨k + 1, by go_num, by rw [Ed.out, wrap_div256 hu], G.out.step (u := .int .u8 ((y : Int) % 256)) hk (by rw [Hy.out]; exact Eb.out) (by rw [hlen]; exact hrow2) hg2⟩
        case measure => simp [intOf]; omega
      · obtain rfl : k = n := by omega
        have hbl := G.out.below
        rcases Nat.lt_or_ge x (256 ^ k) with hx | hx
        · have ey : x / 256 ^ k = 0 := Nat.div_eq_of_lt hx
          have Hx := Lib.hid hx
          rw [ey]
          clear hx ey
          go_wp2
          go_ret2
          exact ⟨_, _, rfl, fun h => absurd Hx.out (by omega), fun _ => ⟨hrow, rfl⟩, hbl⟩
        · have ey : 0 < x / 256 ^ k := Nat.div_pos hx (Nat.pow_pos (by decide))
          have Hx := Lib.hid hx
          clear hx
          generalize x / 256 ^ k = y at *
          go_wp2
          go_ret2
          exact ⟨_, _, rfl, fun _ => ⟨rfl, rfl⟩, fun h => absurd Hx.out (by omega), hbl⟩

/-- Put, where it fits: the slice written out -/
theorem rput_fits (x n : Nat) (hx : U64 x) (hn : n = 1 ∨ n = 2 ∨ n = 4 ∨ n = 8) (hf : x < 256 ^ n) (w : World) :
    Calls Tryd.prog 96 #[.int .u64 (x : Int), .int .i64 (n : Int)] w fun r w' =>
      ∃ A cap, r = .returned (.tuple #[.slice A n cap, .int .i64 0]) ∧ cap ≤ maxLen ∧ BytesAt w' w'.heap.size A (Oct.le x n) ∧ Below w.heap.size w w' := by
  refine (rput_yes x n hx hn w).mono fun r w' ⟨v, e, hr, _, h2, hb⟩ => ?_
  obtain ⟨ho, rfl⟩ := h2 hf
  obtain ⟨A, cap, rfl, _, hm, ha, _⟩ := ho.at_
  rw [Oct.le_length] at hr
  exact ⟨A, cap, hr, hm, ha, hb⟩
end Go.Proofs.YtpacgblddeoheaaDoor
