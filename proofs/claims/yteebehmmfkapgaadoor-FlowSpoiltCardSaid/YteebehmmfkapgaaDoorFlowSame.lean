/- pappusref06.Same: of one row at two places. -/
import Derived.Test.YteebehmmfkapgaaDoorFlowItems
import Derived.Test.YteebehmmfkapgaaDoorRef05Get
namespace Go.Proofs.YteebehmmfkapgaaDoor
open Go.RowKit Go.Deep
set_option linter.unusedVariables false
set_option linter.unusedSimpArgs false
set_option maxRecDepth 100000
attribute [local go_sem ↓] Go.wp_at_zero Go.wp_at_succ

/-- one item of a row -/
theorem ItemsAt.cells {w : World} {B i : Nat} {A : Option Addr} {l : List Flo.Item} (h : ItemsAt w B A l) (hi : i < l.length) : ∃ b off A1 c1, A = some ⟨b, off, none⟩ ∧ b < B ∧ (l[i]).body.length ≤ c1 ∧ c1 ≤ maxLen ∧ BytesAt w B A1 (l[i]).body ∧
    w.cell? ⟨b, off + i * 3, none⟩ = some (.string ⟨(l[i]).cmd.toArray⟩) ∧ w.cell? ⟨b, off + i * 3 + 1, none⟩ = some (.slice A1 (l[i]).body.length c1) ∧ w.cell? ⟨b, off + i * 3 + 2, none⟩ = some (.int .i64 (l[i]).err) := by
  obtain ⟨b, off, vs, hA, hlt, ⟨A1, c1, rfl, h1, h2, h3⟩, hc⟩ := h i hi
  exact ⟨b, off, A1, c1, hA, hlt, h1, h2, h3, hc 0 (by simp [itemCells]), hc 1 (by simp [itemCells]), hc 2 (by simp [itemCells])⟩
set_option maxHeartbeats 2000000 in
theorem isame_any (A A' : Option Addr) (c c' : Nat) (l : List Flo.Item) (w : World) (hl : l.length ≤ 9223372036854775807) (h : ItemsAt w w.heap.size A l) (h' : ItemsAt w w.heap.size A' l) :
    Calls Tryd.prog 13 #[.slice A l.length c, .slice A' l.length c'] w fun e w' => e = .returned (.bool true) ∧ Below w.heap.size w w' := by
  go_enter Tryd.func13, Tryd.ntmps13
  go_wp2
  go_loopw [14] (fun i wr => ∃ k : Nat, k ≤ l.length ∧ i = .int .i64 k ∧ Hid (Below w.heap.size w wr)) (fun i _ => l.length - (intOf i).toNat)
  case atStart => exact ⟨0, Nat.zero_le _, rfl, Lib.hid (Below.refl _ _)⟩
  case round =>
    obtain ⟨k, hk', rfl, HB⟩ := hrel
    by_cases hk : k < l.length
    · obtain ⟨b, off, A1, c1, rfl, hlt, hc1, hm1, hat1, d0, d1, d2⟩ := (h.below HB.out).cells hk
      obtain ⟨b', off', A2, c2, rfl, hlt', hc2, hm2, hat2, e0, e1, e2⟩ := (h'.below HB.out).cells hk
      have i1 : (0 : Int) ≤ (k : Int) := by omega
      have i2 : (k : Int) < (l.length : Int) := by omega
      obtain ⟨x, hx⟩ : ∃ x, x = l[k] := ⟨_, rfl⟩
      rw [← hx] at hc1 hat1 d0 d1 d2 hc2 hat2 e0 e1 e2
      clear hx
      obtain ⟨hs, hhs⟩ : ∃ hs : ByteArray, hs = ⟨x.cmd.toArray⟩ := ⟨_, rfl⟩
      rw [← hhs] at d0 e0
      clear hhs
      have HB1 := Lib.hid hat1
      have HB2 := Lib.hid hat2
      have hz := HB.out.size
      have LB : b' < wr.heap.size := by omega
      have n1 : ¬ (wr.heap.size = b') := by omega
      have n2 : ¬ (b' = wr.heap.size) := by omega
      clear hat1 hat2
      unfold maxLen at hm1 hm2
      go_upto_region 6 with (fail)
      obtain ⟨W1, hW1⟩ : ∃ W1, W1 = wr.alloc (.cells #[.string hs, .slice A1 x.body.length c1, .int .i64 x.err] 52) := ⟨_, rfl⟩
      rw [← hW1]
      have b1 : Below wr.heap.size wr W1 := by rw [hW1]; exact (Below.refl _ _).alloc (Nat.le_refl _) _
      have k1 : Bk W1 wr.heap.size 52 #[.string hs, .slice A1 x.body.length c1, .int .i64 x.err] := by rw [hW1]; exact Bk.new _ _ _
      have f0 : W1.cell? ⟨wr.heap.size, 0, none⟩ = some (.string hs) := (k1.cell 0).trans rfl
      have f1 : W1.cell? ⟨wr.heap.size, 1, none⟩ = some (.slice A1 x.body.length c1) := (k1.cell 1).trans rfl
      have f2 : W1.cell? ⟨wr.heap.size, 2, none⟩ = some (.int .i64 x.err) := (k1.cell 2).trans rfl
      have g0 := (b1.cell (p := ⟨b', off' + k * 3, none⟩) LB).trans e0
      have g1 := (b1.cell (p := ⟨b', off' + k * 3 + 1, none⟩) LB).trans e1
      have g2 := (b1.cell (p := ⟨b', off' + k * 3 + 2, none⟩) LB).trans e2
      have HSM := fun n => same_any A1 A2 x.body.length x.body.length c1 c2 x.body x.body (W1.drewN n) _ _ rfl rfl (by omega) (by omega) (HB1.out.below (below_drewN (b1.mono hz) n)) (HB2.out.below (below_drewN (b1.mono hz) n))
      simp only [decide_true] at HSM
      have HSM2 := Lib.hid HSM
      have HBB := Lib.hid (HB.out.trans (b1.mono hz))
      clear d0 d1 d2 e0 e1 e2 b1 k1 hW1 HSM
      go_region_held3 (fun w' => w'.cell? ⟨wr.heap.size, 0, none⟩ = some (.string hs) ∧ w'.cell? ⟨wr.heap.size, 1, none⟩ = some (.slice A1 x.body.length c1) ∧ w'.cell? ⟨wr.heap.size, 2, none⟩ = some (.int .i64 x.err) ∧ w'.cell? ⟨b', off' + k * 3, none⟩ = some (.string hs) ∧ w'.cell? ⟨b', off' + k * 3 + 1, none⟩ = some (.slice A2 x.body.length c2) ∧ w'.cell? ⟨b', off' + k * 3 + 2, none⟩ = some (.int .i64 x.err)) (first | go_keep | assumption) ((go_at_call 22; refine (HSM2.out _).mono ?_; rintro e w2 ⟨rfl, nq, rfl⟩))
      go_wp2_with fail
      go_roundw
      case rel => exact ⟨k + 1, by omega, by go_num, Lib.hid (below_drewN HBB.out _)⟩
      case measure => simp [intOf]; omega
    · go_wp2_with fail
      go_ret
      exact ⟨rfl, HB.out⟩
end Go.Proofs.YteebehmmfkapgaaDoor
