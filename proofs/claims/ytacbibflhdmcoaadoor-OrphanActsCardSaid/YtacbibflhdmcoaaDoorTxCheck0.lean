/- Check of a transaction that it refuses at once. -/
import Derived.Test.YtacbibflhdmcoaaDoorTxSame
namespace Go.Proofs.YtacbibflhdmcoaaDoor.T7
open Go.RowKit Go.Deep
set_option linter.unusedVariables false
set_option linter.unusedSimpArgs false
set_option maxRecDepth 100000
attribute [local go_sem ↓] Go.wp_at_zero Go.wp_at_succ

theorem check_long (t : Txs.Tx) (A A' : Option Addr) (c c' B : Nat) (w : World) (h : TxAt w B t A c A' c') (hB : B ≤ w.heap.size) (hf : Txs.form t = false) :
    Calls Tryd.prog 27 #[txV t A c A' c'] w fun e w' => e = .returned (.int .i64 5) ∧ Below w.heap.size w w' := by
  have HF := fun W hb1 hb2 => form_any t A A' c c' B W (h.below hb1) hb2
  rw [hf] at HF
  unfold txV at HF ⊢
  have HFF := Lib.hid HF
  clear h hf HF
  go_enter Tryd.func27, Tryd.ntmps27
  go_wp2_with fail
  refine (HFF.out _ (Below.mono (Joins.below_alloc1 _ _) hB) (by simp; omega)).mono ?_
  rintro e w1 ⟨rfl, hb⟩
  go_wp2_with fail
  go_ret
  exact ⟨rfl, (Joins.below_alloc1 _ _).trans (hb.mono (by simp))⟩
theorem check_none (t : Txs.Tx) (A A' : Option Addr) (c c' B : Nat) (w : World) (h : TxAt w B t A c A' c') (hB : B ≤ w.heap.size) (hf : Txs.form t = true) (h0 : t.ins.length = 0 ∨ t.outs.length = 0) :
    Calls Tryd.prog 27 #[txV t A c A' c'] w fun e w' => e = .returned (.int .i64 9) ∧ Below w.heap.size w w' := by
  have HF := fun W hb1 hb2 => form_any t A A' c c' B W (h.below hb1) hb2
  rw [hf] at HF
  unfold txV at HF ⊢
  have HFF := Lib.hid HF
  have HK := Lib.hid (Bk.new w 35 #[.int .u32 (t.version : Int), .slice A t.ins.length c, .slice A' t.outs.length c'])
  have hmi := Nat.le_trans h.ic h.im
  have hmo := Nat.le_trans h.oc h.om
  unfold maxLen at hmi hmo
  clear h hf HF
  generalize t.ins.length = n at *
  generalize t.outs.length = m at *
  generalize t.version = ver at *
  by_cases hn : n = 0
  · subst hn
    clear h0
    go_enter Tryd.func27, Tryd.ntmps27
    go_wp2_with fail
    refine (HFF.out _ (Below.mono (Joins.below_alloc1 _ _) hB) (by simp; omega)).mono ?_
    rintro e w1 ⟨rfl, hb⟩
    have c1 : w1.cell? ⟨w.heap.size, 1, none⟩ = some (.slice A 0 c) := ((HK.out.below hb (by simp)).cell 1).trans rfl
    have HB := Lib.hid hb
    clear hb
    go_wp2_with fail
    go_ret
    exact ⟨rfl, (Joins.below_alloc1 _ _).trans (HB.out.mono (by simp))⟩
  · obtain rfl : m = 0 := by omega
    have hne : ((n : Int) == 0) = false := by rw [beq_eq_false_iff_ne]; omega
    clear h0
    go_enter Tryd.func27, Tryd.ntmps27
    go_wp2_with fail
    refine (HFF.out _ (Below.mono (Joins.below_alloc1 _ _) hB) (by simp; omega)).mono ?_
    rintro e w1 ⟨rfl, hb⟩
    have c1 : w1.cell? ⟨w.heap.size, 1, none⟩ = some (.slice A n c) := ((HK.out.below hb (by simp)).cell 1).trans rfl
    have c2 : w1.cell? ⟨w.heap.size, 2, none⟩ = some (.slice A' 0 c') := ((HK.out.below hb (by simp)).cell 2).trans rfl
    have HB := Lib.hid hb
    clear hb
    go_wp2_with fail
    go_ret
    exact ⟨rfl, (Joins.below_alloc1 _ _).trans (HB.out.mono (by simp))⟩
end Go.Proofs.YtacbibflhdmcoaaDoor.T7
