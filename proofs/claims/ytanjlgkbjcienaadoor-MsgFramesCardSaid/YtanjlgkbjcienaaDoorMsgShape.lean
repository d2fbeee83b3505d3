/- Package msg: what a kind's body has. -/
import Derived.Test.YtanjlgkbjcienaaDoorMsg
namespace Go.Proofs.YtanjlgkbjcienaaDoor.M8
open Go.RowKit Go.Deep T7
set_option linter.unusedVariables false
set_option linter.unusedSimpArgs false
set_option maxRecDepth 100000
attribute [local go_sem ↓] Go.wp_at_zero Go.wp_at_succ

def shapeCells (s : Msgs.Shape) : Array Value := #[.string ⟨s.cmd.toArray⟩, .int .i64 (s.code : Int), .int .i64 (s.n : Int), .int .u32 (s.most : Int), .int .i64 (s.ids : Int), .bool s.count, .bool s.tx]
theorem size_shape : (Tryd.prog.info? 55).map (·.size) = some 7 := by kernel_rfl
theorem shape_cells {w : World} {g : Nat} {T : TypeId} {s : Msgs.Shape} (h : Bk w g T (shapeCells s)) :
    w.cell? ⟨g, 0, none⟩ = some (.string ⟨s.cmd.toArray⟩) ∧ w.cell? ⟨g, 1, none⟩ = some (.int .i64 (s.code : Int)) ∧ w.cell? ⟨g, 2, none⟩ = some (.int .i64 (s.n : Int)) ∧ w.cell? ⟨g, 3, none⟩ = some (.int .u32 (s.most : Int)) ∧
    w.cell? ⟨g, 4, none⟩ = some (.int .i64 (s.ids : Int)) ∧ w.cell? ⟨g, 5, none⟩ = some (.bool s.count) ∧ w.cell? ⟨g, 6, none⟩ = some (.bool s.tx) :=
  ⟨(h.cell 0).trans rfl, (h.cell 1).trans rfl, (h.cell 2).trans rfl, (h.cell 3).trans rfl, (h.cell 4).trans rfl, (h.cell 5).trans rfl, (h.cell 6).trans rfl⟩
theorem shapes_yes (k : Int) (hk : Msgs.known k = true) (w : World) : Calls Tryd.prog 24 #[.int .i64 k] w fun e w' => e = .returned (.tuple #[.agg (shapeCells (Msgs.shp k)), .bool true]) ∧ Below w.heap.size w w' := by
  rcases Msgs.known_cases hk with rfl | rfl | rfl | rfl | rfl | rfl | rfl | rfl | rfl | rfl | rfl
  all_goals
    clear hk
    go_enter Tryd.func24, Tryd.ntmps24
    go_wp2_with fail
    exact bodyPost_ret (results_row_tmp rfl _ _ w.heap.size 55 _ (0, 0) _ rfl (Bk.new _ _ _) Tryd.underlying55 rfl (by exact size_shape) (.bool true) (by rfl)) rfl ⟨rfl, Joins.below_alloc1 _ _⟩
theorem shapes_no (k : Int) (hk : Msgs.known k = false) (w : World) : Calls Tryd.prog 24 #[.int .i64 k] w fun e w' => e = .returned (.tuple #[.agg (shapeCells (Msgs.shp k)), .bool false]) ∧ Below w.heap.size w w' := by
  have hn : ¬ (1 ≤ k ∧ k ≤ 11) := by simpa [Msgs.known] using hk
  rw [Msgs.unknown_shp hk]
  have k1 : (k == 1) = false := by rw [beq_eq_false_iff_ne]; omega
  have k2 : (k == 2) = false := by rw [beq_eq_false_iff_ne]; omega
  have k3 : (k == 3) = false := by rw [beq_eq_false_iff_ne]; omega
  have k4 : (k == 4) = false := by rw [beq_eq_false_iff_ne]; omega
  have k5 : (k == 5) = false := by rw [beq_eq_false_iff_ne]; omega
  have k6 : (k == 6) = false := by rw [beq_eq_false_iff_ne]; omega
  have k7 : (k == 7) = false := by rw [beq_eq_false_iff_ne]; omega
  have k8 : (k == 8) = false := by rw [beq_eq_false_iff_ne]; omega
  have k9 : (k == 9) = false := by rw [beq_eq_false_iff_ne]; omega
  have k10 : (k == 10) = false := by rw [beq_eq_false_iff_ne]; omega
  have k11 : (k == 11) = false := by rw [beq_eq_false_iff_ne]; omega
  clear hn hk
  go_enter Tryd.func24, Tryd.ntmps24
  go_wp2_with fail
  exact bodyPost_ret (results_row_tmp rfl _ _ w.heap.size 55 _ (0, 0) _ rfl (Bk.new _ _ _) Tryd.underlying55 rfl (by exact size_shape) (.bool false) (by rfl)) rfl ⟨rfl, Joins.below_alloc1 _ _⟩
theorem shapes_any (k : Int) (w : World) : Calls Tryd.prog 24 #[.int .i64 k] w fun e w' => e = .returned (.tuple #[.agg (shapeCells (Msgs.shp k)), .bool (Msgs.known k)]) ∧ Below w.heap.size w w' := by
  cases hk : Msgs.known k
  · exact shapes_no k hk w
  · exact shapes_yes k hk w
end Go.Proofs.YtanjlgkbjcienaaDoor.M8
