/- Points, how they lie in memory. -/
import Derived.Test.YtpacgblddeoheaaDoorTxES
import Derived.Test.YtpacgblddeoheaaDoorRowBk
namespace Go.Proofs.YtpacgblddeoheaaDoor.T7
open Go.RowKit Go.Deep
set_option linter.unusedVariables false
set_option linter.unusedSimpArgs false
set_option maxRecDepth 100000
attribute [local go_sem ↓] Go.wp_at_zero Go.wp_at_succ

def ptCells (x : Txs.In) : List Value := x.hash.map byteV ++ [.int .u32 (x.n : Int)]
def IsPt (vs : List Value) (x : Txs.In) : Prop := x.Ok ∧ vs = ptCells x
abbrev PtsAt (w : World) (B : Nat) (A : Option Addr) (l : List Txs.In) : Prop := At 33 IsPt w B A l
theorem ptCells_len {x : Txs.In} (h : x.Ok) : (ptCells x).length = 33 := by unfold ptCells; rw [List.length_append, List.length_map, h.1]; rfl
theorem ptCells_pt {x : Txs.In} (h : x.Ok) : ptCells x = (ptOf x h).cells := rfl
theorem ptCells_one (x : Txs.In) : ∀ u ∈ ptCells x, u.oneCell' = true := by
  intro u hu
  unfold ptCells at hu
  rcases List.mem_append.1 hu with h | h
  · exact oneCell_bytes _ u h
  · rw [List.mem_singleton.1 h]; rfl
theorem in_ptCells (x : Txs.In) (u : Value) : inCells x u = ptCells x ++ [u] := by unfold inCells ptCells; simp
theorem pt_info : (Tryd.prog.info? 95).map (fun i => (i.zero, i.size, i.bytes)) = some (some (.agg (ptCells ⟨List.replicate 32 0, 0, []⟩).toArray), 33, 36) := by kernel_rfl
theorem zero_pt : (Tryd.prog.info? 95).map (·.zero) = some (some (.agg (ptCells ⟨List.replicate 32 0, 0, []⟩).toArray)) := by kernel_rfl
theorem zeroPt_len : (ptCells ⟨List.replicate 32 0, 0, []⟩).toArray.size = 33 := by simp [ptCells]
theorem PtsAt.range {w : World} {B : Nat} {A : Option Addr} {l : List Txs.In} (h : PtsAt w B A l) {i : Nat} (hi : i < l.length) :
    ∃ b off, A = some ⟨b, off, none⟩ ∧ b < B ∧ w.rangeAt b (off + i * 33) (ptCells l[i]) ∧ l[i].Ok := by
  obtain ⟨b, off, vs, hA, hb, ⟨hk, hvs⟩, hc⟩ := h i hi
  refine ⟨b, off, hA, hb, fun j v hv => ?_, hk⟩
  rw [← hvs] at hv
  obtain ⟨hj, rfl⟩ := List.getElem?_eq_some_iff.1 hv
  exact hc j hj
end Go.Proofs.YtpacgblddeoheaaDoor.T7
