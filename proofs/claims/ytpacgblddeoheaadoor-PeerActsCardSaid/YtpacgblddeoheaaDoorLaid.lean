/- What the rows' lists say of the package's variables. -/
import Derived.Test.YtpacgblddeoheaaDoorShaBlock
import Derived.ProofKit
import Derived.OpenShut
import Derived.Deep.DeepHandedRow
import Derived.Lib.LaidTab
import Derived.LaidSub
import Derived.ChangeMaps5
namespace Go.Proofs.YtpacgblddeoheaaDoor
open Go.ChangeShapes Go.WideShapes Go.ChangeAt Go.RowKit
set_option linter.unusedVariables false
set_option linter.unusedSimpArgs false
theorem gConsts : Tryd.prog.globalNamed "pappus/sha.constants" = some 1 := by kernel_rfl
theorem gFirst : Tryd.prog.globalNamed "pappus/sha.first" = some 0 := by kernel_rfl
theorem gConstsType : (Tryd.prog.globals[1]?).map (·.type) = some 209 := by kernel_rfl
theorem gFirstType : (Tryd.prog.globals[0]?).map (·.type) = some 201 := by kernel_rfl
theorem constsData : (Rows.laid_pappus_sha_constants : DataW Unit) = Lib.tabData .u32 (Sha.consts.map fun x => (x.toNat : Int)) := by kernel_rfl
theorem firstData : (Rows.laid_pappus_sha_first : DataW Unit) = Lib.tabData .u32 (Sha.first.list.map fun x => (x.toNat : Int)) := by kernel_rfl
theorem laid_of {W : World} (h : laidMetH Tryd.prog [("pappus/sha.constants", Rows.laid_pappus_sha_constants), ("pappus/sha.first", Rows.laid_pappus_sha_first)] W) : Laid W := by
  have h2 := laidMetH.filter (l := [("pappus/sha.constants", Rows.laid_pappus_sha_constants), ("pappus/sha.first", Rows.laid_pappus_sha_first)]) (fun x => x.1 == "pappus/sha.first") h
  rw [constsData, firstData] at h
  have t1 := Lib.tabIs_of_head gConsts gConstsType Tryd.underlying209 Tryd.underlying44 (by kernel_rfl) (by kernel_rfl) h
  rw [show (([("pappus/sha.constants", Rows.laid_pappus_sha_constants), ("pappus/sha.first", Rows.laid_pappus_sha_first)] : List (String × DataW Unit)).filter fun x => x.1 == "pappus/sha.first") = [("pappus/sha.first", Rows.laid_pappus_sha_first)] by simp, firstData] at h2
  have t2 := Lib.tabIs_of_head gFirst gFirstType Tryd.underlying201 Tryd.underlying44 (by kernel_rfl) (by kernel_rfl) h2
  have c1 : ∀ i, i < 64 → W.cell? ⟨1, i, none⟩ = some (.int .u32 ((Sha.consts.getD i 0).toNat : Int)) := fun i hi => by
    have := t1.cell gConsts i (by rw [List.length_map]; exact hi)
    rw [this]
    simp [List.getD_eq_getElem?_getD, List.getElem?_map, show i < Sha.consts.length from hi]
  have c2 : ∀ i, i < 8 → W.cell? ⟨0, i, none⟩ = some (.int .u32 ((Sha.first.list.getD i 0).toNat : Int)) := fun i hi => by
    have := t2.cell gFirst i (by rw [List.length_map]; exact hi)
    rw [this]
    simp [List.getD_eq_getElem?_getD, List.getElem?_map, show i < Sha.first.list.length from hi]
  exact ⟨c1, c2, block_lt_of_cell (c1 0 (by decide)), block_lt_of_cell (c2 0 (by decide))⟩
/-- a world for the witness -/
noncomputable def layAt (cs : Array Value) : Obj → Obj
  | .cells _ t frozen => .cells cs t frozen
  | o => o
noncomputable def laidWorld (os : Os) : World :=
  { World.holding Tryd.prog os ⟨#[], #[], []⟩ with
    heap := ((World.holding Tryd.prog os ⟨#[], #[], []⟩).heap.modify 0 (layAt #[.int .u32 1779033703, .int .u32 3144134277, .int .u32 1013904242, .int .u32 2773480762, .int .u32 1359893119, .int .u32 2600822924, .int .u32 528734635, .int .u32 1541459225])).modify 1 (layAt #[.int .u32 1116352408, .int .u32 1899447441, .int .u32 3049323471, .int .u32 3921009573, .int .u32 961987163, .int .u32 1508970993, .int .u32 2453635748, .int .u32 2870763221, .int .u32 3624381080, .int .u32 310598401, .int .u32 607225278, .int .u32 1426881987, .int .u32 1925078388, .int .u32 2162078206, .int .u32 2614888103, .int .u32 3248222580, .int .u32 3835390401, .int .u32 4022224774, .int .u32 264347078, .int .u32 604807628, .int .u32 770255983, .int .u32 1249150122, .int .u32 1555081692, .int .u32 1996064986, .int .u32 2554220882, .int .u32 2821834349, .int .u32 2952996808, .int .u32 3210313671, .int .u32 3336571891, .int .u32 3584528711, .int .u32 113926993, .int .u32 338241895, .int .u32 666307205, .int .u32 773529912, .int .u32 1294757372, .int .u32 1396182291, .int .u32 1695183700, .int .u32 1986661051, .int .u32 2177026350, .int .u32 2456956037, .int .u32 2730485921, .int .u32 2820302411, .int .u32 3259730800, .int .u32 3345764771, .int .u32 3516065817, .int .u32 3600352804, .int .u32 4094571909, .int .u32 275423344, .int .u32 430227734, .int .u32 506948616, .int .u32 659060556, .int .u32 883997877, .int .u32 958139571, .int .u32 1322822218, .int .u32 1537002063, .int .u32 1747873779, .int .u32 1955562222, .int .u32 2024104815, .int .u32 2227730452, .int .u32 2361852424, .int .u32 2428436474, .int .u32 2756734187, .int .u32 3204031479, .int .u32 3329325298]) }
end Go.Proofs.YtpacgblddeoheaaDoor
