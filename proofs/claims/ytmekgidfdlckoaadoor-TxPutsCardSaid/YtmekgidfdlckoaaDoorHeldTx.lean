/- What stays while a region draws its order: one block's cells, and all that was there at first. -/
import Derived.Test.YtmekgidfdlckoaaDoorBase
namespace Go.Proofs.YtmekgidfdlckoaaDoor
open Go.RowKit Go.Deep
set_option linter.unusedVariables false
structure KT (w : World) (g : Nat) (cs : List Value) (w' : World) : Prop where
  rng : w'.rangeAt g 0 cs
  bel : Below w.heap.size w w'
  lt : g < w'.heap.size
theorem KT.keep {w : World} {g : Nat} {cs : List Value} {w' w'' : World} (h : KT w g cs w') (hb : Below w'.heap.size w' w'') : KT w g cs w'' :=
  ⟨fun j v hv => (hb.cell (p := ⟨g, 0 + j, none⟩) h.lt).trans (h.rng j v hv), h.bel.trans (hb.mono h.bel.size), Nat.lt_of_lt_of_le h.lt hb.size⟩
theorem KT.drew {w : World} {g : Nat} {cs : List Value} {w' : World} (h : KT w g cs w') : KT w g cs w'.drew := ⟨fun j v hv => h.rng j v hv, h.bel.drew, h.lt⟩
theorem KT.of_bk {w w' : World} {g t : Nat} {cs : List Value} (hk : Bk w' g t cs.toArray) (hb : Below w.heap.size w w') : KT w g cs w' :=
  ⟨fun j v hv => by rw [Nat.zero_add, hk.cell]; simpa using hv, hb, hk.lt⟩
end Go.Proofs.YtmekgidfdlckoaaDoor
