/-
  No cell of these rows narrows 'for every input' (looked for: loops, veiled, ifaces, maps, wideKeys, modest, calm, conditions, laid).
  DERIVED. THE GIVEN ROWS OF THIS SEAT. 6 by the template 'for every input the law returns true; each argument reads behind the call as it read before'; 0 by the template 'total and deterministic' (their statements: YtmghjghjnolfoaaTotals.lean).
  GIVEN WITH THE SEED: the statements are not yours to turn. If you find one false, say at which input.
  Laid BY PROGRAM, IN A SANDBOX (cutbox-rows.mjs): the forced cells as the released guide's own fill.sh prints them over the translation 9d647de707a2197a… (all of the seat's roots in one cut). By AI agents, Wed Nov 11 2026. No macro, syntax, notation, axiom, sorry.
-/
import Derived.Test.YtmghjghjnolfoaaChecked
import GoSem.Claim
import GoSem.ClaimJoined
import GoSem.ClaimMapViews
import Derived.JoinedTies
import Derived.KernelRfl
namespace Go.Proofs.Ytmghjghjnolfoaa
/- THE CELL 'sum', in the pinned program and in every row, IS THE sha256 OF THE DUMP (.gsa) THAT YtmghjghjnolfoaaProg.lean LOADS. Nothing in Lean hashes anything: it is a label: what it is worth is what the hold of that sum in a sandbox is worth. -/
noncomputable def Try.pinned : Pinned := { name := "ytmghjghjnolfoaa", sum := "9d647de707a2197a5695acbd2d65e4eb3ce7b37a913e82af464d304aa6df8f0b", checked := Try.checked }
namespace Rows
def none {H : Type} : Left H := { results := [], args := [] }

/-- 'pappuslaw19.ScoreCosts': WHATEVER THE INPUT: true; the input reads as it did. -/
def scoreCostsSpec : ChangeSpec := { name := "scoreCosts", fn := fun _ => fun
  | [d] => { results := [.lit (.bool true)], args := [d] }
  | _ => none }
def scoreCostsRow : OpenClaim := { program := "ytmghjghjnolfoaa", sum := "9d647de707a2197a5695acbd2d65e4eb3ce7b37a913e82af464d304aa6df8f0b", func := "pappus/pappuslaw19.ScoreCosts", spec := "scoreCosts", inPlace := ["math/bits.Add64"], apart := false }
def ScoreCostsSaid : Prop := scoreCostsRow.holds Try.pinned (OpenSpec.ofChange scoreCostsSpec)

/-- ITS FALSE NEIGHBOUR: 'it returns false'. Refute it at one input. -/
def scoreCostsWrong : ChangeSpec := { name := "scoreCosts", fn := fun _ => fun
  | [d] => { results := [.lit (.bool false)], args := [d] }
  | _ => none }
def ScoreCostsWrongFalsely : Prop := scoreCostsRow.holds Try.pinned (OpenSpec.ofChange scoreCostsWrong)

/-- 'pappuslaw19.ScoreBelow': WHATEVER THE INPUT: true; the input reads as it did. -/
def scoreBelowSpec : ChangeSpec := { name := "scoreBelow", fn := fun _ => fun
  | [d1, d2] => { results := [.lit (.bool true)], args := [d1, d2] }
  | _ => none }
def scoreBelowRow : OpenClaim := { program := "ytmghjghjnolfoaa", sum := "9d647de707a2197a5695acbd2d65e4eb3ce7b37a913e82af464d304aa6df8f0b", func := "pappus/pappuslaw19.ScoreBelow", spec := "scoreBelow", inPlace := ["math/bits.Add64"], apart := false }
def ScoreBelowSaid : Prop := scoreBelowRow.holds Try.pinned (OpenSpec.ofChange scoreBelowSpec)

/-- ITS FALSE NEIGHBOUR: 'it returns false'. Refute it at one input. -/
def scoreBelowWrong : ChangeSpec := { name := "scoreBelow", fn := fun _ => fun
  | [d1, d2] => { results := [.lit (.bool false)], args := [d1, d2] }
  | _ => none }
def ScoreBelowWrongFalsely : Prop := scoreBelowRow.holds Try.pinned (OpenSpec.ofChange scoreBelowWrong)

/-- 'pappuslaw19.ScoreApart': WHATEVER THE INPUT: true; the input reads as it did. -/
def scoreApartSpec : ChangeSpec := { name := "scoreApart", fn := fun _ => fun
  | [d1, d2] => { results := [.lit (.bool true)], args := [d1, d2] }
  | _ => none }
def scoreApartRow : OpenClaim := { program := "ytmghjghjnolfoaa", sum := "9d647de707a2197a5695acbd2d65e4eb3ce7b37a913e82af464d304aa6df8f0b", func := "pappus/pappuslaw19.ScoreApart", spec := "scoreApart", inPlace := ["math/bits.Add64"], apart := false }
def ScoreApartSaid : Prop := scoreApartRow.holds Try.pinned (OpenSpec.ofChange scoreApartSpec)

/-- ITS FALSE NEIGHBOUR: 'it returns false'. Refute it at one input. -/
def scoreApartWrong : ChangeSpec := { name := "scoreApart", fn := fun _ => fun
  | [d1, d2] => { results := [.lit (.bool false)], args := [d1, d2] }
  | _ => none }
def ScoreApartWrongFalsely : Prop := scoreApartRow.holds Try.pinned (OpenSpec.ofChange scoreApartWrong)

/-- 'pappuslaw19.ScoreStays': WHATEVER THE INPUT: true; the input reads as it did. -/
def scoreStaysSpec : ChangeSpec := { name := "scoreStays", fn := fun _ => fun
  | [d1, d2, d3] => { results := [.lit (.bool true)], args := [d1, d2, d3] }
  | _ => none }
def scoreStaysRow : OpenClaim := { program := "ytmghjghjnolfoaa", sum := "9d647de707a2197a5695acbd2d65e4eb3ce7b37a913e82af464d304aa6df8f0b", func := "pappus/pappuslaw19.ScoreStays", spec := "scoreStays", inPlace := ["math/bits.Add64"], apart := false }
def ScoreStaysSaid : Prop := scoreStaysRow.holds Try.pinned (OpenSpec.ofChange scoreStaysSpec)

/-- ITS FALSE NEIGHBOUR: 'it returns false'. Refute it at one input. -/
def scoreStaysWrong : ChangeSpec := { name := "scoreStays", fn := fun _ => fun
  | [d1, d2, d3] => { results := [.lit (.bool false)], args := [d1, d2, d3] }
  | _ => none }
def ScoreStaysWrongFalsely : Prop := scoreStaysRow.holds Try.pinned (OpenSpec.ofChange scoreStaysWrong)

/-- 'pappuslaw19.ScoreActs': WHATEVER THE INPUT: true; the input reads as it did. -/
def scoreActsSpec : ChangeSpec := { name := "scoreActs", fn := fun _ => fun
  | [d] => { results := [.lit (.bool true)], args := [d] }
  | _ => none }
def scoreActsRow : OpenClaim := { program := "ytmghjghjnolfoaa", sum := "9d647de707a2197a5695acbd2d65e4eb3ce7b37a913e82af464d304aa6df8f0b", func := "pappus/pappuslaw19.ScoreActs", spec := "scoreActs", inPlace := ["math/bits.Add64"], apart := false }
def ScoreActsSaid : Prop := scoreActsRow.holds Try.pinned (OpenSpec.ofChange scoreActsSpec)

/-- ITS FALSE NEIGHBOUR: 'it returns false'. Refute it at one input. -/
def scoreActsWrong : ChangeSpec := { name := "scoreActs", fn := fun _ => fun
  | [d] => { results := [.lit (.bool false)], args := [d] }
  | _ => none }
def ScoreActsWrongFalsely : Prop := scoreActsRow.holds Try.pinned (OpenSpec.ofChange scoreActsWrong)

/-- 'pappuslaw19.ScoreAdds': WHATEVER THE INPUT: true; the input reads as it did. -/
def scoreAddsSpec : ChangeSpec := { name := "scoreAdds", fn := fun _ => fun
  | [d1, d2, d3] => { results := [.lit (.bool true)], args := [d1, d2, d3] }
  | _ => none }
def scoreAddsRow : OpenClaim := { program := "ytmghjghjnolfoaa", sum := "9d647de707a2197a5695acbd2d65e4eb3ce7b37a913e82af464d304aa6df8f0b", func := "pappus/pappuslaw19.ScoreAdds", spec := "scoreAdds", inPlace := ["math/bits.Add64"], apart := false }
def ScoreAddsSaid : Prop := scoreAddsRow.holds Try.pinned (OpenSpec.ofChange scoreAddsSpec)

/-- ITS FALSE NEIGHBOUR: 'it returns false'. Refute it at one input. -/
def scoreAddsWrong : ChangeSpec := { name := "scoreAdds", fn := fun _ => fun
  | [d1, d2, d3] => { results := [.lit (.bool false)], args := [d1, d2, d3] }
  | _ => none }
def ScoreAddsWrongFalsely : Prop := scoreAddsRow.holds Try.pinned (OpenSpec.ofChange scoreAddsWrong)

/- THE SECOND FORM. 'bulk': how many values and letters a reading holds, each counted each time it is reached (what is shared counts as often as it is met; a slice's spare places count too). A statement '..UptoSaid' is the law's where the arguments, and the package variables that the reading takes, are together of bulk at most 1048576: NARROWER than '..Said'. Prove '..Said' where nothing that the law and all that it calls make is longer than what came in: it says more and counts as full. Else prove '..UptoSaid'. A law counts once. -/
mutual
def uptoBulk {H : Type} : DataW H → Nat
  | .lit (.string bytes) => bytes.length + 1
  | .lit _ => 1
  | .nil => 1
  | .ptr d => uptoBulk d + 1
  | .slice elems spare => uptoBulkAll elems + uptoBulkAll spare + 1
  | .agg parts => uptoBulkAll parts + 1
  | .iface _ d => uptoBulk d + 1
  | .map entries => uptoBulkEntries entries + 1
  | .held _ => 1
def uptoBulkAll {H : Type} : List (DataW H) → Nat
  | [] => 0
  | d :: r => uptoBulk d + uptoBulkAll r
def uptoBulkEntries {H : Type} : List (Lit × DataW H) → Nat
  | [] => 0
  | x :: r => uptoBulkEntry x + uptoBulkEntries r
def uptoBulkEntry {H : Type} : Lit × DataW H → Nat
  | (.string bytes, d) => bytes.length + uptoBulk d + 1
  | (_, d) => uptoBulk d + 1
 end
def uptoSmall : (H : Type) → List (DataW H) → Bool := fun _ ds => decide (uptoBulkAll ds ≤ 1048576)
def OpenSpec.upto (s : _root_.Go.ChangeSpec) : _root_.Go.OpenSpec := { _root_.Go.OpenSpec.ofChange s with cond := some uptoSmall }

/-- 'pappuslaw19.ScoreCosts', WHERE WHAT IT READS IS OF BULK AT MOST 1048576: true; the input reads as it did. -/
def scoreCostsUptoRow : OpenClaim := { program := "ytmghjghjnolfoaa", sum := "9d647de707a2197a5695acbd2d65e4eb3ce7b37a913e82af464d304aa6df8f0b", func := "pappus/pappuslaw19.ScoreCosts", spec := "scoreCosts", inPlace := ["math/bits.Add64"], apart := false, narrowed := true }
def ScoreCostsUptoSaid : Prop := scoreCostsUptoRow.holds Try.pinned (OpenSpec.upto scoreCostsSpec)

/-- 'pappuslaw19.ScoreBelow', WHERE WHAT IT READS IS OF BULK AT MOST 1048576: true; the input reads as it did. -/
def scoreBelowUptoRow : OpenClaim := { program := "ytmghjghjnolfoaa", sum := "9d647de707a2197a5695acbd2d65e4eb3ce7b37a913e82af464d304aa6df8f0b", func := "pappus/pappuslaw19.ScoreBelow", spec := "scoreBelow", inPlace := ["math/bits.Add64"], apart := false, narrowed := true }
def ScoreBelowUptoSaid : Prop := scoreBelowUptoRow.holds Try.pinned (OpenSpec.upto scoreBelowSpec)

/-- 'pappuslaw19.ScoreApart', WHERE WHAT IT READS IS OF BULK AT MOST 1048576: true; the input reads as it did. -/
def scoreApartUptoRow : OpenClaim := { program := "ytmghjghjnolfoaa", sum := "9d647de707a2197a5695acbd2d65e4eb3ce7b37a913e82af464d304aa6df8f0b", func := "pappus/pappuslaw19.ScoreApart", spec := "scoreApart", inPlace := ["math/bits.Add64"], apart := false, narrowed := true }
def ScoreApartUptoSaid : Prop := scoreApartUptoRow.holds Try.pinned (OpenSpec.upto scoreApartSpec)

/-- 'pappuslaw19.ScoreStays', WHERE WHAT IT READS IS OF BULK AT MOST 1048576: true; the input reads as it did. -/
def scoreStaysUptoRow : OpenClaim := { program := "ytmghjghjnolfoaa", sum := "9d647de707a2197a5695acbd2d65e4eb3ce7b37a913e82af464d304aa6df8f0b", func := "pappus/pappuslaw19.ScoreStays", spec := "scoreStays", inPlace := ["math/bits.Add64"], apart := false, narrowed := true }
def ScoreStaysUptoSaid : Prop := scoreStaysUptoRow.holds Try.pinned (OpenSpec.upto scoreStaysSpec)

/-- 'pappuslaw19.ScoreActs', WHERE WHAT IT READS IS OF BULK AT MOST 1048576: true; the input reads as it did. -/
def scoreActsUptoRow : OpenClaim := { program := "ytmghjghjnolfoaa", sum := "9d647de707a2197a5695acbd2d65e4eb3ce7b37a913e82af464d304aa6df8f0b", func := "pappus/pappuslaw19.ScoreActs", spec := "scoreActs", inPlace := ["math/bits.Add64"], apart := false, narrowed := true }
def ScoreActsUptoSaid : Prop := scoreActsUptoRow.holds Try.pinned (OpenSpec.upto scoreActsSpec)

/-- 'pappuslaw19.ScoreAdds', WHERE WHAT IT READS IS OF BULK AT MOST 1048576: true; the input reads as it did. -/
def scoreAddsUptoRow : OpenClaim := { program := "ytmghjghjnolfoaa", sum := "9d647de707a2197a5695acbd2d65e4eb3ce7b37a913e82af464d304aa6df8f0b", func := "pappus/pappuslaw19.ScoreAdds", spec := "scoreAdds", inPlace := ["math/bits.Add64"], apart := false, narrowed := true }
def ScoreAddsUptoSaid : Prop := scoreAddsUptoRow.holds Try.pinned (OpenSpec.upto scoreAddsSpec)

end Rows
end Go.Proofs.Ytmghjghjnolfoaa
