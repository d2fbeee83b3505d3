/-
  No cell of these rows narrows 'for every input' (looked for: loops, veiled, ifaces, maps, wideKeys, modest, calm, conditions, laid).
  DERIVED. THE GIVEN ROWS OF THIS SEAT. 8 by the template 'for every input the law returns true; each argument reads behind the call as it read before'; 0 by the template 'total and deterministic' (their statements: YtfmbigokdeplmaaTotals.lean).
  GIVEN WITH THE SEED: the statements are not yours to turn. If you find one false, say at which input.
  Laid BY PROGRAM, IN A SANDBOX (cutbox-rows.mjs): the forced cells as the released guide's own fill.sh prints them over the translation 162b7652396a2e97… (all of the seat's roots in one cut). By AI agents, Wed Nov 11 2026. No macro, syntax, notation, axiom, sorry.
-/
import Derived.Test.YtfmbigokdeplmaaChecked
import GoSem.Claim
import GoSem.ClaimJoined
import GoSem.ClaimMapViews
import Derived.JoinedTies
import Derived.KernelRfl
namespace Go.Proofs.Ytfmbigokdeplmaa
/- THE CELL 'sum', in the pinned program and in every row, IS THE sha256 OF THE DUMP (.gsa) THAT YtfmbigokdeplmaaProg.lean LOADS. Nothing in Lean hashes anything: it is a label: what it is worth is what the hold of that sum in a sandbox is worth. -/
noncomputable def Try.pinned : Pinned := { name := "ytfmbigokdeplmaa", sum := "162b7652396a2e97dc5356744f6ea507ff25a3b72a5cb6b041df466725c62be4", checked := Try.checked }
namespace Rows
def none {H : Type} : Left H := { results := [], args := [] }

/-- 'pappuslaw02.OctetPuts': WHATEVER THE INPUT: true; the input reads as it did. -/
def octetPutsSpec : ChangeSpec := { name := "octetPuts", fn := fun _ => fun
  | [d1, d2, d3] => { results := [.lit (.bool true)], args := [d1, d2, d3] }
  | _ => none }
def octetPutsRow : OpenClaim := { program := "ytfmbigokdeplmaa", sum := "162b7652396a2e97dc5356744f6ea507ff25a3b72a5cb6b041df466725c62be4", func := "pappus/pappuslaw02.OctetPuts", spec := "octetPuts", apart := false }
def OctetPutsSaid : Prop := octetPutsRow.holds Try.pinned (OpenSpec.ofChange octetPutsSpec)

/-- ITS FALSE NEIGHBOUR: 'it returns false'. Refute it at one input. -/
def octetPutsWrong : ChangeSpec := { name := "octetPuts", fn := fun _ => fun
  | [d1, d2, d3] => { results := [.lit (.bool false)], args := [d1, d2, d3] }
  | _ => none }
def OctetPutsWrongFalsely : Prop := octetPutsRow.holds Try.pinned (OpenSpec.ofChange octetPutsWrong)

/-- 'pappuslaw02.OctetReads': WHATEVER THE INPUT: true; the input reads as it did. -/
def octetReadsSpec : ChangeSpec := { name := "octetReads", fn := fun _ => fun
  | [d1, d2] => { results := [.lit (.bool true)], args := [d1, d2] }
  | _ => none }
def octetReadsRow : OpenClaim := { program := "ytfmbigokdeplmaa", sum := "162b7652396a2e97dc5356744f6ea507ff25a3b72a5cb6b041df466725c62be4", func := "pappus/pappuslaw02.OctetReads", spec := "octetReads", apart := false }
def OctetReadsSaid : Prop := octetReadsRow.holds Try.pinned (OpenSpec.ofChange octetReadsSpec)

/-- ITS FALSE NEIGHBOUR: 'it returns false'. Refute it at one input. -/
def octetReadsWrong : ChangeSpec := { name := "octetReads", fn := fun _ => fun
  | [d1, d2] => { results := [.lit (.bool false)], args := [d1, d2] }
  | _ => none }
def OctetReadsWrongFalsely : Prop := octetReadsRow.holds Try.pinned (OpenSpec.ofChange octetReadsWrong)

/-- 'pappuslaw02.OctetBack': WHATEVER THE INPUT: true; the input reads as it did. -/
def octetBackSpec : ChangeSpec := { name := "octetBack", fn := fun _ => fun
  | [d1, d2] => { results := [.lit (.bool true)], args := [d1, d2] }
  | _ => none }
def octetBackRow : OpenClaim := { program := "ytfmbigokdeplmaa", sum := "162b7652396a2e97dc5356744f6ea507ff25a3b72a5cb6b041df466725c62be4", func := "pappus/pappuslaw02.OctetBack", spec := "octetBack", apart := false }
def OctetBackSaid : Prop := octetBackRow.holds Try.pinned (OpenSpec.ofChange octetBackSpec)

/-- ITS FALSE NEIGHBOUR: 'it returns false'. Refute it at one input. -/
def octetBackWrong : ChangeSpec := { name := "octetBack", fn := fun _ => fun
  | [d1, d2] => { results := [.lit (.bool false)], args := [d1, d2] }
  | _ => none }
def OctetBackWrongFalsely : Prop := octetBackRow.holds Try.pinned (OpenSpec.ofChange octetBackWrong)

/-- 'pappuslaw02.OctetOne': WHATEVER THE INPUT: true; the input reads as it did. -/
def octetOneSpec : ChangeSpec := { name := "octetOne", fn := fun _ => fun
  | [d1, d2] => { results := [.lit (.bool true)], args := [d1, d2] }
  | _ => none }
def octetOneRow : OpenClaim := { program := "ytfmbigokdeplmaa", sum := "162b7652396a2e97dc5356744f6ea507ff25a3b72a5cb6b041df466725c62be4", func := "pappus/pappuslaw02.OctetOne", spec := "octetOne", apart := false }
def OctetOneSaid : Prop := octetOneRow.holds Try.pinned (OpenSpec.ofChange octetOneSpec)

/-- ITS FALSE NEIGHBOUR: 'it returns false'. Refute it at one input. -/
def octetOneWrong : ChangeSpec := { name := "octetOne", fn := fun _ => fun
  | [d1, d2] => { results := [.lit (.bool false)], args := [d1, d2] }
  | _ => none }
def OctetOneWrongFalsely : Prop := octetOneRow.holds Try.pinned (OpenSpec.ofChange octetOneWrong)

/-- 'pappuslaw02.OctetRises': WHATEVER THE INPUT: true; the input reads as it did. -/
def octetRisesSpec : ChangeSpec := { name := "octetRises", fn := fun _ => fun
  | [d1, d2] => { results := [.lit (.bool true)], args := [d1, d2] }
  | _ => none }
def octetRisesRow : OpenClaim := { program := "ytfmbigokdeplmaa", sum := "162b7652396a2e97dc5356744f6ea507ff25a3b72a5cb6b041df466725c62be4", func := "pappus/pappuslaw02.OctetRises", spec := "octetRises", apart := false }
def OctetRisesSaid : Prop := octetRisesRow.holds Try.pinned (OpenSpec.ofChange octetRisesSpec)

/-- ITS FALSE NEIGHBOUR: 'it returns false'. Refute it at one input. -/
def octetRisesWrong : ChangeSpec := { name := "octetRises", fn := fun _ => fun
  | [d1, d2] => { results := [.lit (.bool false)], args := [d1, d2] }
  | _ => none }
def OctetRisesWrongFalsely : Prop := octetRisesRow.holds Try.pinned (OpenSpec.ofChange octetRisesWrong)

/-- 'pappuslaw02.OctetParts': WHATEVER THE INPUT: true; the input reads as it did. -/
def octetPartsSpec : ChangeSpec := { name := "octetParts", fn := fun _ => fun
  | [d1, d2, d3] => { results := [.lit (.bool true)], args := [d1, d2, d3] }
  | _ => none }
def octetPartsRow : OpenClaim := { program := "ytfmbigokdeplmaa", sum := "162b7652396a2e97dc5356744f6ea507ff25a3b72a5cb6b041df466725c62be4", func := "pappus/pappuslaw02.OctetParts", spec := "octetParts", apart := false }
def OctetPartsSaid : Prop := octetPartsRow.holds Try.pinned (OpenSpec.ofChange octetPartsSpec)

/-- ITS FALSE NEIGHBOUR: 'it returns false'. Refute it at one input. -/
def octetPartsWrong : ChangeSpec := { name := "octetParts", fn := fun _ => fun
  | [d1, d2, d3] => { results := [.lit (.bool false)], args := [d1, d2, d3] }
  | _ => none }
def OctetPartsWrongFalsely : Prop := octetPartsRow.holds Try.pinned (OpenSpec.ofChange octetPartsWrong)

/-- 'pappuslaw02.OctetUnpacks': WHATEVER THE INPUT: true; the input reads as it did. -/
def octetUnpacksSpec : ChangeSpec := { name := "octetUnpacks", fn := fun _ => fun
  | [d1, d2] => { results := [.lit (.bool true)], args := [d1, d2] }
  | _ => none }
def octetUnpacksRow : OpenClaim := { program := "ytfmbigokdeplmaa", sum := "162b7652396a2e97dc5356744f6ea507ff25a3b72a5cb6b041df466725c62be4", func := "pappus/pappuslaw02.OctetUnpacks", spec := "octetUnpacks", apart := false }
def OctetUnpacksSaid : Prop := octetUnpacksRow.holds Try.pinned (OpenSpec.ofChange octetUnpacksSpec)

/-- ITS FALSE NEIGHBOUR: 'it returns false'. Refute it at one input. -/
def octetUnpacksWrong : ChangeSpec := { name := "octetUnpacks", fn := fun _ => fun
  | [d1, d2] => { results := [.lit (.bool false)], args := [d1, d2] }
  | _ => none }
def OctetUnpacksWrongFalsely : Prop := octetUnpacksRow.holds Try.pinned (OpenSpec.ofChange octetUnpacksWrong)

/-- 'pappuslaw02.OctetWhole': WHATEVER THE INPUT: true; the input reads as it did. -/
def octetWholeSpec : ChangeSpec := { name := "octetWhole", fn := fun _ => fun
  | [d1, d2] => { results := [.lit (.bool true)], args := [d1, d2] }
  | _ => none }
def octetWholeRow : OpenClaim := { program := "ytfmbigokdeplmaa", sum := "162b7652396a2e97dc5356744f6ea507ff25a3b72a5cb6b041df466725c62be4", func := "pappus/pappuslaw02.OctetWhole", spec := "octetWhole", apart := false }
def OctetWholeSaid : Prop := octetWholeRow.holds Try.pinned (OpenSpec.ofChange octetWholeSpec)

/-- ITS FALSE NEIGHBOUR: 'it returns false'. Refute it at one input. -/
def octetWholeWrong : ChangeSpec := { name := "octetWhole", fn := fun _ => fun
  | [d1, d2] => { results := [.lit (.bool false)], args := [d1, d2] }
  | _ => none }
def OctetWholeWrongFalsely : Prop := octetWholeRow.holds Try.pinned (OpenSpec.ofChange octetWholeWrong)

/- THE SECOND FORM. 'bulk': how many values and letters a reading holds, each counted each time it is reached (what is shared counts as often as it is met; a slice's spare places count too). A statement '..UptoSaid' is the law's where the arguments, and the package variables that the reading takes, are together of bulk at most 1048576: NARROWER than '..Said'. Prove '..Said' where nothing that the law and all that it calls make is longer than what came in: it says more and counts as full. Else prove '..UptoSaid'. A law counts once. -/
mutual
def uptoBulk {H : Type} : DataW H → Nat
  | .lit (.string bytes) => bytes.length + 1
  | .lit _ => 1
  | .nil => 1
  | .ptr d => uptoBulk d + 1
  | .slice elems spare => uptoBulkAll elems + uptoBulkAll spare + 1
  | .agg parts => uptoBulkAll parts + 1
  | .iface _ d => uptoBulk d + 1
  | .map entries => uptoBulkEntries entries + 1
  | .held _ => 1
def uptoBulkAll {H : Type} : List (DataW H) → Nat
  | [] => 0
  | d :: r => uptoBulk d + uptoBulkAll r
def uptoBulkEntries {H : Type} : List (Lit × DataW H) → Nat
  | [] => 0
  | x :: r => uptoBulkEntry x + uptoBulkEntries r
def uptoBulkEntry {H : Type} : Lit × DataW H → Nat
  | (.string bytes, d) => bytes.length + uptoBulk d + 1
  | (_, d) => uptoBulk d + 1
 end
def uptoSmall : (H : Type) → List (DataW H) → Bool := fun _ ds => decide (uptoBulkAll ds ≤ 1048576)
def OpenSpec.upto (s : _root_.Go.ChangeSpec) : _root_.Go.OpenSpec := { _root_.Go.OpenSpec.ofChange s with cond := some uptoSmall }

/-- 'pappuslaw02.OctetPuts', WHERE WHAT IT READS IS OF BULK AT MOST 1048576: true; the input reads as it did. -/
def octetPutsUptoRow : OpenClaim := { program := "ytfmbigokdeplmaa", sum := "162b7652396a2e97dc5356744f6ea507ff25a3b72a5cb6b041df466725c62be4", func := "pappus/pappuslaw02.OctetPuts", spec := "octetPuts", apart := false, narrowed := true }
def OctetPutsUptoSaid : Prop := octetPutsUptoRow.holds Try.pinned (OpenSpec.upto octetPutsSpec)

/-- 'pappuslaw02.OctetReads', WHERE WHAT IT READS IS OF BULK AT MOST 1048576: true; the input reads as it did. -/
def octetReadsUptoRow : OpenClaim := { program := "ytfmbigokdeplmaa", sum := "162b7652396a2e97dc5356744f6ea507ff25a3b72a5cb6b041df466725c62be4", func := "pappus/pappuslaw02.OctetReads", spec := "octetReads", apart := false, narrowed := true }
def OctetReadsUptoSaid : Prop := octetReadsUptoRow.holds Try.pinned (OpenSpec.upto octetReadsSpec)

/-- 'pappuslaw02.OctetBack', WHERE WHAT IT READS IS OF BULK AT MOST 1048576: true; the input reads as it did. -/
def octetBackUptoRow : OpenClaim := { program := "ytfmbigokdeplmaa", sum := "162b7652396a2e97dc5356744f6ea507ff25a3b72a5cb6b041df466725c62be4", func := "pappus/pappuslaw02.OctetBack", spec := "octetBack", apart := false, narrowed := true }
def OctetBackUptoSaid : Prop := octetBackUptoRow.holds Try.pinned (OpenSpec.upto octetBackSpec)

/-- 'pappuslaw02.OctetOne', WHERE WHAT IT READS IS OF BULK AT MOST 1048576: true; the input reads as it did. -/
def octetOneUptoRow : OpenClaim := { program := "ytfmbigokdeplmaa", sum := "162b7652396a2e97dc5356744f6ea507ff25a3b72a5cb6b041df466725c62be4", func := "pappus/pappuslaw02.OctetOne", spec := "octetOne", apart := false, narrowed := true }
def OctetOneUptoSaid : Prop := octetOneUptoRow.holds Try.pinned (OpenSpec.upto octetOneSpec)

/-- 'pappuslaw02.OctetRises', WHERE WHAT IT READS IS OF BULK AT MOST 1048576: true; the input reads as it did. -/
def octetRisesUptoRow : OpenClaim := { program := "ytfmbigokdeplmaa", sum := "162b7652396a2e97dc5356744f6ea507ff25a3b72a5cb6b041df466725c62be4", func := "pappus/pappuslaw02.OctetRises", spec := "octetRises", apart := false, narrowed := true }
def OctetRisesUptoSaid : Prop := octetRisesUptoRow.holds Try.pinned (OpenSpec.upto octetRisesSpec)

/-- 'pappuslaw02.OctetParts', WHERE WHAT IT READS IS OF BULK AT MOST 1048576: true; the input reads as it did. -/
def octetPartsUptoRow : OpenClaim := { program := "ytfmbigokdeplmaa", sum := "162b7652396a2e97dc5356744f6ea507ff25a3b72a5cb6b041df466725c62be4", func := "pappus/pappuslaw02.OctetParts", spec := "octetParts", apart := false, narrowed := true }
def OctetPartsUptoSaid : Prop := octetPartsUptoRow.holds Try.pinned (OpenSpec.upto octetPartsSpec)

/-- 'pappuslaw02.OctetUnpacks', WHERE WHAT IT READS IS OF BULK AT MOST 1048576: true; the input reads as it did. -/
def octetUnpacksUptoRow : OpenClaim := { program := "ytfmbigokdeplmaa", sum := "162b7652396a2e97dc5356744f6ea507ff25a3b72a5cb6b041df466725c62be4", func := "pappus/pappuslaw02.OctetUnpacks", spec := "octetUnpacks", apart := false, narrowed := true }
def OctetUnpacksUptoSaid : Prop := octetUnpacksUptoRow.holds Try.pinned (OpenSpec.upto octetUnpacksSpec)

/-- 'pappuslaw02.OctetWhole', WHERE WHAT IT READS IS OF BULK AT MOST 1048576: true; the input reads as it did. -/
def octetWholeUptoRow : OpenClaim := { program := "ytfmbigokdeplmaa", sum := "162b7652396a2e97dc5356744f6ea507ff25a3b72a5cb6b041df466725c62be4", func := "pappus/pappuslaw02.OctetWhole", spec := "octetWhole", apart := false, narrowed := true }
def OctetWholeUptoSaid : Prop := octetWholeUptoRow.holds Try.pinned (OpenSpec.upto octetWholeSpec)

end Rows
end Go.Proofs.Ytfmbigokdeplmaa
