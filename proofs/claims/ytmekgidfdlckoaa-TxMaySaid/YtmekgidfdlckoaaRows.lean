/-
  No cell of these rows narrows 'for every input' (looked for: loops, veiled, ifaces, maps, wideKeys, modest, calm, conditions, laid).
  DERIVED. THE GIVEN ROWS OF THIS SEAT. 7 by the template 'for every input the law returns true; each argument reads behind the call as it read before'; 0 by the template 'total and deterministic' (their statements: YtmekgidfdlckoaaTotals.lean).
  GIVEN WITH THE SEED: the statements are not yours to turn. If you find one false, say at which input.
  Laid BY PROGRAM, IN A SANDBOX (cutbox-rows.mjs): the forced cells as the released guide's own fill.sh prints them over the translation a1921d8d553b20d4… (all of the seat's roots in one cut). By AI agents, Wed Nov 11 2026. No macro, syntax, notation, axiom, sorry.
-/
import Derived.Test.YtmekgidfdlckoaaChecked
import GoSem.Claim
import GoSem.ClaimJoined
import GoSem.ClaimMapViews
import Derived.JoinedTies
import Derived.KernelRfl
namespace Go.Proofs.Ytmekgidfdlckoaa
/- THE CELL 'sum', in the pinned program and in every row, IS THE sha256 OF THE DUMP (.gsa) THAT YtmekgidfdlckoaaProg.lean LOADS. Nothing in Lean hashes anything: it is a label: what it is worth is what the hold of that sum in a sandbox is worth. -/
noncomputable def Try.pinned : Pinned := { name := "ytmekgidfdlckoaa", sum := "a1921d8d553b20d49b127a71904f37808b5231a2bb2b4d1f57c27476b3f0dd64", checked := Try.checked }
namespace Rows
def none {H : Type} : Left H := { results := [], args := [] }

/-- 'pappuslaw07.TxGets': WHATEVER THE INPUT: true; the input reads as it did. -/
def txGetsSpec : ChangeSpec := { name := "txGets", fn := fun _ => fun
  | [d] => { results := [.lit (.bool true)], args := [d] }
  | _ => none }
def txGetsRow : OpenClaim := { program := "ytmekgidfdlckoaa", sum := "a1921d8d553b20d49b127a71904f37808b5231a2bb2b4d1f57c27476b3f0dd64", func := "pappus/pappuslaw07.TxGets", spec := "txGets", plainKeys := false, apart := false }
def TxGetsSaid : Prop := txGetsRow.holds Try.pinned (OpenSpec.ofChange txGetsSpec)

/-- ITS FALSE NEIGHBOUR: 'it returns false'. Refute it at one input. -/
def txGetsWrong : ChangeSpec := { name := "txGets", fn := fun _ => fun
  | [d] => { results := [.lit (.bool false)], args := [d] }
  | _ => none }
def TxGetsWrongFalsely : Prop := txGetsRow.holds Try.pinned (OpenSpec.ofChange txGetsWrong)

/-- 'pappuslaw07.TxChecks': WHATEVER THE INPUT: true; the input reads as it did. -/
def txChecksSpec : ChangeSpec := { name := "txChecks", fn := fun _ => fun
  | [d] => { results := [.lit (.bool true)], args := [d] }
  | _ => none }
def txChecksRow : OpenClaim := { program := "ytmekgidfdlckoaa", sum := "a1921d8d553b20d49b127a71904f37808b5231a2bb2b4d1f57c27476b3f0dd64", func := "pappus/pappuslaw07.TxChecks", spec := "txChecks", plainKeys := false, apart := false }
def TxChecksSaid : Prop := txChecksRow.holds Try.pinned (OpenSpec.ofChange txChecksSpec)

/-- ITS FALSE NEIGHBOUR: 'it returns false'. Refute it at one input. -/
def txChecksWrong : ChangeSpec := { name := "txChecks", fn := fun _ => fun
  | [d] => { results := [.lit (.bool false)], args := [d] }
  | _ => none }
def TxChecksWrongFalsely : Prop := txChecksRow.holds Try.pinned (OpenSpec.ofChange txChecksWrong)

/-- 'pappuslaw07.TxCuts': WHATEVER THE INPUT: true; the input reads as it did. -/
def txCutsSpec : ChangeSpec := { name := "txCuts", fn := fun _ => fun
  | [d1, d2] => { results := [.lit (.bool true)], args := [d1, d2] }
  | _ => none }
def txCutsRow : OpenClaim := { program := "ytmekgidfdlckoaa", sum := "a1921d8d553b20d49b127a71904f37808b5231a2bb2b4d1f57c27476b3f0dd64", func := "pappus/pappuslaw07.TxCuts", spec := "txCuts", plainKeys := false, apart := false }
def TxCutsSaid : Prop := txCutsRow.holds Try.pinned (OpenSpec.ofChange txCutsSpec)

/-- ITS FALSE NEIGHBOUR: 'it returns false'. Refute it at one input. -/
def txCutsWrong : ChangeSpec := { name := "txCuts", fn := fun _ => fun
  | [d1, d2] => { results := [.lit (.bool false)], args := [d1, d2] }
  | _ => none }
def TxCutsWrongFalsely : Prop := txCutsRow.holds Try.pinned (OpenSpec.ofChange txCutsWrong)

/-- 'pappuslaw07.TxOne': WHATEVER THE INPUT: true; the input reads as it did. -/
def txOneSpec : ChangeSpec := { name := "txOne", fn := fun _ => fun
  | [d] => { results := [.lit (.bool true)], args := [d] }
  | _ => none }
def txOneRow : OpenClaim := { program := "ytmekgidfdlckoaa", sum := "a1921d8d553b20d49b127a71904f37808b5231a2bb2b4d1f57c27476b3f0dd64", func := "pappus/pappuslaw07.TxOne", spec := "txOne", plainKeys := false, apart := false }
def TxOneSaid : Prop := txOneRow.holds Try.pinned (OpenSpec.ofChange txOneSpec)

/-- ITS FALSE NEIGHBOUR: 'it returns false'. Refute it at one input. -/
def txOneWrong : ChangeSpec := { name := "txOne", fn := fun _ => fun
  | [d] => { results := [.lit (.bool false)], args := [d] }
  | _ => none }
def TxOneWrongFalsely : Prop := txOneRow.holds Try.pinned (OpenSpec.ofChange txOneWrong)

/-- 'pappuslaw07.TxMay': WHATEVER THE INPUT: true; the input reads as it did. -/
def txMaySpec : ChangeSpec := { name := "txMay", fn := fun _ => fun
  | [d1, d2] => { results := [.lit (.bool true)], args := [d1, d2] }
  | _ => none }
def txMayRow : OpenClaim := { program := "ytmekgidfdlckoaa", sum := "a1921d8d553b20d49b127a71904f37808b5231a2bb2b4d1f57c27476b3f0dd64", func := "pappus/pappuslaw07.TxMay", spec := "txMay", plainKeys := false, apart := false }
def TxMaySaid : Prop := txMayRow.holds Try.pinned (OpenSpec.ofChange txMaySpec)

/-- ITS FALSE NEIGHBOUR: 'it returns false'. Refute it at one input. -/
def txMayWrong : ChangeSpec := { name := "txMay", fn := fun _ => fun
  | [d1, d2] => { results := [.lit (.bool false)], args := [d1, d2] }
  | _ => none }
def TxMayWrongFalsely : Prop := txMayRow.holds Try.pinned (OpenSpec.ofChange txMayWrong)

/-- 'pappuslaw07.TxBack': WHATEVER THE INPUT: true; the input reads as it did. -/
def txBackSpec : ChangeSpec := { name := "txBack", fn := fun _ => fun
  | [d1, d2] => { results := [.lit (.bool true)], args := [d1, d2] }
  | _ => none }
def txBackRow : OpenClaim := { program := "ytmekgidfdlckoaa", sum := "a1921d8d553b20d49b127a71904f37808b5231a2bb2b4d1f57c27476b3f0dd64", func := "pappus/pappuslaw07.TxBack", spec := "txBack", plainKeys := false, apart := false }
def TxBackSaid : Prop := txBackRow.holds Try.pinned (OpenSpec.ofChange txBackSpec)

/-- ITS FALSE NEIGHBOUR: 'it returns false'. Refute it at one input. -/
def txBackWrong : ChangeSpec := { name := "txBack", fn := fun _ => fun
  | [d1, d2] => { results := [.lit (.bool false)], args := [d1, d2] }
  | _ => none }
def TxBackWrongFalsely : Prop := txBackRow.holds Try.pinned (OpenSpec.ofChange txBackWrong)

/-- 'pappuslaw07.TxSame': WHATEVER THE INPUT: true; the input reads as it did. -/
def txSameSpec : ChangeSpec := { name := "txSame", fn := fun _ => fun
  | [d1, d2] => { results := [.lit (.bool true)], args := [d1, d2] }
  | _ => none }
def txSameRow : OpenClaim := { program := "ytmekgidfdlckoaa", sum := "a1921d8d553b20d49b127a71904f37808b5231a2bb2b4d1f57c27476b3f0dd64", func := "pappus/pappuslaw07.TxSame", spec := "txSame", plainKeys := false, apart := false }
def TxSameSaid : Prop := txSameRow.holds Try.pinned (OpenSpec.ofChange txSameSpec)

/-- ITS FALSE NEIGHBOUR: 'it returns false'. Refute it at one input. -/
def txSameWrong : ChangeSpec := { name := "txSame", fn := fun _ => fun
  | [d1, d2] => { results := [.lit (.bool false)], args := [d1, d2] }
  | _ => none }
def TxSameWrongFalsely : Prop := txSameRow.holds Try.pinned (OpenSpec.ofChange txSameWrong)

/- THE SECOND FORM. 'bulk': how many values and letters a reading holds, each counted each time it is reached (what is shared counts as often as it is met; a slice's spare places count too). A statement '..UptoSaid' is the law's where the arguments, and the package variables that the reading takes, are together of bulk at most 1048576: NARROWER than '..Said'. Prove '..Said' where nothing that the law and all that it calls make is longer than what came in: it says more and counts as full. Else prove '..UptoSaid'. A law counts once. -/
mutual
def uptoBulk {H : Type} : DataW H → Nat
  | .lit (.string bytes) => bytes.length + 1
  | .lit _ => 1
  | .nil => 1
  | .ptr d => uptoBulk d + 1
  | .slice elems spare => uptoBulkAll elems + uptoBulkAll spare + 1
  | .agg parts => uptoBulkAll parts + 1
  | .iface _ d => uptoBulk d + 1
  | .map entries => uptoBulkEntries entries + 1
  | .held _ => 1
def uptoBulkAll {H : Type} : List (DataW H) → Nat
  | [] => 0
  | d :: r => uptoBulk d + uptoBulkAll r
def uptoBulkEntries {H : Type} : List (Lit × DataW H) → Nat
  | [] => 0
  | x :: r => uptoBulkEntry x + uptoBulkEntries r
def uptoBulkEntry {H : Type} : Lit × DataW H → Nat
  | (.string bytes, d) => bytes.length + uptoBulk d + 1
  | (_, d) => uptoBulk d + 1
 end
def uptoSmall : (H : Type) → List (DataW H) → Bool := fun _ ds => decide (uptoBulkAll ds ≤ 1048576)
def OpenSpec.upto (s : _root_.Go.ChangeSpec) : _root_.Go.OpenSpec := { _root_.Go.OpenSpec.ofChange s with cond := some uptoSmall }

/-- 'pappuslaw07.TxGets', WHERE WHAT IT READS IS OF BULK AT MOST 1048576: true; the input reads as it did. -/
def txGetsUptoRow : OpenClaim := { program := "ytmekgidfdlckoaa", sum := "a1921d8d553b20d49b127a71904f37808b5231a2bb2b4d1f57c27476b3f0dd64", func := "pappus/pappuslaw07.TxGets", spec := "txGets", plainKeys := false, apart := false, narrowed := true }
def TxGetsUptoSaid : Prop := txGetsUptoRow.holds Try.pinned (OpenSpec.upto txGetsSpec)

/-- 'pappuslaw07.TxChecks', WHERE WHAT IT READS IS OF BULK AT MOST 1048576: true; the input reads as it did. -/
def txChecksUptoRow : OpenClaim := { program := "ytmekgidfdlckoaa", sum := "a1921d8d553b20d49b127a71904f37808b5231a2bb2b4d1f57c27476b3f0dd64", func := "pappus/pappuslaw07.TxChecks", spec := "txChecks", plainKeys := false, apart := false, narrowed := true }
def TxChecksUptoSaid : Prop := txChecksUptoRow.holds Try.pinned (OpenSpec.upto txChecksSpec)

/-- 'pappuslaw07.TxCuts', WHERE WHAT IT READS IS OF BULK AT MOST 1048576: true; the input reads as it did. -/
def txCutsUptoRow : OpenClaim := { program := "ytmekgidfdlckoaa", sum := "a1921d8d553b20d49b127a71904f37808b5231a2bb2b4d1f57c27476b3f0dd64", func := "pappus/pappuslaw07.TxCuts", spec := "txCuts", plainKeys := false, apart := false, narrowed := true }
def TxCutsUptoSaid : Prop := txCutsUptoRow.holds Try.pinned (OpenSpec.upto txCutsSpec)

/-- 'pappuslaw07.TxOne', WHERE WHAT IT READS IS OF BULK AT MOST 1048576: true; the input reads as it did. -/
def txOneUptoRow : OpenClaim := { program := "ytmekgidfdlckoaa", sum := "a1921d8d553b20d49b127a71904f37808b5231a2bb2b4d1f57c27476b3f0dd64", func := "pappus/pappuslaw07.TxOne", spec := "txOne", plainKeys := false, apart := false, narrowed := true }
def TxOneUptoSaid : Prop := txOneUptoRow.holds Try.pinned (OpenSpec.upto txOneSpec)

/-- 'pappuslaw07.TxMay', WHERE WHAT IT READS IS OF BULK AT MOST 1048576: true; the input reads as it did. -/
def txMayUptoRow : OpenClaim := { program := "ytmekgidfdlckoaa", sum := "a1921d8d553b20d49b127a71904f37808b5231a2bb2b4d1f57c27476b3f0dd64", func := "pappus/pappuslaw07.TxMay", spec := "txMay", plainKeys := false, apart := false, narrowed := true }
def TxMayUptoSaid : Prop := txMayUptoRow.holds Try.pinned (OpenSpec.upto txMaySpec)

/-- 'pappuslaw07.TxBack', WHERE WHAT IT READS IS OF BULK AT MOST 1048576: true; the input reads as it did. -/
def txBackUptoRow : OpenClaim := { program := "ytmekgidfdlckoaa", sum := "a1921d8d553b20d49b127a71904f37808b5231a2bb2b4d1f57c27476b3f0dd64", func := "pappus/pappuslaw07.TxBack", spec := "txBack", plainKeys := false, apart := false, narrowed := true }
def TxBackUptoSaid : Prop := txBackUptoRow.holds Try.pinned (OpenSpec.upto txBackSpec)

/-- 'pappuslaw07.TxSame', WHERE WHAT IT READS IS OF BULK AT MOST 1048576: true; the input reads as it did. -/
def txSameUptoRow : OpenClaim := { program := "ytmekgidfdlckoaa", sum := "a1921d8d553b20d49b127a71904f37808b5231a2bb2b4d1f57c27476b3f0dd64", func := "pappus/pappuslaw07.TxSame", spec := "txSame", plainKeys := false, apart := false, narrowed := true }
def TxSameUptoSaid : Prop := txSameUptoRow.holds Try.pinned (OpenSpec.upto txSameSpec)

end Rows
end Go.Proofs.Ytmekgidfdlckoaa
