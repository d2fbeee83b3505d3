/-
  No cell of these rows narrows 'for every input' (looked for: loops, veiled, ifaces, maps, wideKeys, modest, calm, conditions, laid).
  DERIVED. THE GIVEN ROWS OF THIS SEAT. 6 by the template 'for every input the law returns true; each argument reads behind the call as it read before'; 0 by the template 'total and deterministic' (their statements: YtanjlgkbjcienaaTotals.lean).
  GIVEN WITH THE SEED: the statements are not yours to turn. If you find one false, say at which input.
  Laid BY PROGRAM, IN A SANDBOX (cutbox-rows.mjs): the forced cells as the released guide's own fill.sh prints them over the translation deb45ddd6ee3cc61… (all of the seat's roots in one cut). By AI agents, Wed Nov 11 2026. No macro, syntax, notation, axiom, sorry.
-/
import Derived.Test.YtanjlgkbjcienaaChecked
import GoSem.Claim
import GoSem.ClaimJoined
import GoSem.ClaimMapViews
import Derived.JoinedTies
import Derived.KernelRfl
namespace Go.Proofs.Ytanjlgkbjcienaa
/- THE CELL 'sum', in the pinned program and in every row, IS THE sha256 OF THE DUMP (.gsa) THAT YtanjlgkbjcienaaProg.lean LOADS. Nothing in Lean hashes anything: it is a label: what it is worth is what the hold of that sum in a sandbox is worth. -/
noncomputable def Try.pinned : Pinned := { name := "ytanjlgkbjcienaa", sum := "deb45ddd6ee3cc6113145ffce27827d4ad607b3737dd51e8d90852720221a2f6", checked := Try.checked }
namespace Rows
def none {H : Type} : Left H := { results := [], args := [] }

/-- 'pappuslaw08.MsgGets': WHATEVER THE INPUT: true; the input reads as it did. -/
def msgGetsSpec : ChangeSpec := { name := "msgGets", fn := fun _ => fun
  | [d1, d2] => { results := [.lit (.bool true)], args := [d1, d2] }
  | _ => none }
def msgGetsRow : OpenClaim := { program := "ytanjlgkbjcienaa", sum := "deb45ddd6ee3cc6113145ffce27827d4ad607b3737dd51e8d90852720221a2f6", func := "pappus/pappuslaw08.MsgGets", spec := "msgGets", apart := false }
def MsgGetsSaid : Prop := msgGetsRow.holds Try.pinned (OpenSpec.ofChange msgGetsSpec)

/-- ITS FALSE NEIGHBOUR: 'it returns false'. Refute it at one input. -/
def msgGetsWrong : ChangeSpec := { name := "msgGets", fn := fun _ => fun
  | [d1, d2] => { results := [.lit (.bool false)], args := [d1, d2] }
  | _ => none }
def MsgGetsWrongFalsely : Prop := msgGetsRow.holds Try.pinned (OpenSpec.ofChange msgGetsWrong)

/-- 'pappuslaw08.MsgCuts': WHATEVER THE INPUT: true; the input reads as it did. -/
def msgCutsSpec : ChangeSpec := { name := "msgCuts", fn := fun _ => fun
  | [d1, d2, d3] => { results := [.lit (.bool true)], args := [d1, d2, d3] }
  | _ => none }
def msgCutsRow : OpenClaim := { program := "ytanjlgkbjcienaa", sum := "deb45ddd6ee3cc6113145ffce27827d4ad607b3737dd51e8d90852720221a2f6", func := "pappus/pappuslaw08.MsgCuts", spec := "msgCuts", apart := false }
def MsgCutsSaid : Prop := msgCutsRow.holds Try.pinned (OpenSpec.ofChange msgCutsSpec)

/-- ITS FALSE NEIGHBOUR: 'it returns false'. Refute it at one input. -/
def msgCutsWrong : ChangeSpec := { name := "msgCuts", fn := fun _ => fun
  | [d1, d2, d3] => { results := [.lit (.bool false)], args := [d1, d2, d3] }
  | _ => none }
def MsgCutsWrongFalsely : Prop := msgCutsRow.holds Try.pinned (OpenSpec.ofChange msgCutsWrong)

/-- 'pappuslaw08.MsgOne': WHATEVER THE INPUT: true; the input reads as it did. -/
def msgOneSpec : ChangeSpec := { name := "msgOne", fn := fun _ => fun
  | [d1, d2] => { results := [.lit (.bool true)], args := [d1, d2] }
  | _ => none }
def msgOneRow : OpenClaim := { program := "ytanjlgkbjcienaa", sum := "deb45ddd6ee3cc6113145ffce27827d4ad607b3737dd51e8d90852720221a2f6", func := "pappus/pappuslaw08.MsgOne", spec := "msgOne", apart := false }
def MsgOneSaid : Prop := msgOneRow.holds Try.pinned (OpenSpec.ofChange msgOneSpec)

/-- ITS FALSE NEIGHBOUR: 'it returns false'. Refute it at one input. -/
def msgOneWrong : ChangeSpec := { name := "msgOne", fn := fun _ => fun
  | [d1, d2] => { results := [.lit (.bool false)], args := [d1, d2] }
  | _ => none }
def MsgOneWrongFalsely : Prop := msgOneRow.holds Try.pinned (OpenSpec.ofChange msgOneWrong)

/-- 'pappuslaw08.MsgOthers': WHATEVER THE INPUT: true; the input reads as it did. -/
def msgOthersSpec : ChangeSpec := { name := "msgOthers", fn := fun _ => fun
  | [d1, d2] => { results := [.lit (.bool true)], args := [d1, d2] }
  | _ => none }
def msgOthersRow : OpenClaim := { program := "ytanjlgkbjcienaa", sum := "deb45ddd6ee3cc6113145ffce27827d4ad607b3737dd51e8d90852720221a2f6", func := "pappus/pappuslaw08.MsgOthers", spec := "msgOthers", apart := false }
def MsgOthersSaid : Prop := msgOthersRow.holds Try.pinned (OpenSpec.ofChange msgOthersSpec)

/-- ITS FALSE NEIGHBOUR: 'it returns false'. Refute it at one input. -/
def msgOthersWrong : ChangeSpec := { name := "msgOthers", fn := fun _ => fun
  | [d1, d2] => { results := [.lit (.bool false)], args := [d1, d2] }
  | _ => none }
def MsgOthersWrongFalsely : Prop := msgOthersRow.holds Try.pinned (OpenSpec.ofChange msgOthersWrong)

/-- 'pappuslaw08.MsgSame': WHATEVER THE INPUT: true; the input reads as it did. -/
def msgSameSpec : ChangeSpec := { name := "msgSame", fn := fun _ => fun
  | [d1, d2] => { results := [.lit (.bool true)], args := [d1, d2] }
  | _ => none }
def msgSameRow : OpenClaim := { program := "ytanjlgkbjcienaa", sum := "deb45ddd6ee3cc6113145ffce27827d4ad607b3737dd51e8d90852720221a2f6", func := "pappus/pappuslaw08.MsgSame", spec := "msgSame", apart := false }
def MsgSameSaid : Prop := msgSameRow.holds Try.pinned (OpenSpec.ofChange msgSameSpec)

/-- ITS FALSE NEIGHBOUR: 'it returns false'. Refute it at one input. -/
def msgSameWrong : ChangeSpec := { name := "msgSame", fn := fun _ => fun
  | [d1, d2] => { results := [.lit (.bool false)], args := [d1, d2] }
  | _ => none }
def MsgSameWrongFalsely : Prop := msgSameRow.holds Try.pinned (OpenSpec.ofChange msgSameWrong)

/-- 'pappuslaw08.MsgLanes': WHATEVER THE INPUT: true; the input reads as it did. -/
def msgLanesSpec : ChangeSpec := { name := "msgLanes", fn := fun _ => fun
  | [d1, d2] => { results := [.lit (.bool true)], args := [d1, d2] }
  | _ => none }
def msgLanesRow : OpenClaim := { program := "ytanjlgkbjcienaa", sum := "deb45ddd6ee3cc6113145ffce27827d4ad607b3737dd51e8d90852720221a2f6", func := "pappus/pappuslaw08.MsgLanes", spec := "msgLanes", apart := false }
def MsgLanesSaid : Prop := msgLanesRow.holds Try.pinned (OpenSpec.ofChange msgLanesSpec)

/-- ITS FALSE NEIGHBOUR: 'it returns false'. Refute it at one input. -/
def msgLanesWrong : ChangeSpec := { name := "msgLanes", fn := fun _ => fun
  | [d1, d2] => { results := [.lit (.bool false)], args := [d1, d2] }
  | _ => none }
def MsgLanesWrongFalsely : Prop := msgLanesRow.holds Try.pinned (OpenSpec.ofChange msgLanesWrong)

/- THE SECOND FORM. 'bulk': how many values and letters a reading holds, each counted each time it is reached (what is shared counts as often as it is met; a slice's spare places count too). A statement '..UptoSaid' is the law's where the arguments, and the package variables that the reading takes, are together of bulk at most 1048576: NARROWER than '..Said'. Prove '..Said' where nothing that the law and all that it calls make is longer than what came in: it says more and counts as full. Else prove '..UptoSaid'. A law counts once. -/
mutual
def uptoBulk {H : Type} : DataW H → Nat
  | .lit (.string bytes) => bytes.length + 1
  | .lit _ => 1
  | .nil => 1
  | .ptr d => uptoBulk d + 1
  | .slice elems spare => uptoBulkAll elems + uptoBulkAll spare + 1
  | .agg parts => uptoBulkAll parts + 1
  | .iface _ d => uptoBulk d + 1
  | .map entries => uptoBulkEntries entries + 1
  | .held _ => 1
def uptoBulkAll {H : Type} : List (DataW H) → Nat
  | [] => 0
  | d :: r => uptoBulk d + uptoBulkAll r
def uptoBulkEntries {H : Type} : List (Lit × DataW H) → Nat
  | [] => 0
  | x :: r => uptoBulkEntry x + uptoBulkEntries r
def uptoBulkEntry {H : Type} : Lit × DataW H → Nat
  | (.string bytes, d) => bytes.length + uptoBulk d + 1
  | (_, d) => uptoBulk d + 1
 end
def uptoSmall : (H : Type) → List (DataW H) → Bool := fun _ ds => decide (uptoBulkAll ds ≤ 1048576)
def OpenSpec.upto (s : _root_.Go.ChangeSpec) : _root_.Go.OpenSpec := { _root_.Go.OpenSpec.ofChange s with cond := some uptoSmall }

/-- 'pappuslaw08.MsgGets', WHERE WHAT IT READS IS OF BULK AT MOST 1048576: true; the input reads as it did. -/
def msgGetsUptoRow : OpenClaim := { program := "ytanjlgkbjcienaa", sum := "deb45ddd6ee3cc6113145ffce27827d4ad607b3737dd51e8d90852720221a2f6", func := "pappus/pappuslaw08.MsgGets", spec := "msgGets", apart := false, narrowed := true }
def MsgGetsUptoSaid : Prop := msgGetsUptoRow.holds Try.pinned (OpenSpec.upto msgGetsSpec)

/-- 'pappuslaw08.MsgCuts', WHERE WHAT IT READS IS OF BULK AT MOST 1048576: true; the input reads as it did. -/
def msgCutsUptoRow : OpenClaim := { program := "ytanjlgkbjcienaa", sum := "deb45ddd6ee3cc6113145ffce27827d4ad607b3737dd51e8d90852720221a2f6", func := "pappus/pappuslaw08.MsgCuts", spec := "msgCuts", apart := false, narrowed := true }
def MsgCutsUptoSaid : Prop := msgCutsUptoRow.holds Try.pinned (OpenSpec.upto msgCutsSpec)

/-- 'pappuslaw08.MsgOne', WHERE WHAT IT READS IS OF BULK AT MOST 1048576: true; the input reads as it did. -/
def msgOneUptoRow : OpenClaim := { program := "ytanjlgkbjcienaa", sum := "deb45ddd6ee3cc6113145ffce27827d4ad607b3737dd51e8d90852720221a2f6", func := "pappus/pappuslaw08.MsgOne", spec := "msgOne", apart := false, narrowed := true }
def MsgOneUptoSaid : Prop := msgOneUptoRow.holds Try.pinned (OpenSpec.upto msgOneSpec)

/-- 'pappuslaw08.MsgOthers', WHERE WHAT IT READS IS OF BULK AT MOST 1048576: true; the input reads as it did. -/
def msgOthersUptoRow : OpenClaim := { program := "ytanjlgkbjcienaa", sum := "deb45ddd6ee3cc6113145ffce27827d4ad607b3737dd51e8d90852720221a2f6", func := "pappus/pappuslaw08.MsgOthers", spec := "msgOthers", apart := false, narrowed := true }
def MsgOthersUptoSaid : Prop := msgOthersUptoRow.holds Try.pinned (OpenSpec.upto msgOthersSpec)

/-- 'pappuslaw08.MsgSame', WHERE WHAT IT READS IS OF BULK AT MOST 1048576: true; the input reads as it did. -/
def msgSameUptoRow : OpenClaim := { program := "ytanjlgkbjcienaa", sum := "deb45ddd6ee3cc6113145ffce27827d4ad607b3737dd51e8d90852720221a2f6", func := "pappus/pappuslaw08.MsgSame", spec := "msgSame", apart := false, narrowed := true }
def MsgSameUptoSaid : Prop := msgSameUptoRow.holds Try.pinned (OpenSpec.upto msgSameSpec)

/-- 'pappuslaw08.MsgLanes', WHERE WHAT IT READS IS OF BULK AT MOST 1048576: true; the input reads as it did. -/
def msgLanesUptoRow : OpenClaim := { program := "ytanjlgkbjcienaa", sum := "deb45ddd6ee3cc6113145ffce27827d4ad607b3737dd51e8d90852720221a2f6", func := "pappus/pappuslaw08.MsgLanes", spec := "msgLanes", apart := false, narrowed := true }
def MsgLanesUptoSaid : Prop := msgLanesUptoRow.holds Try.pinned (OpenSpec.upto msgLanesSpec)

end Rows
end Go.Proofs.Ytanjlgkbjcienaa
