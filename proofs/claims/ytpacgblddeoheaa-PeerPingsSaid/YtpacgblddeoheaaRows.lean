/-
  No cell of these rows narrows 'for every input' (looked for: loops, veiled, ifaces, maps, wideKeys, modest, calm, conditions, laid).
  DERIVED. THE GIVEN ROWS OF THIS SEAT. 4 by the template 'for every input the law returns true; each argument reads behind the call as it read before'; 0 by the template 'total and deterministic' (their statements: YtpacgblddeoheaaTotals.lean).
  GIVEN WITH THE SEED: the statements are not yours to turn. If you find one false, say at which input.
  Laid BY PROGRAM, IN A SANDBOX (cutbox-rows.mjs): the forced cells as the released guide's own fill.sh prints them over the translation 9d1c59a17fc938be… (all of the seat's roots in one cut). By AI agents, Wed Nov 11 2026. No macro, syntax, notation, axiom, sorry.
-/
import Derived.Test.YtpacgblddeoheaaChecked
import GoSem.Claim
import GoSem.ClaimJoined
import GoSem.ClaimMapViews
import Derived.JoinedTies
import Derived.KernelRfl
namespace Go.Proofs.Ytpacgblddeoheaa
/- THE CELL 'sum', in the pinned program and in every row, IS THE sha256 OF THE DUMP (.gsa) THAT YtpacgblddeoheaaProg.lean LOADS. Nothing in Lean hashes anything: it is a label: what it is worth is what the hold of that sum in a sandbox is worth. -/
noncomputable def Try.pinned : Pinned := { name := "ytpacgblddeoheaa", sum := "9d1c59a17fc938be2f0a468cd0651e1cf090e81d7aa56d6dfb6ef565a1836df3", checked := Try.checked }
namespace Rows
def none {H : Type} : Left H := { results := [], args := [] }

/-- 'pappuslaw22.PeerEarly': WHATEVER THE INPUT: true; the input reads as it did. -/
def peerEarlySpec : ChangeSpec := { name := "peerEarly", fn := fun _ => fun
  | [d1, d2, d3] => { results := [.lit (.bool true)], args := [d1, d2, d3] }
  | _ => none }
def peerEarlyRow : OpenClaim := { program := "ytpacgblddeoheaa", sum := "9d1c59a17fc938be2f0a468cd0651e1cf090e81d7aa56d6dfb6ef565a1836df3", func := "pappus/pappuslaw22.PeerEarly", spec := "peerEarly", plainKeys := false, apart := false }
def PeerEarlySaid : Prop := peerEarlyRow.holds Try.pinned (OpenSpec.ofChange peerEarlySpec)

/-- ITS FALSE NEIGHBOUR: 'it returns false'. Refute it at one input. -/
def peerEarlyWrong : ChangeSpec := { name := "peerEarly", fn := fun _ => fun
  | [d1, d2, d3] => { results := [.lit (.bool false)], args := [d1, d2, d3] }
  | _ => none }
def PeerEarlyWrongFalsely : Prop := peerEarlyRow.holds Try.pinned (OpenSpec.ofChange peerEarlyWrong)

/-- 'pappuslaw22.PeerHands': WHATEVER THE INPUT: true; the input reads as it did. -/
def peerHandsSpec : ChangeSpec := { name := "peerHands", fn := fun _ => fun
  | [d1, d2] => { results := [.lit (.bool true)], args := [d1, d2] }
  | _ => none }
def peerHandsRow : OpenClaim := { program := "ytpacgblddeoheaa", sum := "9d1c59a17fc938be2f0a468cd0651e1cf090e81d7aa56d6dfb6ef565a1836df3", func := "pappus/pappuslaw22.PeerHands", spec := "peerHands", plainKeys := false, apart := false }
def PeerHandsSaid : Prop := peerHandsRow.holds Try.pinned (OpenSpec.ofChange peerHandsSpec)

/-- ITS FALSE NEIGHBOUR: 'it returns false'. Refute it at one input. -/
def peerHandsWrong : ChangeSpec := { name := "peerHands", fn := fun _ => fun
  | [d1, d2] => { results := [.lit (.bool false)], args := [d1, d2] }
  | _ => none }
def PeerHandsWrongFalsely : Prop := peerHandsRow.holds Try.pinned (OpenSpec.ofChange peerHandsWrong)

/-- 'pappuslaw22.PeerPings': WHATEVER THE INPUT: true; the input reads as it did. -/
def peerPingsSpec : ChangeSpec := { name := "peerPings", fn := fun _ => fun
  | [d1, d2, d3] => { results := [.lit (.bool true)], args := [d1, d2, d3] }
  | _ => none }
def peerPingsRow : OpenClaim := { program := "ytpacgblddeoheaa", sum := "9d1c59a17fc938be2f0a468cd0651e1cf090e81d7aa56d6dfb6ef565a1836df3", func := "pappus/pappuslaw22.PeerPings", spec := "peerPings", inPlace := ["math/bits.Add64"], plainKeys := false, apart := false }
def PeerPingsSaid : Prop := peerPingsRow.holds Try.pinned (OpenSpec.ofChange peerPingsSpec)

/-- ITS FALSE NEIGHBOUR: 'it returns false'. Refute it at one input. -/
def peerPingsWrong : ChangeSpec := { name := "peerPings", fn := fun _ => fun
  | [d1, d2, d3] => { results := [.lit (.bool false)], args := [d1, d2, d3] }
  | _ => none }
def PeerPingsWrongFalsely : Prop := peerPingsRow.holds Try.pinned (OpenSpec.ofChange peerPingsWrong)

/-- 'pappuslaw22.PeerStops': WHATEVER THE INPUT: true; the input reads as it did. -/
def peerStopsSpec : ChangeSpec := { name := "peerStops", fn := fun _ => fun
  | [d1, d2] => { results := [.lit (.bool true)], args := [d1, d2] }
  | _ => none }
def peerStopsRow : OpenClaim := { program := "ytpacgblddeoheaa", sum := "9d1c59a17fc938be2f0a468cd0651e1cf090e81d7aa56d6dfb6ef565a1836df3", func := "pappus/pappuslaw22.PeerStops", spec := "peerStops", inPlace := ["math/bits.Add64"], plainKeys := false, apart := false }
def PeerStopsSaid : Prop := peerStopsRow.holds Try.pinned (OpenSpec.ofChange peerStopsSpec)

/-- ITS FALSE NEIGHBOUR: 'it returns false'. Refute it at one input. -/
def peerStopsWrong : ChangeSpec := { name := "peerStops", fn := fun _ => fun
  | [d1, d2] => { results := [.lit (.bool false)], args := [d1, d2] }
  | _ => none }
def PeerStopsWrongFalsely : Prop := peerStopsRow.holds Try.pinned (OpenSpec.ofChange peerStopsWrong)

/- THE SECOND FORM. 'bulk': how many values and letters a reading holds, each counted each time it is reached (what is shared counts as often as it is met; a slice's spare places count too). A statement '..UptoSaid' is the law's where the arguments, and the package variables that the reading takes, are together of bulk at most 1048576: NARROWER than '..Said'. Prove '..Said' where nothing that the law and all that it calls make is longer than what came in: it says more and counts as full. Else prove '..UptoSaid'. A law counts once. -/
mutual
def uptoBulk {H : Type} : DataW H → Nat
  | .lit (.string bytes) => bytes.length + 1
  | .lit _ => 1
  | .nil => 1
  | .ptr d => uptoBulk d + 1
  | .slice elems spare => uptoBulkAll elems + uptoBulkAll spare + 1
  | .agg parts => uptoBulkAll parts + 1
  | .iface _ d => uptoBulk d + 1
  | .map entries => uptoBulkEntries entries + 1
  | .held _ => 1
def uptoBulkAll {H : Type} : List (DataW H) → Nat
  | [] => 0
  | d :: r => uptoBulk d + uptoBulkAll r
def uptoBulkEntries {H : Type} : List (Lit × DataW H) → Nat
  | [] => 0
  | x :: r => uptoBulkEntry x + uptoBulkEntries r
def uptoBulkEntry {H : Type} : Lit × DataW H → Nat
  | (.string bytes, d) => bytes.length + uptoBulk d + 1
  | (_, d) => uptoBulk d + 1
 end
def uptoSmall : (H : Type) → List (DataW H) → Bool := fun _ ds => decide (uptoBulkAll ds ≤ 1048576)
def OpenSpec.upto (s : _root_.Go.ChangeSpec) : _root_.Go.OpenSpec := { _root_.Go.OpenSpec.ofChange s with cond := some uptoSmall }

/-- 'pappuslaw22.PeerEarly', WHERE WHAT IT READS IS OF BULK AT MOST 1048576: true; the input reads as it did. -/
def peerEarlyUptoRow : OpenClaim := { program := "ytpacgblddeoheaa", sum := "9d1c59a17fc938be2f0a468cd0651e1cf090e81d7aa56d6dfb6ef565a1836df3", func := "pappus/pappuslaw22.PeerEarly", spec := "peerEarly", plainKeys := false, apart := false, narrowed := true }
def PeerEarlyUptoSaid : Prop := peerEarlyUptoRow.holds Try.pinned (OpenSpec.upto peerEarlySpec)

/-- 'pappuslaw22.PeerHands', WHERE WHAT IT READS IS OF BULK AT MOST 1048576: true; the input reads as it did. -/
def peerHandsUptoRow : OpenClaim := { program := "ytpacgblddeoheaa", sum := "9d1c59a17fc938be2f0a468cd0651e1cf090e81d7aa56d6dfb6ef565a1836df3", func := "pappus/pappuslaw22.PeerHands", spec := "peerHands", plainKeys := false, apart := false, narrowed := true }
def PeerHandsUptoSaid : Prop := peerHandsUptoRow.holds Try.pinned (OpenSpec.upto peerHandsSpec)

/-- 'pappuslaw22.PeerPings', WHERE WHAT IT READS IS OF BULK AT MOST 1048576: true; the input reads as it did. -/
def peerPingsUptoRow : OpenClaim := { program := "ytpacgblddeoheaa", sum := "9d1c59a17fc938be2f0a468cd0651e1cf090e81d7aa56d6dfb6ef565a1836df3", func := "pappus/pappuslaw22.PeerPings", spec := "peerPings", inPlace := ["math/bits.Add64"], plainKeys := false, apart := false, narrowed := true }
def PeerPingsUptoSaid : Prop := peerPingsUptoRow.holds Try.pinned (OpenSpec.upto peerPingsSpec)

/-- 'pappuslaw22.PeerStops', WHERE WHAT IT READS IS OF BULK AT MOST 1048576: true; the input reads as it did. -/
def peerStopsUptoRow : OpenClaim := { program := "ytpacgblddeoheaa", sum := "9d1c59a17fc938be2f0a468cd0651e1cf090e81d7aa56d6dfb6ef565a1836df3", func := "pappus/pappuslaw22.PeerStops", spec := "peerStops", inPlace := ["math/bits.Add64"], plainKeys := false, apart := false, narrowed := true }
def PeerStopsUptoSaid : Prop := peerStopsUptoRow.holds Try.pinned (OpenSpec.upto peerStopsSpec)

end Rows
end Go.Proofs.Ytpacgblddeoheaa
