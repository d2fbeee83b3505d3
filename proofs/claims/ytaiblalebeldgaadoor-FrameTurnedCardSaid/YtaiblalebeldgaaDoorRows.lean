/-
  NARROWER THAN 'FOR EVERY INPUT', by the rows' own cells (each row's printed sentence says how): FramePuts: laid · FrameGets: laid · FrameHeads: laid · FrameBack: laid · FrameShort: laid · FrameTurned: laid · FrameNames: laid · FrameLong: laid.
  DERIVED. THE GIVEN ROWS OF THIS SEAT. 8 by the template 'for every input the law returns true; each argument reads behind the call as it read before'; 0 by the template 'total and deterministic' (their statements: YtaiblalebeldgaaDoorTotals.lean).
  GIVEN WITH THE SEED: the statements are not yours to turn. If you find one false, say at which input.
  Laid BY PROGRAM, IN A SANDBOX (cutbox-rows.mjs): the forced cells as the released guide's own fill.sh prints them over the translation f02e4b4214bf409f… (all of the seat's roots in one cut). By AI agents, Wed Nov 11 2026. No macro, syntax, notation, axiom, sorry.
-/
import Derived.Test.YtaiblalebeldgaaDoorChecked
import GoSem.Claim
import GoSem.ClaimJoined
import GoSem.ClaimMapViews
import Derived.JoinedTies
import Derived.KernelRfl
namespace Go.Proofs.YtaiblalebeldgaaDoor
/- THE CELL 'sum', in the pinned program and in every row, IS THE sha256 OF THE DUMP (.gsa) THAT YtaiblalebeldgaaDoorProg.lean LOADS. Nothing in Lean hashes anything: it is a label: what it is worth is what the hold of that sum in a sandbox is worth. -/
noncomputable def Tryd.pinned : Pinned := { name := "ytaiblalebeldgaadoor", sum := "f02e4b4214bf409ff04b69a37a1dfdc1794dcfa8bf50cde0dbbd91d9522fc067", checked := Tryd.checked }
namespace Rows
def none {H : Type} : Left H := { results := [], args := [] }

/- WHAT THE LISTED PACKAGE-LEVEL VARIABLES READ AS WHEN THE CALL BEGINS. Each datum BY PROGRAM (the guide's laid-datum.mjs) off the statement by which the dump's own 'gosem.cut.vars' lays the variable. In a bare row this is a premise. The card (YtaiblalebeldgaaDoorCards.lean) ties it to the program's text. -/
def laid_pappus_sha_constants {H : Type} : DataW H := .agg [.lit (.int .u32 1116352408), .lit (.int .u32 1899447441), .lit (.int .u32 3049323471), .lit (.int .u32 3921009573), .lit (.int .u32 961987163), .lit (.int .u32 1508970993), .lit (.int .u32 2453635748), .lit (.int .u32 2870763221), .lit (.int .u32 3624381080), .lit (.int .u32 310598401), .lit (.int .u32 607225278), .lit (.int .u32 1426881987), .lit (.int .u32 1925078388), .lit (.int .u32 2162078206), .lit (.int .u32 2614888103), .lit (.int .u32 3248222580), .lit (.int .u32 3835390401), .lit (.int .u32 4022224774), .lit (.int .u32 264347078), .lit (.int .u32 604807628), .lit (.int .u32 770255983), .lit (.int .u32 1249150122), .lit (.int .u32 1555081692), .lit (.int .u32 1996064986), .lit (.int .u32 2554220882), .lit (.int .u32 2821834349), .lit (.int .u32 2952996808), .lit (.int .u32 3210313671), .lit (.int .u32 3336571891), .lit (.int .u32 3584528711), .lit (.int .u32 113926993), .lit (.int .u32 338241895), .lit (.int .u32 666307205), .lit (.int .u32 773529912), .lit (.int .u32 1294757372), .lit (.int .u32 1396182291), .lit (.int .u32 1695183700), .lit (.int .u32 1986661051), .lit (.int .u32 2177026350), .lit (.int .u32 2456956037), .lit (.int .u32 2730485921), .lit (.int .u32 2820302411), .lit (.int .u32 3259730800), .lit (.int .u32 3345764771), .lit (.int .u32 3516065817), .lit (.int .u32 3600352804), .lit (.int .u32 4094571909), .lit (.int .u32 275423344), .lit (.int .u32 430227734), .lit (.int .u32 506948616), .lit (.int .u32 659060556), .lit (.int .u32 883997877), .lit (.int .u32 958139571), .lit (.int .u32 1322822218), .lit (.int .u32 1537002063), .lit (.int .u32 1747873779), .lit (.int .u32 1955562222), .lit (.int .u32 2024104815), .lit (.int .u32 2227730452), .lit (.int .u32 2361852424), .lit (.int .u32 2428436474), .lit (.int .u32 2756734187), .lit (.int .u32 3204031479), .lit (.int .u32 3329325298)]
def laid_pappus_sha_first {H : Type} : DataW H := .agg [.lit (.int .u32 1779033703), .lit (.int .u32 3144134277), .lit (.int .u32 1013904242), .lit (.int .u32 2773480762), .lit (.int .u32 1359893119), .lit (.int .u32 2600822924), .lit (.int .u32 528734635), .lit (.int .u32 1541459225)]

/-- 'pappuslaw05.FramePuts': WHATEVER THE INPUT: true; the input reads as it did. -/
def framePutsSpec : ChangeSpec := { name := "framePuts", fn := fun _ => fun
  | [d1, d2] => { results := [.lit (.bool true)], args := [d1, d2] }
  | _ => none }
def framePutsRow : OpenClaim := { program := "ytaiblalebeldgaadoor", sum := "f02e4b4214bf409ff04b69a37a1dfdc1794dcfa8bf50cde0dbbd91d9522fc067", func := "pappus/pappuslaw05.FramePuts", spec := "framePuts", named := ["pappus/sha.first", "pappus/sha.constants"], apart := false, laid := [("pappus/sha.constants", laid_pappus_sha_constants), ("pappus/sha.first", laid_pappus_sha_first)] }
def FramePutsSaid : Prop := framePutsRow.holds Tryd.pinned (OpenSpec.ofChange framePutsSpec)

/-- ITS FALSE NEIGHBOUR: 'it returns false'. Refute it at one input. -/
def framePutsWrong : ChangeSpec := { name := "framePuts", fn := fun _ => fun
  | [d1, d2] => { results := [.lit (.bool false)], args := [d1, d2] }
  | _ => none }
def FramePutsWrongFalsely : Prop := framePutsRow.holds Tryd.pinned (OpenSpec.ofChange framePutsWrong)

/-- 'pappuslaw05.FrameGets': WHATEVER THE INPUT: true; the input reads as it did. -/
def frameGetsSpec : ChangeSpec := { name := "frameGets", fn := fun _ => fun
  | [d] => { results := [.lit (.bool true)], args := [d] }
  | _ => none }
def frameGetsRow : OpenClaim := { program := "ytaiblalebeldgaadoor", sum := "f02e4b4214bf409ff04b69a37a1dfdc1794dcfa8bf50cde0dbbd91d9522fc067", func := "pappus/pappuslaw05.FrameGets", spec := "frameGets", named := ["pappus/sha.first", "pappus/sha.constants"], apart := false, laid := [("pappus/sha.constants", laid_pappus_sha_constants), ("pappus/sha.first", laid_pappus_sha_first)] }
def FrameGetsSaid : Prop := frameGetsRow.holds Tryd.pinned (OpenSpec.ofChange frameGetsSpec)

/-- ITS FALSE NEIGHBOUR: 'it returns false'. Refute it at one input. -/
def frameGetsWrong : ChangeSpec := { name := "frameGets", fn := fun _ => fun
  | [d] => { results := [.lit (.bool false)], args := [d] }
  | _ => none }
def FrameGetsWrongFalsely : Prop := frameGetsRow.holds Tryd.pinned (OpenSpec.ofChange frameGetsWrong)

/-- 'pappuslaw05.FrameHeads': WHATEVER THE INPUT: true; the input reads as it did. -/
def frameHeadsSpec : ChangeSpec := { name := "frameHeads", fn := fun _ => fun
  | [d] => { results := [.lit (.bool true)], args := [d] }
  | _ => none }
def frameHeadsRow : OpenClaim := { program := "ytaiblalebeldgaadoor", sum := "f02e4b4214bf409ff04b69a37a1dfdc1794dcfa8bf50cde0dbbd91d9522fc067", func := "pappus/pappuslaw05.FrameHeads", spec := "frameHeads", named := ["pappus/sha.first", "pappus/sha.constants"], apart := false, laid := [("pappus/sha.constants", laid_pappus_sha_constants), ("pappus/sha.first", laid_pappus_sha_first)] }
def FrameHeadsSaid : Prop := frameHeadsRow.holds Tryd.pinned (OpenSpec.ofChange frameHeadsSpec)

/-- ITS FALSE NEIGHBOUR: 'it returns false'. Refute it at one input. -/
def frameHeadsWrong : ChangeSpec := { name := "frameHeads", fn := fun _ => fun
  | [d] => { results := [.lit (.bool false)], args := [d] }
  | _ => none }
def FrameHeadsWrongFalsely : Prop := frameHeadsRow.holds Tryd.pinned (OpenSpec.ofChange frameHeadsWrong)

/-- 'pappuslaw05.FrameBack': WHATEVER THE INPUT: true; the input reads as it did. -/
def frameBackSpec : ChangeSpec := { name := "frameBack", fn := fun _ => fun
  | [d1, d2, d3] => { results := [.lit (.bool true)], args := [d1, d2, d3] }
  | _ => none }
def frameBackRow : OpenClaim := { program := "ytaiblalebeldgaadoor", sum := "f02e4b4214bf409ff04b69a37a1dfdc1794dcfa8bf50cde0dbbd91d9522fc067", func := "pappus/pappuslaw05.FrameBack", spec := "frameBack", named := ["pappus/sha.first", "pappus/sha.constants"], apart := false, laid := [("pappus/sha.constants", laid_pappus_sha_constants), ("pappus/sha.first", laid_pappus_sha_first)] }
def FrameBackSaid : Prop := frameBackRow.holds Tryd.pinned (OpenSpec.ofChange frameBackSpec)

/-- ITS FALSE NEIGHBOUR: 'it returns false'. Refute it at one input. -/
def frameBackWrong : ChangeSpec := { name := "frameBack", fn := fun _ => fun
  | [d1, d2, d3] => { results := [.lit (.bool false)], args := [d1, d2, d3] }
  | _ => none }
def FrameBackWrongFalsely : Prop := frameBackRow.holds Tryd.pinned (OpenSpec.ofChange frameBackWrong)

/-- 'pappuslaw05.FrameShort': WHATEVER THE INPUT: true; the input reads as it did. -/
def frameShortSpec : ChangeSpec := { name := "frameShort", fn := fun _ => fun
  | [d1, d2, d3] => { results := [.lit (.bool true)], args := [d1, d2, d3] }
  | _ => none }
def frameShortRow : OpenClaim := { program := "ytaiblalebeldgaadoor", sum := "f02e4b4214bf409ff04b69a37a1dfdc1794dcfa8bf50cde0dbbd91d9522fc067", func := "pappus/pappuslaw05.FrameShort", spec := "frameShort", named := ["pappus/sha.first", "pappus/sha.constants"], apart := false, laid := [("pappus/sha.constants", laid_pappus_sha_constants), ("pappus/sha.first", laid_pappus_sha_first)] }
def FrameShortSaid : Prop := frameShortRow.holds Tryd.pinned (OpenSpec.ofChange frameShortSpec)

/-- ITS FALSE NEIGHBOUR: 'it returns false'. Refute it at one input. -/
def frameShortWrong : ChangeSpec := { name := "frameShort", fn := fun _ => fun
  | [d1, d2, d3] => { results := [.lit (.bool false)], args := [d1, d2, d3] }
  | _ => none }
def FrameShortWrongFalsely : Prop := frameShortRow.holds Tryd.pinned (OpenSpec.ofChange frameShortWrong)

/-- 'pappuslaw05.FrameTurned': WHATEVER THE INPUT: true; the input reads as it did. -/
def frameTurnedSpec : ChangeSpec := { name := "frameTurned", fn := fun _ => fun
  | [d1, d2, d3] => { results := [.lit (.bool true)], args := [d1, d2, d3] }
  | _ => none }
def frameTurnedRow : OpenClaim := { program := "ytaiblalebeldgaadoor", sum := "f02e4b4214bf409ff04b69a37a1dfdc1794dcfa8bf50cde0dbbd91d9522fc067", func := "pappus/pappuslaw05.FrameTurned", spec := "frameTurned", named := ["pappus/sha.first", "pappus/sha.constants"], apart := false, laid := [("pappus/sha.constants", laid_pappus_sha_constants), ("pappus/sha.first", laid_pappus_sha_first)] }
def FrameTurnedSaid : Prop := frameTurnedRow.holds Tryd.pinned (OpenSpec.ofChange frameTurnedSpec)

/-- ITS FALSE NEIGHBOUR: 'it returns false'. Refute it at one input. -/
def frameTurnedWrong : ChangeSpec := { name := "frameTurned", fn := fun _ => fun
  | [d1, d2, d3] => { results := [.lit (.bool false)], args := [d1, d2, d3] }
  | _ => none }
def FrameTurnedWrongFalsely : Prop := frameTurnedRow.holds Tryd.pinned (OpenSpec.ofChange frameTurnedWrong)

/-- 'pappuslaw05.FrameNames': WHATEVER THE INPUT: true; the input reads as it did. -/
def frameNamesSpec : ChangeSpec := { name := "frameNames", fn := fun _ => fun
  | [d1, d2] => { results := [.lit (.bool true)], args := [d1, d2] }
  | _ => none }
def frameNamesRow : OpenClaim := { program := "ytaiblalebeldgaadoor", sum := "f02e4b4214bf409ff04b69a37a1dfdc1794dcfa8bf50cde0dbbd91d9522fc067", func := "pappus/pappuslaw05.FrameNames", spec := "frameNames", named := ["pappus/sha.first", "pappus/sha.constants"], apart := false, laid := [("pappus/sha.constants", laid_pappus_sha_constants), ("pappus/sha.first", laid_pappus_sha_first)] }
def FrameNamesSaid : Prop := frameNamesRow.holds Tryd.pinned (OpenSpec.ofChange frameNamesSpec)

/-- ITS FALSE NEIGHBOUR: 'it returns false'. Refute it at one input. -/
def frameNamesWrong : ChangeSpec := { name := "frameNames", fn := fun _ => fun
  | [d1, d2] => { results := [.lit (.bool false)], args := [d1, d2] }
  | _ => none }
def FrameNamesWrongFalsely : Prop := frameNamesRow.holds Tryd.pinned (OpenSpec.ofChange frameNamesWrong)

/-- 'pappuslaw05.FrameLong': WHATEVER THE INPUT: true; the input reads as it did. -/
def frameLongSpec : ChangeSpec := { name := "frameLong", fn := fun _ => fun
  | [d1, d2] => { results := [.lit (.bool true)], args := [d1, d2] }
  | _ => none }
def frameLongRow : OpenClaim := { program := "ytaiblalebeldgaadoor", sum := "f02e4b4214bf409ff04b69a37a1dfdc1794dcfa8bf50cde0dbbd91d9522fc067", func := "pappus/pappuslaw05.FrameLong", spec := "frameLong", named := ["pappus/sha.first", "pappus/sha.constants"], apart := false, laid := [("pappus/sha.constants", laid_pappus_sha_constants), ("pappus/sha.first", laid_pappus_sha_first)] }
def FrameLongSaid : Prop := frameLongRow.holds Tryd.pinned (OpenSpec.ofChange frameLongSpec)

/-- ITS FALSE NEIGHBOUR: 'it returns false'. Refute it at one input. -/
def frameLongWrong : ChangeSpec := { name := "frameLong", fn := fun _ => fun
  | [d1, d2] => { results := [.lit (.bool false)], args := [d1, d2] }
  | _ => none }
def FrameLongWrongFalsely : Prop := frameLongRow.holds Tryd.pinned (OpenSpec.ofChange frameLongWrong)

/- THE SECOND FORM. 'bulk': how many values and letters a reading holds, each counted each time it is reached (what is shared counts as often as it is met; a slice's spare places count too). A statement '..UptoSaid' is the law's where the arguments, and the package variables that the reading takes, are together of bulk at most 1048576: NARROWER than '..Said'. Prove '..Said' where nothing that the law and all that it calls make is longer than what came in: it says more and counts as full. Else prove '..UptoSaid'. A law counts once. -/
mutual
def uptoBulk {H : Type} : DataW H → Nat
  | .lit (.string bytes) => bytes.length + 1
  | .lit _ => 1
  | .nil => 1
  | .ptr d => uptoBulk d + 1
  | .slice elems spare => uptoBulkAll elems + uptoBulkAll spare + 1
  | .agg parts => uptoBulkAll parts + 1
  | .iface _ d => uptoBulk d + 1
  | .map entries => uptoBulkEntries entries + 1
  | .held _ => 1
def uptoBulkAll {H : Type} : List (DataW H) → Nat
  | [] => 0
  | d :: r => uptoBulk d + uptoBulkAll r
def uptoBulkEntries {H : Type} : List (Lit × DataW H) → Nat
  | [] => 0
  | x :: r => uptoBulkEntry x + uptoBulkEntries r
def uptoBulkEntry {H : Type} : Lit × DataW H → Nat
  | (.string bytes, d) => bytes.length + uptoBulk d + 1
  | (_, d) => uptoBulk d + 1
 end
def uptoSmall : (H : Type) → List (DataW H) → Bool := fun _ ds => decide (uptoBulkAll ds ≤ 1048576)
def OpenSpec.upto (s : _root_.Go.ChangeSpec) : _root_.Go.OpenSpec := { _root_.Go.OpenSpec.ofChange s with cond := some uptoSmall }

/-- 'pappuslaw05.FramePuts', WHERE WHAT IT READS IS OF BULK AT MOST 1048576: true; the input reads as it did. -/
def framePutsUptoRow : OpenClaim := { program := "ytaiblalebeldgaadoor", sum := "f02e4b4214bf409ff04b69a37a1dfdc1794dcfa8bf50cde0dbbd91d9522fc067", func := "pappus/pappuslaw05.FramePuts", spec := "framePuts", named := ["pappus/sha.first", "pappus/sha.constants"], apart := false, laid := [("pappus/sha.constants", laid_pappus_sha_constants), ("pappus/sha.first", laid_pappus_sha_first)], narrowed := true }
def FramePutsUptoSaid : Prop := framePutsUptoRow.holds Tryd.pinned (OpenSpec.upto framePutsSpec)

/-- 'pappuslaw05.FrameGets', WHERE WHAT IT READS IS OF BULK AT MOST 1048576: true; the input reads as it did. -/
def frameGetsUptoRow : OpenClaim := { program := "ytaiblalebeldgaadoor", sum := "f02e4b4214bf409ff04b69a37a1dfdc1794dcfa8bf50cde0dbbd91d9522fc067", func := "pappus/pappuslaw05.FrameGets", spec := "frameGets", named := ["pappus/sha.first", "pappus/sha.constants"], apart := false, laid := [("pappus/sha.constants", laid_pappus_sha_constants), ("pappus/sha.first", laid_pappus_sha_first)], narrowed := true }
def FrameGetsUptoSaid : Prop := frameGetsUptoRow.holds Tryd.pinned (OpenSpec.upto frameGetsSpec)

/-- 'pappuslaw05.FrameHeads', WHERE WHAT IT READS IS OF BULK AT MOST 1048576: true; the input reads as it did. -/
def frameHeadsUptoRow : OpenClaim := { program := "ytaiblalebeldgaadoor", sum := "f02e4b4214bf409ff04b69a37a1dfdc1794dcfa8bf50cde0dbbd91d9522fc067", func := "pappus/pappuslaw05.FrameHeads", spec := "frameHeads", named := ["pappus/sha.first", "pappus/sha.constants"], apart := false, laid := [("pappus/sha.constants", laid_pappus_sha_constants), ("pappus/sha.first", laid_pappus_sha_first)], narrowed := true }
def FrameHeadsUptoSaid : Prop := frameHeadsUptoRow.holds Tryd.pinned (OpenSpec.upto frameHeadsSpec)

/-- 'pappuslaw05.FrameBack', WHERE WHAT IT READS IS OF BULK AT MOST 1048576: true; the input reads as it did. -/
def frameBackUptoRow : OpenClaim := { program := "ytaiblalebeldgaadoor", sum := "f02e4b4214bf409ff04b69a37a1dfdc1794dcfa8bf50cde0dbbd91d9522fc067", func := "pappus/pappuslaw05.FrameBack", spec := "frameBack", named := ["pappus/sha.first", "pappus/sha.constants"], apart := false, laid := [("pappus/sha.constants", laid_pappus_sha_constants), ("pappus/sha.first", laid_pappus_sha_first)], narrowed := true }
def FrameBackUptoSaid : Prop := frameBackUptoRow.holds Tryd.pinned (OpenSpec.upto frameBackSpec)

/-- 'pappuslaw05.FrameShort', WHERE WHAT IT READS IS OF BULK AT MOST 1048576: true; the input reads as it did. -/
def frameShortUptoRow : OpenClaim := { program := "ytaiblalebeldgaadoor", sum := "f02e4b4214bf409ff04b69a37a1dfdc1794dcfa8bf50cde0dbbd91d9522fc067", func := "pappus/pappuslaw05.FrameShort", spec := "frameShort", named := ["pappus/sha.first", "pappus/sha.constants"], apart := false, laid := [("pappus/sha.constants", laid_pappus_sha_constants), ("pappus/sha.first", laid_pappus_sha_first)], narrowed := true }
def FrameShortUptoSaid : Prop := frameShortUptoRow.holds Tryd.pinned (OpenSpec.upto frameShortSpec)

/-- 'pappuslaw05.FrameTurned', WHERE WHAT IT READS IS OF BULK AT MOST 1048576: true; the input reads as it did. -/
def frameTurnedUptoRow : OpenClaim := { program := "ytaiblalebeldgaadoor", sum := "f02e4b4214bf409ff04b69a37a1dfdc1794dcfa8bf50cde0dbbd91d9522fc067", func := "pappus/pappuslaw05.FrameTurned", spec := "frameTurned", named := ["pappus/sha.first", "pappus/sha.constants"], apart := false, laid := [("pappus/sha.constants", laid_pappus_sha_constants), ("pappus/sha.first", laid_pappus_sha_first)], narrowed := true }
def FrameTurnedUptoSaid : Prop := frameTurnedUptoRow.holds Tryd.pinned (OpenSpec.upto frameTurnedSpec)

/-- 'pappuslaw05.FrameNames', WHERE WHAT IT READS IS OF BULK AT MOST 1048576: true; the input reads as it did. -/
def frameNamesUptoRow : OpenClaim := { program := "ytaiblalebeldgaadoor", sum := "f02e4b4214bf409ff04b69a37a1dfdc1794dcfa8bf50cde0dbbd91d9522fc067", func := "pappus/pappuslaw05.FrameNames", spec := "frameNames", named := ["pappus/sha.first", "pappus/sha.constants"], apart := false, laid := [("pappus/sha.constants", laid_pappus_sha_constants), ("pappus/sha.first", laid_pappus_sha_first)], narrowed := true }
def FrameNamesUptoSaid : Prop := frameNamesUptoRow.holds Tryd.pinned (OpenSpec.upto frameNamesSpec)

/-- 'pappuslaw05.FrameLong', WHERE WHAT IT READS IS OF BULK AT MOST 1048576: true; the input reads as it did. -/
def frameLongUptoRow : OpenClaim := { program := "ytaiblalebeldgaadoor", sum := "f02e4b4214bf409ff04b69a37a1dfdc1794dcfa8bf50cde0dbbd91d9522fc067", func := "pappus/pappuslaw05.FrameLong", spec := "frameLong", named := ["pappus/sha.first", "pappus/sha.constants"], apart := false, laid := [("pappus/sha.constants", laid_pappus_sha_constants), ("pappus/sha.first", laid_pappus_sha_first)], narrowed := true }
def FrameLongUptoSaid : Prop := frameLongUptoRow.holds Tryd.pinned (OpenSpec.upto frameLongSpec)

end Rows
end Go.Proofs.YtaiblalebeldgaaDoor
