/-
  DERIVED. GIVEN WITH THE SEED: THE CARDS: each row of YtanjlgkbjcienaaDoorRows.lean that lists a variable, with what it lists TIED to the program's text (the seventh form; the later family's looks); each row that meets fmt, with fmt's text TOLD by the authors' own Lean function (tested against real Go, not proved from fmt's source: count such statements apart). THE CARD IS WHAT COUNTS. Prove the row's statement (the work); the ties are given (YtanjlgkbjcienaaDoorTie.lean); close each card by the builder's one call (the guide's Derived/Test/ToyasCard.lean, 'card_holds'). Laid BY PROGRAM, IN A SANDBOX (cutbox-door.mjs). By AI agents, Wed Nov 11 2026. No macro, syntax, notation, axiom, sorry.
-/
import Derived.Test.YtanjlgkbjcienaaDoorRows
import GoSem.ClaimSeven
namespace Go.Proofs.YtanjlgkbjcienaaDoor
namespace Rows

/-- THE TIED CARD OF 'pappuslaw08.MsgBack'. -/
def msgBackCard : Claim7 := { stood := { row := msgBackRow, standIns := [], harness := (true, "22905934884f42401d6060c305644d6f6ba7184407982923e66486c45b5d84c4"), looks := false }, kinds := [], alts := [], laidByText := true, laidKinds := [.data, .data], laidTests := true, laidLooks := .later }
def MsgBackCardSaid : Prop := Claim7.holds Tryd.pinned (.plain (OpenSpec.ofChange msgBackSpec)) msgBackCard

/-- THE TIED CARD OF 'pappuslaw08.MsgPuts'. -/
def msgPutsCard : Claim7 := { stood := { row := msgPutsRow, standIns := [], harness := (true, "22905934884f42401d6060c305644d6f6ba7184407982923e66486c45b5d84c4"), looks := false }, kinds := [], alts := [], laidByText := true, laidKinds := [.data, .data], laidTests := true, laidLooks := .later }
def MsgPutsCardSaid : Prop := Claim7.holds Tryd.pinned (.plain (OpenSpec.ofChange msgPutsSpec)) msgPutsCard

/-- THE TIED CARD OF 'pappuslaw08.MsgFrames'. -/
def msgFramesCard : Claim7 := { stood := { row := msgFramesRow, standIns := [], harness := (true, "22905934884f42401d6060c305644d6f6ba7184407982923e66486c45b5d84c4"), looks := false }, kinds := [], alts := [], laidByText := true, laidKinds := [.data, .data], laidTests := true, laidLooks := .later }
def MsgFramesCardSaid : Prop := Claim7.holds Tryd.pinned (.plain (OpenSpec.ofChange msgFramesSpec)) msgFramesCard

/-- THE SECOND FORM's CARD OF 'pappuslaw08.MsgBack'. -/
def msgBackUptoCard : Claim7 := { stood := { row := msgBackUptoRow, standIns := [], harness := (true, "22905934884f42401d6060c305644d6f6ba7184407982923e66486c45b5d84c4"), looks := false }, kinds := [], alts := [], laidByText := true, laidKinds := [.data, .data], laidTests := true, laidLooks := .later }
def MsgBackUptoCardSaid : Prop := Claim7.holds Tryd.pinned (.plain (OpenSpec.upto msgBackSpec)) msgBackUptoCard

/-- THE SECOND FORM's CARD OF 'pappuslaw08.MsgPuts'. -/
def msgPutsUptoCard : Claim7 := { stood := { row := msgPutsUptoRow, standIns := [], harness := (true, "22905934884f42401d6060c305644d6f6ba7184407982923e66486c45b5d84c4"), looks := false }, kinds := [], alts := [], laidByText := true, laidKinds := [.data, .data], laidTests := true, laidLooks := .later }
def MsgPutsUptoCardSaid : Prop := Claim7.holds Tryd.pinned (.plain (OpenSpec.upto msgPutsSpec)) msgPutsUptoCard

/-- THE SECOND FORM's CARD OF 'pappuslaw08.MsgFrames'. -/
def msgFramesUptoCard : Claim7 := { stood := { row := msgFramesUptoRow, standIns := [], harness := (true, "22905934884f42401d6060c305644d6f6ba7184407982923e66486c45b5d84c4"), looks := false }, kinds := [], alts := [], laidByText := true, laidKinds := [.data, .data], laidTests := true, laidLooks := .later }
def MsgFramesUptoCardSaid : Prop := Claim7.holds Tryd.pinned (.plain (OpenSpec.upto msgFramesSpec)) msgFramesUptoCard
end Rows
end Go.Proofs.YtanjlgkbjcienaaDoor
