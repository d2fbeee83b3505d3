/-
  DERIVED. GIVEN WITH THE SEED: THE CARDS: each row of YtaiblalebeldgaaDoorRows.lean that lists a variable, with what it lists TIED to the program's text (the seventh form; the later family's looks); each row that meets fmt, with fmt's text TOLD by the authors' own Lean function (tested against real Go, not proved from fmt's source: count such statements apart). THE CARD IS WHAT COUNTS. Prove the row's statement (the work); the ties are given (YtaiblalebeldgaaDoorTie.lean); close each card by the builder's one call (the guide's Derived/Test/ToyasCard.lean, 'card_holds'). Laid BY PROGRAM, IN A SANDBOX (cutbox-door.mjs). By AI agents, Wed Nov 11 2026. No macro, syntax, notation, axiom, sorry.
-/
import Derived.Test.YtaiblalebeldgaaDoorRows
import GoSem.ClaimSeven
namespace Go.Proofs.YtaiblalebeldgaaDoor
namespace Rows

/-- THE TIED CARD OF 'pappuslaw05.FramePuts'. -/
def framePutsCard : Claim7 := { stood := { row := framePutsRow, standIns := [], harness := (true, "6ba64b1f74cac776f3aaa770ef897ded2653d7118b4426ab06e81b683cb840fc"), looks := false }, kinds := [], alts := [], laidByText := true, laidKinds := [.data, .data], laidTests := true, laidLooks := .later }
def FramePutsCardSaid : Prop := Claim7.holds Tryd.pinned (.plain (OpenSpec.ofChange framePutsSpec)) framePutsCard

/-- THE TIED CARD OF 'pappuslaw05.FrameGets'. -/
def frameGetsCard : Claim7 := { stood := { row := frameGetsRow, standIns := [], harness := (true, "6ba64b1f74cac776f3aaa770ef897ded2653d7118b4426ab06e81b683cb840fc"), looks := false }, kinds := [], alts := [], laidByText := true, laidKinds := [.data, .data], laidTests := true, laidLooks := .later }
def FrameGetsCardSaid : Prop := Claim7.holds Tryd.pinned (.plain (OpenSpec.ofChange frameGetsSpec)) frameGetsCard

/-- THE TIED CARD OF 'pappuslaw05.FrameHeads'. -/
def frameHeadsCard : Claim7 := { stood := { row := frameHeadsRow, standIns := [], harness := (true, "6ba64b1f74cac776f3aaa770ef897ded2653d7118b4426ab06e81b683cb840fc"), looks := false }, kinds := [], alts := [], laidByText := true, laidKinds := [.data, .data], laidTests := true, laidLooks := .later }
def FrameHeadsCardSaid : Prop := Claim7.holds Tryd.pinned (.plain (OpenSpec.ofChange frameHeadsSpec)) frameHeadsCard

/-- THE TIED CARD OF 'pappuslaw05.FrameBack'. -/
def frameBackCard : Claim7 := { stood := { row := frameBackRow, standIns := [], harness := (true, "6ba64b1f74cac776f3aaa770ef897ded2653d7118b4426ab06e81b683cb840fc"), looks := false }, kinds := [], alts := [], laidByText := true, laidKinds := [.data, .data], laidTests := true, laidLooks := .later }
def FrameBackCardSaid : Prop := Claim7.holds Tryd.pinned (.plain (OpenSpec.ofChange frameBackSpec)) frameBackCard

/-- THE TIED CARD OF 'pappuslaw05.FrameShort'. -/
def frameShortCard : Claim7 := { stood := { row := frameShortRow, standIns := [], harness := (true, "6ba64b1f74cac776f3aaa770ef897ded2653d7118b4426ab06e81b683cb840fc"), looks := false }, kinds := [], alts := [], laidByText := true, laidKinds := [.data, .data], laidTests := true, laidLooks := .later }
def FrameShortCardSaid : Prop := Claim7.holds Tryd.pinned (.plain (OpenSpec.ofChange frameShortSpec)) frameShortCard

/-- THE TIED CARD OF 'pappuslaw05.FrameTurned'. -/
def frameTurnedCard : Claim7 := { stood := { row := frameTurnedRow, standIns := [], harness := (true, "6ba64b1f74cac776f3aaa770ef897ded2653d7118b4426ab06e81b683cb840fc"), looks := false }, kinds := [], alts := [], laidByText := true, laidKinds := [.data, .data], laidTests := true, laidLooks := .later }
def FrameTurnedCardSaid : Prop := Claim7.holds Tryd.pinned (.plain (OpenSpec.ofChange frameTurnedSpec)) frameTurnedCard

/-- THE TIED CARD OF 'pappuslaw05.FrameNames'. -/
def frameNamesCard : Claim7 := { stood := { row := frameNamesRow, standIns := [], harness := (true, "6ba64b1f74cac776f3aaa770ef897ded2653d7118b4426ab06e81b683cb840fc"), looks := false }, kinds := [], alts := [], laidByText := true, laidKinds := [.data, .data], laidTests := true, laidLooks := .later }
def FrameNamesCardSaid : Prop := Claim7.holds Tryd.pinned (.plain (OpenSpec.ofChange frameNamesSpec)) frameNamesCard

/-- THE TIED CARD OF 'pappuslaw05.FrameLong'. -/
def frameLongCard : Claim7 := { stood := { row := frameLongRow, standIns := [], harness := (true, "6ba64b1f74cac776f3aaa770ef897ded2653d7118b4426ab06e81b683cb840fc"), looks := false }, kinds := [], alts := [], laidByText := true, laidKinds := [.data, .data], laidTests := true, laidLooks := .later }
def FrameLongCardSaid : Prop := Claim7.holds Tryd.pinned (.plain (OpenSpec.ofChange frameLongSpec)) frameLongCard

/-- THE SECOND FORM's CARD OF 'pappuslaw05.FramePuts'. -/
def framePutsUptoCard : Claim7 := { stood := { row := framePutsUptoRow, standIns := [], harness := (true, "6ba64b1f74cac776f3aaa770ef897ded2653d7118b4426ab06e81b683cb840fc"), looks := false }, kinds := [], alts := [], laidByText := true, laidKinds := [.data, .data], laidTests := true, laidLooks := .later }
def FramePutsUptoCardSaid : Prop := Claim7.holds Tryd.pinned (.plain (OpenSpec.upto framePutsSpec)) framePutsUptoCard

/-- THE SECOND FORM's CARD OF 'pappuslaw05.FrameGets'. -/
def frameGetsUptoCard : Claim7 := { stood := { row := frameGetsUptoRow, standIns := [], harness := (true, "6ba64b1f74cac776f3aaa770ef897ded2653d7118b4426ab06e81b683cb840fc"), looks := false }, kinds := [], alts := [], laidByText := true, laidKinds := [.data, .data], laidTests := true, laidLooks := .later }
def FrameGetsUptoCardSaid : Prop := Claim7.holds Tryd.pinned (.plain (OpenSpec.upto frameGetsSpec)) frameGetsUptoCard

/-- THE SECOND FORM's CARD OF 'pappuslaw05.FrameHeads'. -/
def frameHeadsUptoCard : Claim7 := { stood := { row := frameHeadsUptoRow, standIns := [], harness := (true, "6ba64b1f74cac776f3aaa770ef897ded2653d7118b4426ab06e81b683cb840fc"), looks := false }, kinds := [], alts := [], laidByText := true, laidKinds := [.data, .data], laidTests := true, laidLooks := .later }
def FrameHeadsUptoCardSaid : Prop := Claim7.holds Tryd.pinned (.plain (OpenSpec.upto frameHeadsSpec)) frameHeadsUptoCard

/-- THE SECOND FORM's CARD OF 'pappuslaw05.FrameBack'. -/
def frameBackUptoCard : Claim7 := { stood := { row := frameBackUptoRow, standIns := [], harness := (true, "6ba64b1f74cac776f3aaa770ef897ded2653d7118b4426ab06e81b683cb840fc"), looks := false }, kinds := [], alts := [], laidByText := true, laidKinds := [.data, .data], laidTests := true, laidLooks := .later }
def FrameBackUptoCardSaid : Prop := Claim7.holds Tryd.pinned (.plain (OpenSpec.upto frameBackSpec)) frameBackUptoCard

/-- THE SECOND FORM's CARD OF 'pappuslaw05.FrameShort'. -/
def frameShortUptoCard : Claim7 := { stood := { row := frameShortUptoRow, standIns := [], harness := (true, "6ba64b1f74cac776f3aaa770ef897ded2653d7118b4426ab06e81b683cb840fc"), looks := false }, kinds := [], alts := [], laidByText := true, laidKinds := [.data, .data], laidTests := true, laidLooks := .later }
def FrameShortUptoCardSaid : Prop := Claim7.holds Tryd.pinned (.plain (OpenSpec.upto frameShortSpec)) frameShortUptoCard

/-- THE SECOND FORM's CARD OF 'pappuslaw05.FrameTurned'. -/
def frameTurnedUptoCard : Claim7 := { stood := { row := frameTurnedUptoRow, standIns := [], harness := (true, "6ba64b1f74cac776f3aaa770ef897ded2653d7118b4426ab06e81b683cb840fc"), looks := false }, kinds := [], alts := [], laidByText := true, laidKinds := [.data, .data], laidTests := true, laidLooks := .later }
def FrameTurnedUptoCardSaid : Prop := Claim7.holds Tryd.pinned (.plain (OpenSpec.upto frameTurnedSpec)) frameTurnedUptoCard

/-- THE SECOND FORM's CARD OF 'pappuslaw05.FrameNames'. -/
def frameNamesUptoCard : Claim7 := { stood := { row := frameNamesUptoRow, standIns := [], harness := (true, "6ba64b1f74cac776f3aaa770ef897ded2653d7118b4426ab06e81b683cb840fc"), looks := false }, kinds := [], alts := [], laidByText := true, laidKinds := [.data, .data], laidTests := true, laidLooks := .later }
def FrameNamesUptoCardSaid : Prop := Claim7.holds Tryd.pinned (.plain (OpenSpec.upto frameNamesSpec)) frameNamesUptoCard

/-- THE SECOND FORM's CARD OF 'pappuslaw05.FrameLong'. -/
def frameLongUptoCard : Claim7 := { stood := { row := frameLongUptoRow, standIns := [], harness := (true, "6ba64b1f74cac776f3aaa770ef897ded2653d7118b4426ab06e81b683cb840fc"), looks := false }, kinds := [], alts := [], laidByText := true, laidKinds := [.data, .data], laidTests := true, laidLooks := .later }
def FrameLongUptoCardSaid : Prop := Claim7.holds Tryd.pinned (.plain (OpenSpec.upto frameLongSpec)) frameLongUptoCard
end Rows
end Go.Proofs.YtaiblalebeldgaaDoor
