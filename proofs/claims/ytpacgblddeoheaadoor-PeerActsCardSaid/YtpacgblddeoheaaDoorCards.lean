/-
  DERIVED. GIVEN WITH THE SEED: THE CARDS: each row of YtpacgblddeoheaaDoorRows.lean that lists a variable, with what it lists TIED to the program's text (the seventh form; the later family's looks); each row that meets fmt, with fmt's text TOLD by the authors' own Lean function (tested against real Go, not proved from fmt's source: count such statements apart). THE CARD IS WHAT COUNTS. Prove the row's statement (the work); the ties are given (YtpacgblddeoheaaDoorTie.lean); close each card by the builder's one call (the guide's Derived/Test/ToyasCard.lean, 'card_holds'). Laid BY PROGRAM, IN A SANDBOX (cutbox-door.mjs). By AI agents, Wed Nov 11 2026. No macro, syntax, notation, axiom, sorry.
-/
import Derived.Test.YtpacgblddeoheaaDoorRows
import GoSem.ClaimSeven
namespace Go.Proofs.YtpacgblddeoheaaDoor
namespace Rows

/-- THE TIED CARD OF 'pappuslaw22.PeerPieces'. -/
def peerPiecesCard : Claim7 := { stood := { row := peerPiecesRow, standIns := [], harness := (true, "8572700b614fd96df6650d4bcffa478aafefbbfdf3f24f2a195f3a6eaa703373"), looks := false }, kinds := [], alts := [], laidByText := true, laidKinds := [.data, .data], laidTests := true, laidLooks := .later }
def PeerPiecesCardSaid : Prop := Claim7.holds Tryd.pinned (.plain (OpenSpec.ofChange peerPiecesSpec)) peerPiecesCard

/-- THE TIED CARD OF 'pappuslaw22.PeerActs'. -/
def peerActsCard : Claim7 := { stood := { row := peerActsRow, standIns := [], harness := (true, "8572700b614fd96df6650d4bcffa478aafefbbfdf3f24f2a195f3a6eaa703373"), looks := false }, kinds := [], alts := [], laidByText := true, laidKinds := [.data, .data], laidTests := true, laidLooks := .later }
def PeerActsCardSaid : Prop := Claim7.holds Tryd.pinned (.plain (OpenSpec.ofChange peerActsSpec)) peerActsCard

/-- THE TIED CARD OF 'pappuslaw22.PeerMeets'. -/
def peerMeetsCard : Claim7 := { stood := { row := peerMeetsRow, standIns := [], harness := (true, "8572700b614fd96df6650d4bcffa478aafefbbfdf3f24f2a195f3a6eaa703373"), looks := false }, kinds := [], alts := [], laidByText := true, laidKinds := [.data, .data], laidTests := true, laidLooks := .later }
def PeerMeetsCardSaid : Prop := Claim7.holds Tryd.pinned (.plain (OpenSpec.ofChange peerMeetsSpec)) peerMeetsCard

/-- THE TIED CARD OF 'pappuslaw22.PeerLanes'. -/
def peerLanesCard : Claim7 := { stood := { row := peerLanesRow, standIns := [], harness := (true, "8572700b614fd96df6650d4bcffa478aafefbbfdf3f24f2a195f3a6eaa703373"), looks := false }, kinds := [], alts := [], laidByText := true, laidKinds := [.data, .data], laidTests := true, laidLooks := .later }
def PeerLanesCardSaid : Prop := Claim7.holds Tryd.pinned (.plain (OpenSpec.ofChange peerLanesSpec)) peerLanesCard

/-- THE SECOND FORM's CARD OF 'pappuslaw22.PeerPieces'. -/
def peerPiecesUptoCard : Claim7 := { stood := { row := peerPiecesUptoRow, standIns := [], harness := (true, "8572700b614fd96df6650d4bcffa478aafefbbfdf3f24f2a195f3a6eaa703373"), looks := false }, kinds := [], alts := [], laidByText := true, laidKinds := [.data, .data], laidTests := true, laidLooks := .later }
def PeerPiecesUptoCardSaid : Prop := Claim7.holds Tryd.pinned (.plain (OpenSpec.upto peerPiecesSpec)) peerPiecesUptoCard

/-- THE SECOND FORM's CARD OF 'pappuslaw22.PeerActs'. -/
def peerActsUptoCard : Claim7 := { stood := { row := peerActsUptoRow, standIns := [], harness := (true, "8572700b614fd96df6650d4bcffa478aafefbbfdf3f24f2a195f3a6eaa703373"), looks := false }, kinds := [], alts := [], laidByText := true, laidKinds := [.data, .data], laidTests := true, laidLooks := .later }
def PeerActsUptoCardSaid : Prop := Claim7.holds Tryd.pinned (.plain (OpenSpec.upto peerActsSpec)) peerActsUptoCard

/-- THE SECOND FORM's CARD OF 'pappuslaw22.PeerMeets'. -/
def peerMeetsUptoCard : Claim7 := { stood := { row := peerMeetsUptoRow, standIns := [], harness := (true, "8572700b614fd96df6650d4bcffa478aafefbbfdf3f24f2a195f3a6eaa703373"), looks := false }, kinds := [], alts := [], laidByText := true, laidKinds := [.data, .data], laidTests := true, laidLooks := .later }
def PeerMeetsUptoCardSaid : Prop := Claim7.holds Tryd.pinned (.plain (OpenSpec.upto peerMeetsSpec)) peerMeetsUptoCard

/-- THE SECOND FORM's CARD OF 'pappuslaw22.PeerLanes'. -/
def peerLanesUptoCard : Claim7 := { stood := { row := peerLanesUptoRow, standIns := [], harness := (true, "8572700b614fd96df6650d4bcffa478aafefbbfdf3f24f2a195f3a6eaa703373"), looks := false }, kinds := [], alts := [], laidByText := true, laidKinds := [.data, .data], laidTests := true, laidLooks := .later }
def PeerLanesUptoCardSaid : Prop := Claim7.holds Tryd.pinned (.plain (OpenSpec.upto peerLanesSpec)) peerLanesUptoCard
end Rows
end Go.Proofs.YtpacgblddeoheaaDoor
