/-
  DERIVED. GIVEN WITH THE SEED: THE CARDS: each row of YteebehmmfkapgaaDoorRows.lean that lists a variable, with what it lists TIED to the program's text (the seventh form; the later family's looks); each row that meets fmt, with fmt's text TOLD by the authors' own Lean function (tested against real Go, not proved from fmt's source: count such statements apart). THE CARD IS WHAT COUNTS. Prove the row's statement (the work); the ties are given (YteebehmmfkapgaaDoorTie.lean); close each card by the builder's one call (the guide's Derived/Test/ToyasCard.lean, 'card_holds'). Laid BY PROGRAM, IN A SANDBOX (cutbox-door.mjs). By AI agents, Wed Nov 11 2026. No macro, syntax, notation, axiom, sorry.
-/
import Derived.Test.YteebehmmfkapgaaDoorRows
import GoSem.ClaimSeven
namespace Go.Proofs.YteebehmmfkapgaaDoor
namespace Rows

/-- THE TIED CARD OF 'pappuslaw06.FlowItems'. -/
def flowItemsCard : Claim7 := { stood := { row := flowItemsRow, standIns := [], harness := (true, "c39cea8188675ab11260ca04f9c1ce8f3bb6c1f4b6ff9e1df711ca74028ff0fa"), looks := false }, kinds := [], alts := [], laidByText := true, laidKinds := [.data, .data], laidTests := true, laidLooks := .later }
def FlowItemsCardSaid : Prop := Claim7.holds Tryd.pinned (.plain (OpenSpec.ofChange flowItemsSpec)) flowItemsCard

/-- THE TIED CARD OF 'pappuslaw06.FlowPieces'. -/
def flowPiecesCard : Claim7 := { stood := { row := flowPiecesRow, standIns := [], harness := (true, "c39cea8188675ab11260ca04f9c1ce8f3bb6c1f4b6ff9e1df711ca74028ff0fa"), looks := false }, kinds := [], alts := [], laidByText := true, laidKinds := [.data, .data], laidTests := true, laidLooks := .later }
def FlowPiecesCardSaid : Prop := Claim7.holds Tryd.pinned (.plain (OpenSpec.ofChange flowPiecesSpec)) flowPiecesCard

/-- THE TIED CARD OF 'pappuslaw06.FlowBack'. -/
def flowBackCard : Claim7 := { stood := { row := flowBackRow, standIns := [], harness := (true, "c39cea8188675ab11260ca04f9c1ce8f3bb6c1f4b6ff9e1df711ca74028ff0fa"), looks := false }, kinds := [], alts := [], laidByText := true, laidKinds := [.data, .data], laidTests := true, laidLooks := .later }
def FlowBackCardSaid : Prop := Claim7.holds Tryd.pinned (.plain (OpenSpec.ofChange flowBackSpec)) flowBackCard

/-- THE TIED CARD OF 'pappuslaw06.FlowSpoilt'. -/
def flowSpoiltCard : Claim7 := { stood := { row := flowSpoiltRow, standIns := [], harness := (true, "c39cea8188675ab11260ca04f9c1ce8f3bb6c1f4b6ff9e1df711ca74028ff0fa"), looks := false }, kinds := [], alts := [], laidByText := true, laidKinds := [.data, .data], laidTests := true, laidLooks := .later }
def FlowSpoiltCardSaid : Prop := Claim7.holds Tryd.pinned (.plain (OpenSpec.ofChange flowSpoiltSpec)) flowSpoiltCard

/-- THE TIED CARD OF 'pappuslaw06.FlowDies'. -/
def flowDiesCard : Claim7 := { stood := { row := flowDiesRow, standIns := [], harness := (true, "c39cea8188675ab11260ca04f9c1ce8f3bb6c1f4b6ff9e1df711ca74028ff0fa"), looks := false }, kinds := [], alts := [], laidByText := true, laidKinds := [.data, .data], laidTests := true, laidLooks := .later }
def FlowDiesCardSaid : Prop := Claim7.holds Tryd.pinned (.plain (OpenSpec.ofChange flowDiesSpec)) flowDiesCard

/-- THE TIED CARD OF 'pappuslaw06.FlowHolds'. -/
def flowHoldsCard : Claim7 := { stood := { row := flowHoldsRow, standIns := [], harness := (true, "c39cea8188675ab11260ca04f9c1ce8f3bb6c1f4b6ff9e1df711ca74028ff0fa"), looks := false }, kinds := [], alts := [], laidByText := true, laidKinds := [.data, .data], laidTests := true, laidLooks := .later }
def FlowHoldsCardSaid : Prop := Claim7.holds Tryd.pinned (.plain (OpenSpec.ofChange flowHoldsSpec)) flowHoldsCard

/-- THE TIED CARD OF 'pappuslaw06.FlowKeeps'. -/
def flowKeepsCard : Claim7 := { stood := { row := flowKeepsRow, standIns := [], harness := (true, "c39cea8188675ab11260ca04f9c1ce8f3bb6c1f4b6ff9e1df711ca74028ff0fa"), looks := false }, kinds := [], alts := [], laidByText := true, laidKinds := [.data, .data], laidTests := true, laidLooks := .later }
def FlowKeepsCardSaid : Prop := Claim7.holds Tryd.pinned (.plain (OpenSpec.ofChange flowKeepsSpec)) flowKeepsCard

/-- THE SECOND FORM's CARD OF 'pappuslaw06.FlowItems'. -/
def flowItemsUptoCard : Claim7 := { stood := { row := flowItemsUptoRow, standIns := [], harness := (true, "c39cea8188675ab11260ca04f9c1ce8f3bb6c1f4b6ff9e1df711ca74028ff0fa"), looks := false }, kinds := [], alts := [], laidByText := true, laidKinds := [.data, .data], laidTests := true, laidLooks := .later }
def FlowItemsUptoCardSaid : Prop := Claim7.holds Tryd.pinned (.plain (OpenSpec.upto flowItemsSpec)) flowItemsUptoCard

/-- THE SECOND FORM's CARD OF 'pappuslaw06.FlowPieces'. -/
def flowPiecesUptoCard : Claim7 := { stood := { row := flowPiecesUptoRow, standIns := [], harness := (true, "c39cea8188675ab11260ca04f9c1ce8f3bb6c1f4b6ff9e1df711ca74028ff0fa"), looks := false }, kinds := [], alts := [], laidByText := true, laidKinds := [.data, .data], laidTests := true, laidLooks := .later }
def FlowPiecesUptoCardSaid : Prop := Claim7.holds Tryd.pinned (.plain (OpenSpec.upto flowPiecesSpec)) flowPiecesUptoCard

/-- THE SECOND FORM's CARD OF 'pappuslaw06.FlowBack'. -/
def flowBackUptoCard : Claim7 := { stood := { row := flowBackUptoRow, standIns := [], harness := (true, "c39cea8188675ab11260ca04f9c1ce8f3bb6c1f4b6ff9e1df711ca74028ff0fa"), looks := false }, kinds := [], alts := [], laidByText := true, laidKinds := [.data, .data], laidTests := true, laidLooks := .later }
def FlowBackUptoCardSaid : Prop := Claim7.holds Tryd.pinned (.plain (OpenSpec.upto flowBackSpec)) flowBackUptoCard

/-- THE SECOND FORM's CARD OF 'pappuslaw06.FlowSpoilt'. -/
def flowSpoiltUptoCard : Claim7 := { stood := { row := flowSpoiltUptoRow, standIns := [], harness := (true, "c39cea8188675ab11260ca04f9c1ce8f3bb6c1f4b6ff9e1df711ca74028ff0fa"), looks := false }, kinds := [], alts := [], laidByText := true, laidKinds := [.data, .data], laidTests := true, laidLooks := .later }
def FlowSpoiltUptoCardSaid : Prop := Claim7.holds Tryd.pinned (.plain (OpenSpec.upto flowSpoiltSpec)) flowSpoiltUptoCard

/-- THE SECOND FORM's CARD OF 'pappuslaw06.FlowDies'. -/
def flowDiesUptoCard : Claim7 := { stood := { row := flowDiesUptoRow, standIns := [], harness := (true, "c39cea8188675ab11260ca04f9c1ce8f3bb6c1f4b6ff9e1df711ca74028ff0fa"), looks := false }, kinds := [], alts := [], laidByText := true, laidKinds := [.data, .data], laidTests := true, laidLooks := .later }
def FlowDiesUptoCardSaid : Prop := Claim7.holds Tryd.pinned (.plain (OpenSpec.upto flowDiesSpec)) flowDiesUptoCard

/-- THE SECOND FORM's CARD OF 'pappuslaw06.FlowHolds'. -/
def flowHoldsUptoCard : Claim7 := { stood := { row := flowHoldsUptoRow, standIns := [], harness := (true, "c39cea8188675ab11260ca04f9c1ce8f3bb6c1f4b6ff9e1df711ca74028ff0fa"), looks := false }, kinds := [], alts := [], laidByText := true, laidKinds := [.data, .data], laidTests := true, laidLooks := .later }
def FlowHoldsUptoCardSaid : Prop := Claim7.holds Tryd.pinned (.plain (OpenSpec.upto flowHoldsSpec)) flowHoldsUptoCard

/-- THE SECOND FORM's CARD OF 'pappuslaw06.FlowKeeps'. -/
def flowKeepsUptoCard : Claim7 := { stood := { row := flowKeepsUptoRow, standIns := [], harness := (true, "c39cea8188675ab11260ca04f9c1ce8f3bb6c1f4b6ff9e1df711ca74028ff0fa"), looks := false }, kinds := [], alts := [], laidByText := true, laidKinds := [.data, .data], laidTests := true, laidLooks := .later }
def FlowKeepsUptoCardSaid : Prop := Claim7.holds Tryd.pinned (.plain (OpenSpec.upto flowKeepsSpec)) flowKeepsUptoCard
end Rows
end Go.Proofs.YteebehmmfkapgaaDoor
