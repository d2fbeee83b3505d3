/-
  DERIVED. GIVEN WITH THE SEED: THE CARDS: each row of YtmekgidfdlckoaaDoorRows.lean that lists a variable, with what it lists TIED to the program's text (the seventh form; the later family's looks); each row that meets fmt, with fmt's text TOLD by the authors' own Lean function (tested against real Go, not proved from fmt's source: count such statements apart). THE CARD IS WHAT COUNTS. Prove the row's statement (the work); the ties are given (YtmekgidfdlckoaaDoorTie.lean); close each card by the builder's one call (the guide's Derived/Test/ToyasCard.lean, 'card_holds'). Laid BY PROGRAM, IN A SANDBOX (cutbox-door.mjs). By AI agents, Wed Nov 11 2026. No macro, syntax, notation, axiom, sorry.
-/
import Derived.Test.YtmekgidfdlckoaaDoorRows
import GoSem.ClaimSeven
namespace Go.Proofs.YtmekgidfdlckoaaDoor
namespace Rows

/-- THE TIED CARD OF 'pappuslaw07.TxIds'. -/
def txIdsCard : Claim7 := { stood := { row := txIdsRow, standIns := [], harness := (true, "24133550e02e254952d03a723342bbec08c825ebf0379e2197cc4404a5147bba"), looks := false }, kinds := [], alts := [], laidByText := true, laidKinds := [.data, .data], laidTests := true, laidLooks := .later }
def TxIdsCardSaid : Prop := Claim7.holds Tryd.pinned (.plain (OpenSpec.ofChange txIdsSpec)) txIdsCard

/-- THE TIED CARD OF 'pappuslaw07.TxPuts'. -/
def txPutsCard : Claim7 := { stood := { row := txPutsRow, standIns := [], harness := (true, "24133550e02e254952d03a723342bbec08c825ebf0379e2197cc4404a5147bba"), looks := false }, kinds := [], alts := [], laidByText := true, laidKinds := [.data, .data], laidTests := true, laidLooks := .later }
def TxPutsCardSaid : Prop := Claim7.holds Tryd.pinned (.plain (OpenSpec.ofChange txPutsSpec)) txPutsCard

/-- THE SECOND FORM's CARD OF 'pappuslaw07.TxIds'. -/
def txIdsUptoCard : Claim7 := { stood := { row := txIdsUptoRow, standIns := [], harness := (true, "24133550e02e254952d03a723342bbec08c825ebf0379e2197cc4404a5147bba"), looks := false }, kinds := [], alts := [], laidByText := true, laidKinds := [.data, .data], laidTests := true, laidLooks := .later }
def TxIdsUptoCardSaid : Prop := Claim7.holds Tryd.pinned (.plain (OpenSpec.upto txIdsSpec)) txIdsUptoCard

/-- THE SECOND FORM's CARD OF 'pappuslaw07.TxPuts'. -/
def txPutsUptoCard : Claim7 := { stood := { row := txPutsUptoRow, standIns := [], harness := (true, "24133550e02e254952d03a723342bbec08c825ebf0379e2197cc4404a5147bba"), looks := false }, kinds := [], alts := [], laidByText := true, laidKinds := [.data, .data], laidTests := true, laidLooks := .later }
def TxPutsUptoCardSaid : Prop := Claim7.holds Tryd.pinned (.plain (OpenSpec.upto txPutsSpec)) txPutsUptoCard
end Rows
end Go.Proofs.YtmekgidfdlckoaaDoor
