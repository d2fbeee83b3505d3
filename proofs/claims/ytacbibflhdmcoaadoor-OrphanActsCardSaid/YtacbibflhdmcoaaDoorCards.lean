/-
  DERIVED. GIVEN WITH THE SEED: THE CARDS: each row of YtacbibflhdmcoaaDoorRows.lean that lists a variable, with what it lists TIED to the program's text (the seventh form; the later family's looks); each row that meets fmt, with fmt's text TOLD by the authors' own Lean function (tested against real Go, not proved from fmt's source: count such statements apart). THE CARD IS WHAT COUNTS. Prove the row's statement (the work); the ties are given (YtacbibflhdmcoaaDoorTie.lean); close each card by the builder's one call (the guide's Derived/Test/ToyasCard.lean, 'card_holds'). Laid BY PROGRAM, IN A SANDBOX (cutbox-door.mjs). By AI agents, Wed Nov 11 2026. No macro, syntax, notation, axiom, sorry.
-/
import Derived.Test.YtacbibflhdmcoaaDoorRows
import GoSem.ClaimSeven
namespace Go.Proofs.YtacbibflhdmcoaaDoor
namespace Rows

/-- THE TIED CARD OF 'pappuslaw14.OrphanActs'. -/
def orphanActsCard : Claim7 := { stood := { row := orphanActsRow, standIns := [], harness := (true, "1bc3098c480a362a7798908b0cfd7c5ea96215eee67377f5206eee10803b3ed7"), looks := false }, kinds := [], alts := [], laidByText := true, laidKinds := [.data, .data], laidTests := true, laidLooks := .later }
def OrphanActsCardSaid : Prop := Claim7.holds Tryd.pinned (.plain (OpenSpec.ofChange orphanActsSpec)) orphanActsCard

/-- THE TIED CARD OF 'pappuslaw14.OrphanFew'. -/
def orphanFewCard : Claim7 := { stood := { row := orphanFewRow, standIns := [], harness := (true, "1bc3098c480a362a7798908b0cfd7c5ea96215eee67377f5206eee10803b3ed7"), looks := false }, kinds := [], alts := [], laidByText := true, laidKinds := [.data, .data], laidTests := true, laidLooks := .later }
def OrphanFewCardSaid : Prop := Claim7.holds Tryd.pinned (.plain (OpenSpec.ofChange orphanFewSpec)) orphanFewCard

/-- THE TIED CARD OF 'pappuslaw14.OrphanAdds'. -/
def orphanAddsCard : Claim7 := { stood := { row := orphanAddsRow, standIns := [], harness := (true, "1bc3098c480a362a7798908b0cfd7c5ea96215eee67377f5206eee10803b3ed7"), looks := false }, kinds := [], alts := [], laidByText := true, laidKinds := [.data, .data], laidTests := true, laidLooks := .later }
def OrphanAddsCardSaid : Prop := Claim7.holds Tryd.pinned (.plain (OpenSpec.ofChange orphanAddsSpec)) orphanAddsCard

/-- THE TIED CARD OF 'pappuslaw14.OrphanLeaves'. -/
def orphanLeavesCard : Claim7 := { stood := { row := orphanLeavesRow, standIns := [], harness := (true, "1bc3098c480a362a7798908b0cfd7c5ea96215eee67377f5206eee10803b3ed7"), looks := false }, kinds := [], alts := [], laidByText := true, laidKinds := [.data, .data], laidTests := true, laidLooks := .later }
def OrphanLeavesCardSaid : Prop := Claim7.holds Tryd.pinned (.plain (OpenSpec.ofChange orphanLeavesSpec)) orphanLeavesCard

/-- THE TIED CARD OF 'pappuslaw14.OrphanApart'. -/
def orphanApartCard : Claim7 := { stood := { row := orphanApartRow, standIns := [], harness := (true, "1bc3098c480a362a7798908b0cfd7c5ea96215eee67377f5206eee10803b3ed7"), looks := false }, kinds := [], alts := [], laidByText := true, laidKinds := [.data, .data], laidTests := true, laidLooks := .later }
def OrphanApartCardSaid : Prop := Claim7.holds Tryd.pinned (.plain (OpenSpec.ofChange orphanApartSpec)) orphanApartCard

/-- THE TIED CARD OF 'pappuslaw14.OrphanComes'. -/
def orphanComesCard : Claim7 := { stood := { row := orphanComesRow, standIns := [], harness := (true, "1bc3098c480a362a7798908b0cfd7c5ea96215eee67377f5206eee10803b3ed7"), looks := false }, kinds := [], alts := [], laidByText := true, laidKinds := [.data, .data], laidTests := true, laidLooks := .later }
def OrphanComesCardSaid : Prop := Claim7.holds Tryd.pinned (.plain (OpenSpec.ofChange orphanComesSpec)) orphanComesCard

/-- THE SECOND FORM's CARD OF 'pappuslaw14.OrphanActs'. -/
def orphanActsUptoCard : Claim7 := { stood := { row := orphanActsUptoRow, standIns := [], harness := (true, "1bc3098c480a362a7798908b0cfd7c5ea96215eee67377f5206eee10803b3ed7"), looks := false }, kinds := [], alts := [], laidByText := true, laidKinds := [.data, .data], laidTests := true, laidLooks := .later }
def OrphanActsUptoCardSaid : Prop := Claim7.holds Tryd.pinned (.plain (OpenSpec.upto orphanActsSpec)) orphanActsUptoCard

/-- THE SECOND FORM's CARD OF 'pappuslaw14.OrphanFew'. -/
def orphanFewUptoCard : Claim7 := { stood := { row := orphanFewUptoRow, standIns := [], harness := (true, "1bc3098c480a362a7798908b0cfd7c5ea96215eee67377f5206eee10803b3ed7"), looks := false }, kinds := [], alts := [], laidByText := true, laidKinds := [.data, .data], laidTests := true, laidLooks := .later }
def OrphanFewUptoCardSaid : Prop := Claim7.holds Tryd.pinned (.plain (OpenSpec.upto orphanFewSpec)) orphanFewUptoCard

/-- THE SECOND FORM's CARD OF 'pappuslaw14.OrphanAdds'. -/
def orphanAddsUptoCard : Claim7 := { stood := { row := orphanAddsUptoRow, standIns := [], harness := (true, "1bc3098c480a362a7798908b0cfd7c5ea96215eee67377f5206eee10803b3ed7"), looks := false }, kinds := [], alts := [], laidByText := true, laidKinds := [.data, .data], laidTests := true, laidLooks := .later }
def OrphanAddsUptoCardSaid : Prop := Claim7.holds Tryd.pinned (.plain (OpenSpec.upto orphanAddsSpec)) orphanAddsUptoCard

/-- THE SECOND FORM's CARD OF 'pappuslaw14.OrphanLeaves'. -/
def orphanLeavesUptoCard : Claim7 := { stood := { row := orphanLeavesUptoRow, standIns := [], harness := (true, "1bc3098c480a362a7798908b0cfd7c5ea96215eee67377f5206eee10803b3ed7"), looks := false }, kinds := [], alts := [], laidByText := true, laidKinds := [.data, .data], laidTests := true, laidLooks := .later }
def OrphanLeavesUptoCardSaid : Prop := Claim7.holds Tryd.pinned (.plain (OpenSpec.upto orphanLeavesSpec)) orphanLeavesUptoCard

/-- THE SECOND FORM's CARD OF 'pappuslaw14.OrphanApart'. -/
def orphanApartUptoCard : Claim7 := { stood := { row := orphanApartUptoRow, standIns := [], harness := (true, "1bc3098c480a362a7798908b0cfd7c5ea96215eee67377f5206eee10803b3ed7"), looks := false }, kinds := [], alts := [], laidByText := true, laidKinds := [.data, .data], laidTests := true, laidLooks := .later }
def OrphanApartUptoCardSaid : Prop := Claim7.holds Tryd.pinned (.plain (OpenSpec.upto orphanApartSpec)) orphanApartUptoCard

/-- THE SECOND FORM's CARD OF 'pappuslaw14.OrphanComes'. -/
def orphanComesUptoCard : Claim7 := { stood := { row := orphanComesUptoRow, standIns := [], harness := (true, "1bc3098c480a362a7798908b0cfd7c5ea96215eee67377f5206eee10803b3ed7"), looks := false }, kinds := [], alts := [], laidByText := true, laidKinds := [.data, .data], laidTests := true, laidLooks := .later }
def OrphanComesUptoCardSaid : Prop := Claim7.holds Tryd.pinned (.plain (OpenSpec.upto orphanComesSpec)) orphanComesUptoCard
end Rows
end Go.Proofs.YtacbibflhdmcoaaDoor
