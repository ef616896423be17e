/-
  DERIVED. GIVEN WITH THE SEED: THE CARDS: each row of YtakdnfneikbjjaaGreatDoorRows.lean that lists a variable, with what it lists TIED to the program's text (the seventh form; the later family's looks); each row that meets fmt, with fmt's text TOLD by the authors' own Lean function (tested against real Go, not proved from fmt's source: count such statements apart). THE CARD IS WHAT COUNTS. Prove the row's statement (the work); the ties are given (YtakdnfneikbjjaaGreatDoorTie.lean); close each card by the builder's one call (the guide's Derived/Test/ToyasCard.lean, 'card_holds'). Laid BY PROGRAM, IN A SANDBOX (cutbox-door.mjs). By AI agents, Wed Nov 11 2026. No macro, syntax, notation, axiom, sorry.
-/
import Derived.Test.YtakdnfneikbjjaaGreatDoorRows
import GoSem.ClaimSeven
namespace Go.Proofs.YtakdnfneikbjjaaGreatDoor
namespace Rows

/-- THE TIED CARD OF 'casementlaw10.LayoutPlays'. -/
def layoutPlaysCard : Claim7 := { stood := { row := layoutPlaysRow, standIns := [], harness := (true, "8afe1840704072b9505077a921fbe91fbdc428dfe354366d4bb1c08596645a4e"), looks := true }, kinds := [], alts := [], laidByText := true, laidKinds := [.data, .data, .data, .sentinel, .sentinel], laidTests := true, laidLooks := .later }
def LayoutPlaysCardSaid : Prop := Claim7.holds Tryz.pinned (.plain (OpenSpec.ofChange layoutPlaysSpec)) layoutPlaysCard

/-- THE TIED CARD OF 'casementlaw10.LayoutReads'. -/
def layoutReadsCard : Claim7 := { stood := { row := layoutReadsRow, standIns := [], harness := (true, "8afe1840704072b9505077a921fbe91fbdc428dfe354366d4bb1c08596645a4e"), looks := true }, kinds := [], alts := [], laidByText := true, laidKinds := [.data, .data, .data, .sentinel, .sentinel], laidTests := true, laidLooks := .later }
def LayoutReadsCardSaid : Prop := Claim7.holds Tryz.pinned (.plain (OpenSpec.ofChange layoutReadsSpec)) layoutReadsCard

/-- THE TIED CARD OF 'casementlaw10.LayoutTexts'. -/
def layoutTextsCard : Claim7 := { stood := { row := layoutTextsRow, standIns := [], harness := (true, "8afe1840704072b9505077a921fbe91fbdc428dfe354366d4bb1c08596645a4e"), looks := true }, kinds := [], alts := [], laidByText := true, laidKinds := [.data, .data, .data, .sentinel, .sentinel], laidTests := true, laidLooks := .later }
def LayoutTextsCardSaid : Prop := Claim7.holds Tryz.pinned (.plain (OpenSpec.ofChange layoutTextsSpec)) layoutTextsCard

/-- THE TIED CARD OF 'casementlaw10.LayoutFinds'. -/
def layoutFindsCard : Claim7 := { stood := { row := layoutFindsRow, standIns := [], harness := (true, "8afe1840704072b9505077a921fbe91fbdc428dfe354366d4bb1c08596645a4e"), looks := true }, kinds := [], alts := [], laidByText := true, laidKinds := [.data, .data, .data, .sentinel, .sentinel], laidTests := true, laidLooks := .later }
def LayoutFindsCardSaid : Prop := Claim7.holds Tryz.pinned (.plain (OpenSpec.ofChange layoutFindsSpec)) layoutFindsCard

/-- THE TIED CARD OF 'casementlaw10.LayoutStacks'. -/
def layoutStacksCard : Claim7 := { stood := { row := layoutStacksRow, standIns := [], harness := (true, "8afe1840704072b9505077a921fbe91fbdc428dfe354366d4bb1c08596645a4e"), looks := true }, kinds := [], alts := [], laidByText := true, laidKinds := [.data, .data, .data, .sentinel, .sentinel], laidTests := true, laidLooks := .later }
def LayoutStacksCardSaid : Prop := Claim7.holds Tryz.pinned (.plain (OpenSpec.ofChange layoutStacksSpec)) layoutStacksCard

/-- THE TIED CARD OF 'casementlaw10.LayoutSplits'. -/
def layoutSplitsCard : Claim7 := { stood := { row := layoutSplitsRow, standIns := [], harness := (true, "8afe1840704072b9505077a921fbe91fbdc428dfe354366d4bb1c08596645a4e"), looks := true }, kinds := [], alts := [], laidByText := true, laidKinds := [.data, .data, .data, .sentinel, .sentinel], laidTests := true, laidLooks := .later }
def LayoutSplitsCardSaid : Prop := Claim7.holds Tryz.pinned (.plain (OpenSpec.ofChange layoutSplitsSpec)) layoutSplitsCard

/-- THE TIED CARD OF 'casementlaw10.LayoutMoves'. -/
def layoutMovesCard : Claim7 := { stood := { row := layoutMovesRow, standIns := [], harness := (true, "8afe1840704072b9505077a921fbe91fbdc428dfe354366d4bb1c08596645a4e"), looks := true }, kinds := [], alts := [], laidByText := true, laidKinds := [.data, .data, .data, .sentinel, .sentinel], laidTests := true, laidLooks := .later }
def LayoutMovesCardSaid : Prop := Claim7.holds Tryz.pinned (.plain (OpenSpec.ofChange layoutMovesSpec)) layoutMovesCard

/-- THE TIED CARD OF 'casementlaw10.LayoutCovers'. -/
def layoutCoversCard : Claim7 := { stood := { row := layoutCoversRow, standIns := [], harness := (true, "8afe1840704072b9505077a921fbe91fbdc428dfe354366d4bb1c08596645a4e"), looks := true }, kinds := [], alts := [], laidByText := true, laidKinds := [.data, .data, .data, .sentinel, .sentinel], laidTests := true, laidLooks := .later }
def LayoutCoversCardSaid : Prop := Claim7.holds Tryz.pinned (.plain (OpenSpec.ofChange layoutCoversSpec)) layoutCoversCard

/-- THE SECOND FORM's CARD OF 'casementlaw10.LayoutPlays'. -/
def layoutPlaysUptoCard : Claim7 := { stood := { row := layoutPlaysUptoRow, standIns := [], harness := (true, "8afe1840704072b9505077a921fbe91fbdc428dfe354366d4bb1c08596645a4e"), looks := true }, kinds := [], alts := [], laidByText := true, laidKinds := [.data, .data, .data, .sentinel, .sentinel], laidTests := true, laidLooks := .later }
def LayoutPlaysUptoCardSaid : Prop := Claim7.holds Tryz.pinned (.plain (OpenSpec.upto layoutPlaysSpec)) layoutPlaysUptoCard

/-- THE SECOND FORM's CARD OF 'casementlaw10.LayoutReads'. -/
def layoutReadsUptoCard : Claim7 := { stood := { row := layoutReadsUptoRow, standIns := [], harness := (true, "8afe1840704072b9505077a921fbe91fbdc428dfe354366d4bb1c08596645a4e"), looks := true }, kinds := [], alts := [], laidByText := true, laidKinds := [.data, .data, .data, .sentinel, .sentinel], laidTests := true, laidLooks := .later }
def LayoutReadsUptoCardSaid : Prop := Claim7.holds Tryz.pinned (.plain (OpenSpec.upto layoutReadsSpec)) layoutReadsUptoCard

/-- THE SECOND FORM's CARD OF 'casementlaw10.LayoutTexts'. -/
def layoutTextsUptoCard : Claim7 := { stood := { row := layoutTextsUptoRow, standIns := [], harness := (true, "8afe1840704072b9505077a921fbe91fbdc428dfe354366d4bb1c08596645a4e"), looks := true }, kinds := [], alts := [], laidByText := true, laidKinds := [.data, .data, .data, .sentinel, .sentinel], laidTests := true, laidLooks := .later }
def LayoutTextsUptoCardSaid : Prop := Claim7.holds Tryz.pinned (.plain (OpenSpec.upto layoutTextsSpec)) layoutTextsUptoCard

/-- THE SECOND FORM's CARD OF 'casementlaw10.LayoutFinds'. -/
def layoutFindsUptoCard : Claim7 := { stood := { row := layoutFindsUptoRow, standIns := [], harness := (true, "8afe1840704072b9505077a921fbe91fbdc428dfe354366d4bb1c08596645a4e"), looks := true }, kinds := [], alts := [], laidByText := true, laidKinds := [.data, .data, .data, .sentinel, .sentinel], laidTests := true, laidLooks := .later }
def LayoutFindsUptoCardSaid : Prop := Claim7.holds Tryz.pinned (.plain (OpenSpec.upto layoutFindsSpec)) layoutFindsUptoCard

/-- THE SECOND FORM's CARD OF 'casementlaw10.LayoutStacks'. -/
def layoutStacksUptoCard : Claim7 := { stood := { row := layoutStacksUptoRow, standIns := [], harness := (true, "8afe1840704072b9505077a921fbe91fbdc428dfe354366d4bb1c08596645a4e"), looks := true }, kinds := [], alts := [], laidByText := true, laidKinds := [.data, .data, .data, .sentinel, .sentinel], laidTests := true, laidLooks := .later }
def LayoutStacksUptoCardSaid : Prop := Claim7.holds Tryz.pinned (.plain (OpenSpec.upto layoutStacksSpec)) layoutStacksUptoCard

/-- THE SECOND FORM's CARD OF 'casementlaw10.LayoutSplits'. -/
def layoutSplitsUptoCard : Claim7 := { stood := { row := layoutSplitsUptoRow, standIns := [], harness := (true, "8afe1840704072b9505077a921fbe91fbdc428dfe354366d4bb1c08596645a4e"), looks := true }, kinds := [], alts := [], laidByText := true, laidKinds := [.data, .data, .data, .sentinel, .sentinel], laidTests := true, laidLooks := .later }
def LayoutSplitsUptoCardSaid : Prop := Claim7.holds Tryz.pinned (.plain (OpenSpec.upto layoutSplitsSpec)) layoutSplitsUptoCard

/-- THE SECOND FORM's CARD OF 'casementlaw10.LayoutMoves'. -/
def layoutMovesUptoCard : Claim7 := { stood := { row := layoutMovesUptoRow, standIns := [], harness := (true, "8afe1840704072b9505077a921fbe91fbdc428dfe354366d4bb1c08596645a4e"), looks := true }, kinds := [], alts := [], laidByText := true, laidKinds := [.data, .data, .data, .sentinel, .sentinel], laidTests := true, laidLooks := .later }
def LayoutMovesUptoCardSaid : Prop := Claim7.holds Tryz.pinned (.plain (OpenSpec.upto layoutMovesSpec)) layoutMovesUptoCard

/-- THE SECOND FORM's CARD OF 'casementlaw10.LayoutCovers'. -/
def layoutCoversUptoCard : Claim7 := { stood := { row := layoutCoversUptoRow, standIns := [], harness := (true, "8afe1840704072b9505077a921fbe91fbdc428dfe354366d4bb1c08596645a4e"), looks := true }, kinds := [], alts := [], laidByText := true, laidKinds := [.data, .data, .data, .sentinel, .sentinel], laidTests := true, laidLooks := .later }
def LayoutCoversUptoCardSaid : Prop := Claim7.holds Tryz.pinned (.plain (OpenSpec.upto layoutCoversSpec)) layoutCoversUptoCard
end Rows
end Go.Proofs.YtakdnfneikbjjaaGreatDoor
