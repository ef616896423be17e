/-
  DERIVED. GIVEN WITH THE SEED: THE CARDS: each row of YtdlijnfdkeimlaaDoorRows.lean that lists a variable, with what it lists TIED to the program's text (the seventh form; the later family's looks); each row that meets fmt, with fmt's text TOLD by the authors' own Lean function (tested against real Go, not proved from fmt's source: count such statements apart). THE CARD IS WHAT COUNTS. Prove the row's statement (the work); the ties are given (YtdlijnfdkeimlaaDoorTie.lean); close each card by the builder's one call (the guide's Derived/Test/ToyasCard.lean, 'card_holds'). Laid BY PROGRAM, IN A SANDBOX (cutbox-door.mjs). By AI agents, Wed Nov 11 2026. No macro, syntax, notation, axiom, sorry.
-/
import Derived.Test.YtdlijnfdkeimlaaDoorRows
import GoSem.ClaimSeven
namespace Go.Proofs.YtdlijnfdkeimlaaDoor
namespace Rows

/-- THE TIED CARD OF 'casementlaw05.SgrBetween'. -/
def sgrBetweenCard : Claim7 := { stood := { row := sgrBetweenRow, standIns := [], harness := (true, "386913708348a569beab367241aa8b465bbd75b7348d95b15d7bf3628d4dc768"), looks := false }, kinds := [], alts := [], laidByText := true, laidKinds := [.data, .data, .data, .data, .pinned], laidTests := true, laidLooks := .later }
def SgrBetweenCardSaid : Prop := Claim7.holds Tryd.pinned (.plain (OpenSpec.ofChange sgrBetweenSpec)) sgrBetweenCard

/-- THE TIED CARD OF 'casementlaw18.KeysReads'. -/
def keysReadsCard : Claim7 := { stood := { row := keysReadsRow, standIns := [], harness := (true, "386913708348a569beab367241aa8b465bbd75b7348d95b15d7bf3628d4dc768"), looks := false }, kinds := [], alts := [], laidByText := true, laidKinds := [.data, .pinned], laidTests := true, laidLooks := .later }
def KeysReadsCardSaid : Prop := Claim7.holds Tryd.pinned (.plain (OpenSpec.ofChange keysReadsSpec)) keysReadsCard

/-- THE TIED CARD OF 'casementlaw18.KeysNames'. -/
def keysNamesCard : Claim7 := { stood := { row := keysNamesRow, standIns := [], harness := (true, "386913708348a569beab367241aa8b465bbd75b7348d95b15d7bf3628d4dc768"), looks := false }, kinds := [], alts := [], laidByText := true, laidKinds := [.data, .pinned], laidTests := true, laidLooks := .later }
def KeysNamesCardSaid : Prop := Claim7.holds Tryd.pinned (.plain (OpenSpec.ofChange keysNamesSpec)) keysNamesCard

/-- THE TIED CARD OF 'casementlaw18.KeysBack'. -/
def keysBackCard : Claim7 := { stood := { row := keysBackRow, standIns := [], harness := (true, "386913708348a569beab367241aa8b465bbd75b7348d95b15d7bf3628d4dc768"), looks := false }, kinds := [], alts := [], laidByText := true, laidKinds := [.data, .pinned], laidTests := true, laidLooks := .later }
def KeysBackCardSaid : Prop := Claim7.holds Tryd.pinned (.plain (OpenSpec.ofChange keysBackSpec)) keysBackCard

/-- THE TIED CARD OF 'casementlaw18.KeysKept'. -/
def keysKeptCard : Claim7 := { stood := { row := keysKeptRow, standIns := [], harness := (true, "386913708348a569beab367241aa8b465bbd75b7348d95b15d7bf3628d4dc768"), looks := false }, kinds := [], alts := [], laidByText := true, laidKinds := [.data, .pinned], laidTests := true, laidLooks := .later }
def KeysKeptCardSaid : Prop := Claim7.holds Tryd.pinned (.plain (OpenSpec.ofChange keysKeptSpec)) keysKeptCard

/-- THE TIED CARD OF 'casementlaw18.KeysModes'. -/
def keysModesCard : Claim7 := { stood := { row := keysModesRow, standIns := [], harness := (true, "386913708348a569beab367241aa8b465bbd75b7348d95b15d7bf3628d4dc768"), looks := false }, kinds := [], alts := [], laidByText := true, laidKinds := [.data, .pinned], laidTests := true, laidLooks := .later }
def KeysModesCardSaid : Prop := Claim7.holds Tryd.pinned (.plain (OpenSpec.ofChange keysModesSpec)) keysModesCard

/-- THE SECOND FORM's CARD OF 'casementlaw05.SgrBetween'. -/
def sgrBetweenUptoCard : Claim7 := { stood := { row := sgrBetweenUptoRow, standIns := [], harness := (true, "386913708348a569beab367241aa8b465bbd75b7348d95b15d7bf3628d4dc768"), looks := false }, kinds := [], alts := [], laidByText := true, laidKinds := [.data, .data, .data, .data, .pinned], laidTests := true, laidLooks := .later }
def SgrBetweenUptoCardSaid : Prop := Claim7.holds Tryd.pinned (.plain (OpenSpec.upto sgrBetweenSpec)) sgrBetweenUptoCard

/-- THE SECOND FORM's CARD OF 'casementlaw18.KeysReads'. -/
def keysReadsUptoCard : Claim7 := { stood := { row := keysReadsUptoRow, standIns := [], harness := (true, "386913708348a569beab367241aa8b465bbd75b7348d95b15d7bf3628d4dc768"), looks := false }, kinds := [], alts := [], laidByText := true, laidKinds := [.data, .pinned], laidTests := true, laidLooks := .later }
def KeysReadsUptoCardSaid : Prop := Claim7.holds Tryd.pinned (.plain (OpenSpec.upto keysReadsSpec)) keysReadsUptoCard

/-- THE SECOND FORM's CARD OF 'casementlaw18.KeysNames'. -/
def keysNamesUptoCard : Claim7 := { stood := { row := keysNamesUptoRow, standIns := [], harness := (true, "386913708348a569beab367241aa8b465bbd75b7348d95b15d7bf3628d4dc768"), looks := false }, kinds := [], alts := [], laidByText := true, laidKinds := [.data, .pinned], laidTests := true, laidLooks := .later }
def KeysNamesUptoCardSaid : Prop := Claim7.holds Tryd.pinned (.plain (OpenSpec.upto keysNamesSpec)) keysNamesUptoCard

/-- THE SECOND FORM's CARD OF 'casementlaw18.KeysBack'. -/
def keysBackUptoCard : Claim7 := { stood := { row := keysBackUptoRow, standIns := [], harness := (true, "386913708348a569beab367241aa8b465bbd75b7348d95b15d7bf3628d4dc768"), looks := false }, kinds := [], alts := [], laidByText := true, laidKinds := [.data, .pinned], laidTests := true, laidLooks := .later }
def KeysBackUptoCardSaid : Prop := Claim7.holds Tryd.pinned (.plain (OpenSpec.upto keysBackSpec)) keysBackUptoCard

/-- THE SECOND FORM's CARD OF 'casementlaw18.KeysKept'. -/
def keysKeptUptoCard : Claim7 := { stood := { row := keysKeptUptoRow, standIns := [], harness := (true, "386913708348a569beab367241aa8b465bbd75b7348d95b15d7bf3628d4dc768"), looks := false }, kinds := [], alts := [], laidByText := true, laidKinds := [.data, .pinned], laidTests := true, laidLooks := .later }
def KeysKeptUptoCardSaid : Prop := Claim7.holds Tryd.pinned (.plain (OpenSpec.upto keysKeptSpec)) keysKeptUptoCard

/-- THE SECOND FORM's CARD OF 'casementlaw18.KeysModes'. -/
def keysModesUptoCard : Claim7 := { stood := { row := keysModesUptoRow, standIns := [], harness := (true, "386913708348a569beab367241aa8b465bbd75b7348d95b15d7bf3628d4dc768"), looks := false }, kinds := [], alts := [], laidByText := true, laidKinds := [.data, .pinned], laidTests := true, laidLooks := .later }
def KeysModesUptoCardSaid : Prop := Claim7.holds Tryd.pinned (.plain (OpenSpec.upto keysModesSpec)) keysModesUptoCard
end Rows
end Go.Proofs.YtdlijnfdkeimlaaDoor
