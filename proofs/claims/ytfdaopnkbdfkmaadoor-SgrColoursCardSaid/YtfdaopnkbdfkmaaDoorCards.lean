/-
  DERIVED. GIVEN WITH THE SEED: THE CARDS: each row of YtfdaopnkbdfkmaaDoorRows.lean that lists a variable, with what it lists TIED to the program's text (the seventh form; the later family's looks); each row that meets fmt, with fmt's text TOLD by the authors' own Lean function (tested against real Go, not proved from fmt's source: count such statements apart). THE CARD IS WHAT COUNTS. Prove the row's statement (the work); the ties are given (YtfdaopnkbdfkmaaDoorTie.lean); close each card by the builder's one call (the guide's Derived/Test/ToyasCard.lean, 'card_holds'). Laid BY PROGRAM, IN A SANDBOX (cutbox-door.mjs). By AI agents, Wed Nov 11 2026. No macro, syntax, notation, axiom, sorry.
-/
import Derived.Test.YtfdaopnkbdfkmaaDoorRows
import GoSem.ClaimSeven
namespace Go.Proofs.YtfdaopnkbdfkmaaDoor
namespace Rows

/-- THE TIED CARD OF 'casementlaw05.SgrPlays'. -/
def sgrPlaysCard : Claim7 := { stood := { row := sgrPlaysRow, standIns := [], harness := (true, "a064db53ec2fe8500497ade1b65f6e090db8c4e32b67b93885e7e4f622509449"), looks := false }, kinds := [], alts := [], laidByText := true, laidKinds := [.data, .data, .data], laidTests := true, laidLooks := .later }
def SgrPlaysCardSaid : Prop := Claim7.holds Tryd.pinned (.plain (OpenSpec.ofChange sgrPlaysSpec)) sgrPlaysCard

/-- THE TIED CARD OF 'casementlaw05.SgrMakes'. -/
def sgrMakesCard : Claim7 := { stood := { row := sgrMakesRow, standIns := [], harness := (true, "a064db53ec2fe8500497ade1b65f6e090db8c4e32b67b93885e7e4f622509449"), looks := false }, kinds := [], alts := [], laidByText := true, laidKinds := [.data, .data, .data], laidTests := true, laidLooks := .later }
def SgrMakesCardSaid : Prop := Claim7.holds Tryd.pinned (.plain (OpenSpec.ofChange sgrMakesSpec)) sgrMakesCard

/-- THE TIED CARD OF 'casementlaw05.SgrSteps'. -/
def sgrStepsCard : Claim7 := { stood := { row := sgrStepsRow, standIns := [], harness := (true, "a064db53ec2fe8500497ade1b65f6e090db8c4e32b67b93885e7e4f622509449"), looks := false }, kinds := [], alts := [], laidByText := true, laidKinds := [.data, .data, .data], laidTests := true, laidLooks := .later }
def SgrStepsCardSaid : Prop := Claim7.holds Tryd.pinned (.plain (OpenSpec.ofChange sgrStepsSpec)) sgrStepsCard

/-- THE TIED CARD OF 'casementlaw05.SgrColours'. -/
def sgrColoursCard : Claim7 := { stood := { row := sgrColoursRow, standIns := [], harness := (true, "a064db53ec2fe8500497ade1b65f6e090db8c4e32b67b93885e7e4f622509449"), looks := false }, kinds := [], alts := [], laidByText := true, laidKinds := [.data, .data, .data], laidTests := true, laidLooks := .later }
def SgrColoursCardSaid : Prop := Claim7.holds Tryd.pinned (.plain (OpenSpec.ofChange sgrColoursSpec)) sgrColoursCard

/-- THE SECOND FORM's CARD OF 'casementlaw05.SgrPlays'. -/
def sgrPlaysUptoCard : Claim7 := { stood := { row := sgrPlaysUptoRow, standIns := [], harness := (true, "a064db53ec2fe8500497ade1b65f6e090db8c4e32b67b93885e7e4f622509449"), looks := false }, kinds := [], alts := [], laidByText := true, laidKinds := [.data, .data, .data], laidTests := true, laidLooks := .later }
def SgrPlaysUptoCardSaid : Prop := Claim7.holds Tryd.pinned (.plain (OpenSpec.upto sgrPlaysSpec)) sgrPlaysUptoCard

/-- THE SECOND FORM's CARD OF 'casementlaw05.SgrMakes'. -/
def sgrMakesUptoCard : Claim7 := { stood := { row := sgrMakesUptoRow, standIns := [], harness := (true, "a064db53ec2fe8500497ade1b65f6e090db8c4e32b67b93885e7e4f622509449"), looks := false }, kinds := [], alts := [], laidByText := true, laidKinds := [.data, .data, .data], laidTests := true, laidLooks := .later }
def SgrMakesUptoCardSaid : Prop := Claim7.holds Tryd.pinned (.plain (OpenSpec.upto sgrMakesSpec)) sgrMakesUptoCard

/-- THE SECOND FORM's CARD OF 'casementlaw05.SgrSteps'. -/
def sgrStepsUptoCard : Claim7 := { stood := { row := sgrStepsUptoRow, standIns := [], harness := (true, "a064db53ec2fe8500497ade1b65f6e090db8c4e32b67b93885e7e4f622509449"), looks := false }, kinds := [], alts := [], laidByText := true, laidKinds := [.data, .data, .data], laidTests := true, laidLooks := .later }
def SgrStepsUptoCardSaid : Prop := Claim7.holds Tryd.pinned (.plain (OpenSpec.upto sgrStepsSpec)) sgrStepsUptoCard

/-- THE SECOND FORM's CARD OF 'casementlaw05.SgrColours'. -/
def sgrColoursUptoCard : Claim7 := { stood := { row := sgrColoursUptoRow, standIns := [], harness := (true, "a064db53ec2fe8500497ade1b65f6e090db8c4e32b67b93885e7e4f622509449"), looks := false }, kinds := [], alts := [], laidByText := true, laidKinds := [.data, .data, .data], laidTests := true, laidLooks := .later }
def SgrColoursUptoCardSaid : Prop := Claim7.holds Tryd.pinned (.plain (OpenSpec.upto sgrColoursSpec)) sgrColoursUptoCard
end Rows
end Go.Proofs.YtfdaopnkbdfkmaaDoor
