/-
  DERIVED. GIVEN WITH THE SEED: THE CARDS: each row of YtggbcchebiedjaaDoorRows.lean that lists a variable, with what it lists TIED to the program's text (the seventh form; the later family's looks); each row that meets fmt, with fmt's text TOLD by the authors' own Lean function (tested against real Go, not proved from fmt's source: count such statements apart). THE CARD IS WHAT COUNTS. Prove the row's statement (the work); the ties are given (YtggbcchebiedjaaDoorTie.lean); close each card by the builder's one call (the guide's Derived/Test/ToyasCard.lean, 'card_holds'). Laid BY PROGRAM, IN A SANDBOX (cutbox-door.mjs). By AI agents, Wed Nov 11 2026. No macro, syntax, notation, axiom, sorry.
-/
import Derived.Test.YtggbcchebiedjaaDoorRows
import GoSem.ClaimSeven
namespace Go.Proofs.YtggbcchebiedjaaDoor
namespace Rows

/-- THE TIED CARD OF 'casementlaw04.EscParts'. -/
def escPartsCard : Claim7 := { stood := { row := escPartsRow, standIns := [], harness := (true, "4d34834605fb8317c553fdefefb8da7cacc08bfecfb6f600563dbb4682040bff"), looks := false }, kinds := [], alts := [], laidByText := true, laidKinds := [.data, .data, .data, .data, .pinned], laidTests := true, laidLooks := .later }
def EscPartsCardSaid : Prop := Claim7.holds Tryd.pinned (.plain (OpenSpec.ofChange escPartsSpec)) escPartsCard

/-- THE TIED CARD OF 'casementlaw04.EscAborts'. -/
def escAbortsCard : Claim7 := { stood := { row := escAbortsRow, standIns := [], harness := (true, "4d34834605fb8317c553fdefefb8da7cacc08bfecfb6f600563dbb4682040bff"), looks := false }, kinds := [], alts := [], laidByText := true, laidKinds := [.data, .data, .data, .data, .pinned], laidTests := true, laidLooks := .later }
def EscAbortsCardSaid : Prop := Claim7.holds Tryd.pinned (.plain (OpenSpec.ofChange escAbortsSpec)) escAbortsCard

/-- THE TIED CARD OF 'casementlaw04.EscNumbers'. -/
def escNumbersCard : Claim7 := { stood := { row := escNumbersRow, standIns := [], harness := (true, "4d34834605fb8317c553fdefefb8da7cacc08bfecfb6f600563dbb4682040bff"), looks := false }, kinds := [], alts := [], laidByText := true, laidKinds := [.data, .data, .data, .data, .pinned], laidTests := true, laidLooks := .later }
def EscNumbersCardSaid : Prop := Claim7.holds Tryd.pinned (.plain (OpenSpec.ofChange escNumbersSpec)) escNumbersCard

/-- THE TIED CARD OF 'casementlaw04.EscText'. -/
def escTextCard : Claim7 := { stood := { row := escTextRow, standIns := [], harness := (true, "4d34834605fb8317c553fdefefb8da7cacc08bfecfb6f600563dbb4682040bff"), looks := false }, kinds := [], alts := [], laidByText := true, laidKinds := [.data, .data, .data, .data, .pinned], laidTests := true, laidLooks := .later }
def EscTextCardSaid : Prop := Claim7.holds Tryd.pinned (.plain (OpenSpec.ofChange escTextSpec)) escTextCard

/-- THE TIED CARD OF 'casementlaw04.EscSpoils'. -/
def escSpoilsCard : Claim7 := { stood := { row := escSpoilsRow, standIns := [], harness := (true, "4d34834605fb8317c553fdefefb8da7cacc08bfecfb6f600563dbb4682040bff"), looks := false }, kinds := [], alts := [], laidByText := true, laidKinds := [.data, .data, .data, .data, .pinned], laidTests := true, laidLooks := .later }
def EscSpoilsCardSaid : Prop := Claim7.holds Tryd.pinned (.plain (OpenSpec.ofChange escSpoilsSpec)) escSpoilsCard

/-- THE TIED CARD OF 'casementlaw04.EscSimple'. -/
def escSimpleCard : Claim7 := { stood := { row := escSimpleRow, standIns := [], harness := (true, "4d34834605fb8317c553fdefefb8da7cacc08bfecfb6f600563dbb4682040bff"), looks := false }, kinds := [], alts := [], laidByText := true, laidKinds := [.data, .data, .data, .data, .pinned], laidTests := true, laidLooks := .later }
def EscSimpleCardSaid : Prop := Claim7.holds Tryd.pinned (.plain (OpenSpec.ofChange escSimpleSpec)) escSimpleCard

/-- THE SECOND FORM's CARD OF 'casementlaw04.EscParts'. -/
def escPartsUptoCard : Claim7 := { stood := { row := escPartsUptoRow, standIns := [], harness := (true, "4d34834605fb8317c553fdefefb8da7cacc08bfecfb6f600563dbb4682040bff"), looks := false }, kinds := [], alts := [], laidByText := true, laidKinds := [.data, .data, .data, .data, .pinned], laidTests := true, laidLooks := .later }
def EscPartsUptoCardSaid : Prop := Claim7.holds Tryd.pinned (.plain (OpenSpec.upto escPartsSpec)) escPartsUptoCard

/-- THE SECOND FORM's CARD OF 'casementlaw04.EscAborts'. -/
def escAbortsUptoCard : Claim7 := { stood := { row := escAbortsUptoRow, standIns := [], harness := (true, "4d34834605fb8317c553fdefefb8da7cacc08bfecfb6f600563dbb4682040bff"), looks := false }, kinds := [], alts := [], laidByText := true, laidKinds := [.data, .data, .data, .data, .pinned], laidTests := true, laidLooks := .later }
def EscAbortsUptoCardSaid : Prop := Claim7.holds Tryd.pinned (.plain (OpenSpec.upto escAbortsSpec)) escAbortsUptoCard

/-- THE SECOND FORM's CARD OF 'casementlaw04.EscNumbers'. -/
def escNumbersUptoCard : Claim7 := { stood := { row := escNumbersUptoRow, standIns := [], harness := (true, "4d34834605fb8317c553fdefefb8da7cacc08bfecfb6f600563dbb4682040bff"), looks := false }, kinds := [], alts := [], laidByText := true, laidKinds := [.data, .data, .data, .data, .pinned], laidTests := true, laidLooks := .later }
def EscNumbersUptoCardSaid : Prop := Claim7.holds Tryd.pinned (.plain (OpenSpec.upto escNumbersSpec)) escNumbersUptoCard

/-- THE SECOND FORM's CARD OF 'casementlaw04.EscText'. -/
def escTextUptoCard : Claim7 := { stood := { row := escTextUptoRow, standIns := [], harness := (true, "4d34834605fb8317c553fdefefb8da7cacc08bfecfb6f600563dbb4682040bff"), looks := false }, kinds := [], alts := [], laidByText := true, laidKinds := [.data, .data, .data, .data, .pinned], laidTests := true, laidLooks := .later }
def EscTextUptoCardSaid : Prop := Claim7.holds Tryd.pinned (.plain (OpenSpec.upto escTextSpec)) escTextUptoCard

/-- THE SECOND FORM's CARD OF 'casementlaw04.EscSpoils'. -/
def escSpoilsUptoCard : Claim7 := { stood := { row := escSpoilsUptoRow, standIns := [], harness := (true, "4d34834605fb8317c553fdefefb8da7cacc08bfecfb6f600563dbb4682040bff"), looks := false }, kinds := [], alts := [], laidByText := true, laidKinds := [.data, .data, .data, .data, .pinned], laidTests := true, laidLooks := .later }
def EscSpoilsUptoCardSaid : Prop := Claim7.holds Tryd.pinned (.plain (OpenSpec.upto escSpoilsSpec)) escSpoilsUptoCard

/-- THE SECOND FORM's CARD OF 'casementlaw04.EscSimple'. -/
def escSimpleUptoCard : Claim7 := { stood := { row := escSimpleUptoRow, standIns := [], harness := (true, "4d34834605fb8317c553fdefefb8da7cacc08bfecfb6f600563dbb4682040bff"), looks := false }, kinds := [], alts := [], laidByText := true, laidKinds := [.data, .data, .data, .data, .pinned], laidTests := true, laidLooks := .later }
def EscSimpleUptoCardSaid : Prop := Claim7.holds Tryd.pinned (.plain (OpenSpec.upto escSimpleSpec)) escSimpleUptoCard
end Rows
end Go.Proofs.YtggbcchebiedjaaDoor
