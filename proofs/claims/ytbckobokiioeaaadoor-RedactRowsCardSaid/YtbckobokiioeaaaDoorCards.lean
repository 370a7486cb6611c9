/-
  DERIVED. GIVEN WITH THE SEED: THE CARDS: each row of YtbckobokiioeaaaDoorRows.lean that lists a variable, with what it lists TIED to the program's text (the seventh form; the later family's looks); each row that meets fmt, with fmt's text TOLD by the authors' own Lean function (tested against real Go, not proved from fmt's source: count such statements apart). THE CARD IS WHAT COUNTS. Prove the row's statement (the work); the ties are given (YtbckobokiioeaaaDoorTie.lean); close each card by the builder's one call (the guide's Derived/Test/ToyasCard.lean, 'card_holds'). Laid BY PROGRAM, IN A SANDBOX (cutbox-door.mjs). By AI agents, Wed Nov 11 2026. No macro, syntax, notation, axiom, sorry.
-/
import Derived.Test.YtbckobokiioeaaaDoorRows
import GoSem.ClaimSeven
namespace Go.Proofs.YtbckobokiioeaaaDoor
namespace Rows

/-- THE TIED CARD OF 'cartouchelaw07.RedactNames'. -/
def redactNamesCard : Claim7 := { stood := { row := redactNamesRow, standIns := [], harness := (true, "c3212f4d68f5d94f0ab1bad8e220649da0169eb69b6db5ff75092134061272d5"), looks := false }, kinds := [], alts := [], laidByText := true, laidKinds := [.data, .data, .data], laidTests := true, laidLooks := .later }
def RedactNamesCardSaid : Prop := Claim7.holds Tryd.pinned (.plain (OpenSpec.ofChange redactNamesSpec)) redactNamesCard

/-- THE TIED CARD OF 'cartouchelaw07.RedactBegins'. -/
def redactBeginsCard : Claim7 := { stood := { row := redactBeginsRow, standIns := [], harness := (true, "c3212f4d68f5d94f0ab1bad8e220649da0169eb69b6db5ff75092134061272d5"), looks := false }, kinds := [], alts := [], laidByText := true, laidKinds := [.data, .data, .data], laidTests := true, laidLooks := .later }
def RedactBeginsCardSaid : Prop := Claim7.holds Tryd.pinned (.plain (OpenSpec.ofChange redactBeginsSpec)) redactBeginsCard

/-- THE TIED CARD OF 'cartouchelaw07.RedactTags'. -/
def redactTagsCard : Claim7 := { stood := { row := redactTagsRow, standIns := [], harness := (true, "c3212f4d68f5d94f0ab1bad8e220649da0169eb69b6db5ff75092134061272d5"), looks := false }, kinds := [], alts := [], laidByText := true, laidKinds := [.data, .data, .data, .data, .data, .data], laidTests := true, laidLooks := .later }
def RedactTagsCardSaid : Prop := Claim7.holds Tryd.pinned (.plain (OpenSpec.ofChange redactTagsSpec)) redactTagsCard

/-- THE TIED CARD OF 'cartouchelaw07.RedactHides'. -/
def redactHidesCard : Claim7 := { stood := { row := redactHidesRow, standIns := [], harness := (true, "c3212f4d68f5d94f0ab1bad8e220649da0169eb69b6db5ff75092134061272d5"), looks := false }, kinds := [], alts := [], laidByText := true, laidKinds := [.data, .data, .data, .data, .data, .data], laidTests := true, laidLooks := .later }
def RedactHidesCardSaid : Prop := Claim7.holds Tryd.pinned (.plain (OpenSpec.ofChange redactHidesSpec)) redactHidesCard

/-- THE TIED CARD OF 'cartouchelaw07.RedactAgain'. -/
def redactAgainCard : Claim7 := { stood := { row := redactAgainRow, standIns := [], harness := (true, "c3212f4d68f5d94f0ab1bad8e220649da0169eb69b6db5ff75092134061272d5"), looks := false }, kinds := [], alts := [], laidByText := true, laidKinds := [.data, .data, .data, .data, .data, .data], laidTests := true, laidLooks := .later }
def RedactAgainCardSaid : Prop := Claim7.holds Tryd.pinned (.plain (OpenSpec.ofChange redactAgainSpec)) redactAgainCard

/-- THE TIED CARD OF 'cartouchelaw07.RedactRows'. -/
def redactRowsCard : Claim7 := { stood := { row := redactRowsRow, standIns := [], harness := (true, "c3212f4d68f5d94f0ab1bad8e220649da0169eb69b6db5ff75092134061272d5"), looks := false }, kinds := [], alts := [], laidByText := true, laidKinds := [.data, .data, .data, .data, .data, .data], laidTests := true, laidLooks := .later }
def RedactRowsCardSaid : Prop := Claim7.holds Tryd.pinned (.plain (OpenSpec.ofChange redactRowsSpec)) redactRowsCard

/-- THE SECOND FORM's CARD OF 'cartouchelaw07.RedactNames'. -/
def redactNamesUptoCard : Claim7 := { stood := { row := redactNamesUptoRow, standIns := [], harness := (true, "c3212f4d68f5d94f0ab1bad8e220649da0169eb69b6db5ff75092134061272d5"), looks := false }, kinds := [], alts := [], laidByText := true, laidKinds := [.data, .data, .data], laidTests := true, laidLooks := .later }
def RedactNamesUptoCardSaid : Prop := Claim7.holds Tryd.pinned (.plain (OpenSpec.upto redactNamesSpec)) redactNamesUptoCard

/-- THE SECOND FORM's CARD OF 'cartouchelaw07.RedactBegins'. -/
def redactBeginsUptoCard : Claim7 := { stood := { row := redactBeginsUptoRow, standIns := [], harness := (true, "c3212f4d68f5d94f0ab1bad8e220649da0169eb69b6db5ff75092134061272d5"), looks := false }, kinds := [], alts := [], laidByText := true, laidKinds := [.data, .data, .data], laidTests := true, laidLooks := .later }
def RedactBeginsUptoCardSaid : Prop := Claim7.holds Tryd.pinned (.plain (OpenSpec.upto redactBeginsSpec)) redactBeginsUptoCard

/-- THE SECOND FORM's CARD OF 'cartouchelaw07.RedactTags'. -/
def redactTagsUptoCard : Claim7 := { stood := { row := redactTagsUptoRow, standIns := [], harness := (true, "c3212f4d68f5d94f0ab1bad8e220649da0169eb69b6db5ff75092134061272d5"), looks := false }, kinds := [], alts := [], laidByText := true, laidKinds := [.data, .data, .data, .data, .data, .data], laidTests := true, laidLooks := .later }
def RedactTagsUptoCardSaid : Prop := Claim7.holds Tryd.pinned (.plain (OpenSpec.upto redactTagsSpec)) redactTagsUptoCard

/-- THE SECOND FORM's CARD OF 'cartouchelaw07.RedactHides'. -/
def redactHidesUptoCard : Claim7 := { stood := { row := redactHidesUptoRow, standIns := [], harness := (true, "c3212f4d68f5d94f0ab1bad8e220649da0169eb69b6db5ff75092134061272d5"), looks := false }, kinds := [], alts := [], laidByText := true, laidKinds := [.data, .data, .data, .data, .data, .data], laidTests := true, laidLooks := .later }
def RedactHidesUptoCardSaid : Prop := Claim7.holds Tryd.pinned (.plain (OpenSpec.upto redactHidesSpec)) redactHidesUptoCard

/-- THE SECOND FORM's CARD OF 'cartouchelaw07.RedactAgain'. -/
def redactAgainUptoCard : Claim7 := { stood := { row := redactAgainUptoRow, standIns := [], harness := (true, "c3212f4d68f5d94f0ab1bad8e220649da0169eb69b6db5ff75092134061272d5"), looks := false }, kinds := [], alts := [], laidByText := true, laidKinds := [.data, .data, .data, .data, .data, .data], laidTests := true, laidLooks := .later }
def RedactAgainUptoCardSaid : Prop := Claim7.holds Tryd.pinned (.plain (OpenSpec.upto redactAgainSpec)) redactAgainUptoCard

/-- THE SECOND FORM's CARD OF 'cartouchelaw07.RedactRows'. -/
def redactRowsUptoCard : Claim7 := { stood := { row := redactRowsUptoRow, standIns := [], harness := (true, "c3212f4d68f5d94f0ab1bad8e220649da0169eb69b6db5ff75092134061272d5"), looks := false }, kinds := [], alts := [], laidByText := true, laidKinds := [.data, .data, .data, .data, .data, .data], laidTests := true, laidLooks := .later }
def RedactRowsUptoCardSaid : Prop := Claim7.holds Tryd.pinned (.plain (OpenSpec.upto redactRowsSpec)) redactRowsUptoCard
end Rows
end Go.Proofs.YtbckobokiioeaaaDoor
