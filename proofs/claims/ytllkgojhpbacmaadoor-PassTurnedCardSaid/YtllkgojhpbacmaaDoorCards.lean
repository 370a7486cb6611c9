/-
  DERIVED. GIVEN WITH THE SEED: THE CARDS: each row of YtllkgojhpbacmaaDoorRows.lean that lists a variable, with what it lists TIED to the program's text (the seventh form; the later family's looks); each row that meets fmt, with fmt's text TOLD by the authors' own Lean function (tested against real Go, not proved from fmt's source: count such statements apart). THE CARD IS WHAT COUNTS. Prove the row's statement (the work); the ties are given (YtllkgojhpbacmaaDoorTie.lean); close each card by the builder's one call (the guide's Derived/Test/ToyasCard.lean, 'card_holds'). Laid BY PROGRAM, IN A SANDBOX (cutbox-door.mjs). By AI agents, Wed Nov 11 2026. No macro, syntax, notation, axiom, sorry.
-/
import Derived.Test.YtllkgojhpbacmaaDoorRows
import GoSem.ClaimSeven
namespace Go.Proofs.YtllkgojhpbacmaaDoor
namespace Rows

/-- THE TIED CARD OF 'cartouchelaw05.PassIssues'. -/
def passIssuesCard : Claim7 := { stood := { row := passIssuesRow, standIns := [], harness := (true, "c23c95e68a1a995cab86a0d335b544442b1fdba380dfe1da43a262f50367ffd8"), looks := false }, kinds := [], alts := [], laidByText := true, laidKinds := [.data, .data, .data], laidTests := true, laidLooks := .later }
def PassIssuesCardSaid : Prop := Claim7.holds Tryd.pinned (.plain (OpenSpec.ofChange passIssuesSpec)) passIssuesCard

/-- THE TIED CARD OF 'cartouchelaw05.PassChecks'. -/
def passChecksCard : Claim7 := { stood := { row := passChecksRow, standIns := [], harness := (true, "c23c95e68a1a995cab86a0d335b544442b1fdba380dfe1da43a262f50367ffd8"), looks := false }, kinds := [], alts := [], laidByText := true, laidKinds := [.data, .data, .data], laidTests := true, laidLooks := .later }
def PassChecksCardSaid : Prop := Claim7.holds Tryd.pinned (.plain (OpenSpec.ofChange passChecksSpec)) passChecksCard

/-- THE TIED CARD OF 'cartouchelaw05.PassLasts'. -/
def passLastsCard : Claim7 := { stood := { row := passLastsRow, standIns := [], harness := (true, "c23c95e68a1a995cab86a0d335b544442b1fdba380dfe1da43a262f50367ffd8"), looks := false }, kinds := [], alts := [], laidByText := true, laidKinds := [.data, .data, .data], laidTests := true, laidLooks := .later }
def PassLastsCardSaid : Prop := Claim7.holds Tryd.pinned (.plain (OpenSpec.ofChange passLastsSpec)) passLastsCard

/-- THE TIED CARD OF 'cartouchelaw05.PassTurned'. -/
def passTurnedCard : Claim7 := { stood := { row := passTurnedRow, standIns := [], harness := (true, "c23c95e68a1a995cab86a0d335b544442b1fdba380dfe1da43a262f50367ffd8"), looks := false }, kinds := [], alts := [], laidByText := true, laidKinds := [.data, .data, .data], laidTests := true, laidLooks := .later }
def PassTurnedCardSaid : Prop := Claim7.holds Tryd.pinned (.plain (OpenSpec.ofChange passTurnedSpec)) passTurnedCard

/-- THE TIED CARD OF 'cartouchelaw05.PassBack'. -/
def passBackCard : Claim7 := { stood := { row := passBackRow, standIns := [], harness := (true, "c23c95e68a1a995cab86a0d335b544442b1fdba380dfe1da43a262f50367ffd8"), looks := false }, kinds := [], alts := [], laidByText := true, laidKinds := [.data, .data, .data], laidTests := true, laidLooks := .later }
def PassBackCardSaid : Prop := Claim7.holds Tryd.pinned (.plain (OpenSpec.ofChange passBackSpec)) passBackCard

/-- THE TIED CARD OF 'cartouchelaw05.PassOwn'. -/
def passOwnCard : Claim7 := { stood := { row := passOwnRow, standIns := [], harness := (true, "c23c95e68a1a995cab86a0d335b544442b1fdba380dfe1da43a262f50367ffd8"), looks := false }, kinds := [], alts := [], laidByText := true, laidKinds := [.data, .data, .data], laidTests := true, laidLooks := .later }
def PassOwnCardSaid : Prop := Claim7.holds Tryd.pinned (.plain (OpenSpec.ofChange passOwnSpec)) passOwnCard

/-- THE TIED CARD OF 'cartouchelaw05.PassEqual'. -/
def passEqualCard : Claim7 := { stood := { row := passEqualRow, standIns := [], harness := (true, "c23c95e68a1a995cab86a0d335b544442b1fdba380dfe1da43a262f50367ffd8"), looks := false }, kinds := [], alts := [], laidByText := true, laidKinds := [.data, .data, .data], laidTests := true, laidLooks := .later }
def PassEqualCardSaid : Prop := Claim7.holds Tryd.pinned (.plain (OpenSpec.ofChange passEqualSpec)) passEqualCard

/-- THE SECOND FORM's CARD OF 'cartouchelaw05.PassIssues'. -/
def passIssuesUptoCard : Claim7 := { stood := { row := passIssuesUptoRow, standIns := [], harness := (true, "c23c95e68a1a995cab86a0d335b544442b1fdba380dfe1da43a262f50367ffd8"), looks := false }, kinds := [], alts := [], laidByText := true, laidKinds := [.data, .data, .data], laidTests := true, laidLooks := .later }
def PassIssuesUptoCardSaid : Prop := Claim7.holds Tryd.pinned (.plain (OpenSpec.upto passIssuesSpec)) passIssuesUptoCard

/-- THE SECOND FORM's CARD OF 'cartouchelaw05.PassChecks'. -/
def passChecksUptoCard : Claim7 := { stood := { row := passChecksUptoRow, standIns := [], harness := (true, "c23c95e68a1a995cab86a0d335b544442b1fdba380dfe1da43a262f50367ffd8"), looks := false }, kinds := [], alts := [], laidByText := true, laidKinds := [.data, .data, .data], laidTests := true, laidLooks := .later }
def PassChecksUptoCardSaid : Prop := Claim7.holds Tryd.pinned (.plain (OpenSpec.upto passChecksSpec)) passChecksUptoCard

/-- THE SECOND FORM's CARD OF 'cartouchelaw05.PassLasts'. -/
def passLastsUptoCard : Claim7 := { stood := { row := passLastsUptoRow, standIns := [], harness := (true, "c23c95e68a1a995cab86a0d335b544442b1fdba380dfe1da43a262f50367ffd8"), looks := false }, kinds := [], alts := [], laidByText := true, laidKinds := [.data, .data, .data], laidTests := true, laidLooks := .later }
def PassLastsUptoCardSaid : Prop := Claim7.holds Tryd.pinned (.plain (OpenSpec.upto passLastsSpec)) passLastsUptoCard

/-- THE SECOND FORM's CARD OF 'cartouchelaw05.PassTurned'. -/
def passTurnedUptoCard : Claim7 := { stood := { row := passTurnedUptoRow, standIns := [], harness := (true, "c23c95e68a1a995cab86a0d335b544442b1fdba380dfe1da43a262f50367ffd8"), looks := false }, kinds := [], alts := [], laidByText := true, laidKinds := [.data, .data, .data], laidTests := true, laidLooks := .later }
def PassTurnedUptoCardSaid : Prop := Claim7.holds Tryd.pinned (.plain (OpenSpec.upto passTurnedSpec)) passTurnedUptoCard

/-- THE SECOND FORM's CARD OF 'cartouchelaw05.PassBack'. -/
def passBackUptoCard : Claim7 := { stood := { row := passBackUptoRow, standIns := [], harness := (true, "c23c95e68a1a995cab86a0d335b544442b1fdba380dfe1da43a262f50367ffd8"), looks := false }, kinds := [], alts := [], laidByText := true, laidKinds := [.data, .data, .data], laidTests := true, laidLooks := .later }
def PassBackUptoCardSaid : Prop := Claim7.holds Tryd.pinned (.plain (OpenSpec.upto passBackSpec)) passBackUptoCard

/-- THE SECOND FORM's CARD OF 'cartouchelaw05.PassOwn'. -/
def passOwnUptoCard : Claim7 := { stood := { row := passOwnUptoRow, standIns := [], harness := (true, "c23c95e68a1a995cab86a0d335b544442b1fdba380dfe1da43a262f50367ffd8"), looks := false }, kinds := [], alts := [], laidByText := true, laidKinds := [.data, .data, .data], laidTests := true, laidLooks := .later }
def PassOwnUptoCardSaid : Prop := Claim7.holds Tryd.pinned (.plain (OpenSpec.upto passOwnSpec)) passOwnUptoCard

/-- THE SECOND FORM's CARD OF 'cartouchelaw05.PassEqual'. -/
def passEqualUptoCard : Claim7 := { stood := { row := passEqualUptoRow, standIns := [], harness := (true, "c23c95e68a1a995cab86a0d335b544442b1fdba380dfe1da43a262f50367ffd8"), looks := false }, kinds := [], alts := [], laidByText := true, laidKinds := [.data, .data, .data], laidTests := true, laidLooks := .later }
def PassEqualUptoCardSaid : Prop := Claim7.holds Tryd.pinned (.plain (OpenSpec.upto passEqualSpec)) passEqualUptoCard
end Rows
end Go.Proofs.YtllkgojhpbacmaaDoor
