/-
  DERIVED. GIVEN WITH THE SEED: THE CARDS: each row of YtnigomohlgcojaaDoorRows.lean that lists a variable, with what it lists TIED to the program's text (the seventh form; the later family's looks); each row that meets fmt, with fmt's text TOLD by the authors' own Lean function (tested against real Go, not proved from fmt's source: count such statements apart). THE CARD IS WHAT COUNTS. Prove the row's statement (the work); the ties are given (YtnigomohlgcojaaDoorTie.lean); close each card by the builder's one call (the guide's Derived/Test/ToyasCard.lean, 'card_holds'). Laid BY PROGRAM, IN A SANDBOX (cutbox-door.mjs). By AI agents, Wed Nov 11 2026. No macro, syntax, notation, axiom, sorry.
-/
import Derived.Test.YtnigomohlgcojaaDoorRows
import GoSem.ClaimSeven
namespace Go.Proofs.YtnigomohlgcojaaDoor
namespace Rows

/-- THE TIED CARD OF 'cartouchelaw04.ChainMakes'. -/
def chainMakesCard : Claim7 := { stood := { row := chainMakesRow, standIns := [], harness := (true, "1dd098df78a2a14d7c7461b5b3325b25bafed1205f3bc66f28f065b795a9a846"), looks := false }, kinds := [], alts := [], laidByText := true, laidKinds := [.data, .data, .data], laidTests := true, laidLooks := .later }
def ChainMakesCardSaid : Prop := Claim7.holds Tryd.pinned (.plain (OpenSpec.ofChange chainMakesSpec)) chainMakesCard

/-- THE TIED CARD OF 'cartouchelaw04.ChainGrows'. -/
def chainGrowsCard : Claim7 := { stood := { row := chainGrowsRow, standIns := [], harness := (true, "1dd098df78a2a14d7c7461b5b3325b25bafed1205f3bc66f28f065b795a9a846"), looks := false }, kinds := [], alts := [], laidByText := true, laidKinds := [.data, .data, .data], laidTests := true, laidLooks := .later }
def ChainGrowsCardSaid : Prop := Claim7.holds Tryd.pinned (.plain (OpenSpec.ofChange chainGrowsSpec)) chainGrowsCard

/-- THE TIED CARD OF 'cartouchelaw04.ChainSums'. -/
def chainSumsCard : Claim7 := { stood := { row := chainSumsRow, standIns := [], harness := (true, "1dd098df78a2a14d7c7461b5b3325b25bafed1205f3bc66f28f065b795a9a846"), looks := false }, kinds := [], alts := [], laidByText := true, laidKinds := [.data, .data, .data], laidTests := true, laidLooks := .later }
def ChainSumsCardSaid : Prop := Claim7.holds Tryd.pinned (.plain (OpenSpec.ofChange chainSumsSpec)) chainSumsCard

/-- THE TIED CARD OF 'cartouchelaw04.ChainHolds'. -/
def chainHoldsCard : Claim7 := { stood := { row := chainHoldsRow, standIns := [], harness := (true, "1dd098df78a2a14d7c7461b5b3325b25bafed1205f3bc66f28f065b795a9a846"), looks := false }, kinds := [], alts := [], laidByText := true, laidKinds := [.data, .data, .data], laidTests := true, laidLooks := .later }
def ChainHoldsCardSaid : Prop := Claim7.holds Tryd.pinned (.plain (OpenSpec.ofChange chainHoldsSpec)) chainHoldsCard

/-- THE TIED CARD OF 'cartouchelaw04.ChainBroken'. -/
def chainBrokenCard : Claim7 := { stood := { row := chainBrokenRow, standIns := [], harness := (true, "1dd098df78a2a14d7c7461b5b3325b25bafed1205f3bc66f28f065b795a9a846"), looks := false }, kinds := [], alts := [], laidByText := true, laidKinds := [.data, .data, .data], laidTests := true, laidLooks := .later }
def ChainBrokenCardSaid : Prop := Claim7.holds Tryd.pinned (.plain (OpenSpec.ofChange chainBrokenSpec)) chainBrokenCard

/-- THE TIED CARD OF 'cartouchelaw04.ChainDiffer'. -/
def chainDifferCard : Claim7 := { stood := { row := chainDifferRow, standIns := [], harness := (true, "1dd098df78a2a14d7c7461b5b3325b25bafed1205f3bc66f28f065b795a9a846"), looks := false }, kinds := [], alts := [], laidByText := true, laidKinds := [.data, .data, .data], laidTests := true, laidLooks := .later }
def ChainDifferCardSaid : Prop := Claim7.holds Tryd.pinned (.plain (OpenSpec.ofChange chainDifferSpec)) chainDifferCard

/-- THE TIED CARD OF 'cartouchelaw04.ChainHonest'. -/
def chainHonestCard : Claim7 := { stood := { row := chainHonestRow, standIns := [], harness := (true, "1dd098df78a2a14d7c7461b5b3325b25bafed1205f3bc66f28f065b795a9a846"), looks := false }, kinds := [], alts := [], laidByText := true, laidKinds := [.data, .data, .data], laidTests := true, laidLooks := .later }
def ChainHonestCardSaid : Prop := Claim7.holds Tryd.pinned (.plain (OpenSpec.ofChange chainHonestSpec)) chainHonestCard

/-- THE TIED CARD OF 'cartouchelaw04.ChainChecks'. -/
def chainChecksCard : Claim7 := { stood := { row := chainChecksRow, standIns := [], harness := (true, "1dd098df78a2a14d7c7461b5b3325b25bafed1205f3bc66f28f065b795a9a846"), looks := false }, kinds := [], alts := [], laidByText := true, laidKinds := [.data, .data, .data], laidTests := true, laidLooks := .later }
def ChainChecksCardSaid : Prop := Claim7.holds Tryd.pinned (.plain (OpenSpec.ofChange chainChecksSpec)) chainChecksCard

/-- THE SECOND FORM's CARD OF 'cartouchelaw04.ChainMakes'. -/
def chainMakesUptoCard : Claim7 := { stood := { row := chainMakesUptoRow, standIns := [], harness := (true, "1dd098df78a2a14d7c7461b5b3325b25bafed1205f3bc66f28f065b795a9a846"), looks := false }, kinds := [], alts := [], laidByText := true, laidKinds := [.data, .data, .data], laidTests := true, laidLooks := .later }
def ChainMakesUptoCardSaid : Prop := Claim7.holds Tryd.pinned (.plain (OpenSpec.upto chainMakesSpec)) chainMakesUptoCard

/-- THE SECOND FORM's CARD OF 'cartouchelaw04.ChainGrows'. -/
def chainGrowsUptoCard : Claim7 := { stood := { row := chainGrowsUptoRow, standIns := [], harness := (true, "1dd098df78a2a14d7c7461b5b3325b25bafed1205f3bc66f28f065b795a9a846"), looks := false }, kinds := [], alts := [], laidByText := true, laidKinds := [.data, .data, .data], laidTests := true, laidLooks := .later }
def ChainGrowsUptoCardSaid : Prop := Claim7.holds Tryd.pinned (.plain (OpenSpec.upto chainGrowsSpec)) chainGrowsUptoCard

/-- THE SECOND FORM's CARD OF 'cartouchelaw04.ChainSums'. -/
def chainSumsUptoCard : Claim7 := { stood := { row := chainSumsUptoRow, standIns := [], harness := (true, "1dd098df78a2a14d7c7461b5b3325b25bafed1205f3bc66f28f065b795a9a846"), looks := false }, kinds := [], alts := [], laidByText := true, laidKinds := [.data, .data, .data], laidTests := true, laidLooks := .later }
def ChainSumsUptoCardSaid : Prop := Claim7.holds Tryd.pinned (.plain (OpenSpec.upto chainSumsSpec)) chainSumsUptoCard

/-- THE SECOND FORM's CARD OF 'cartouchelaw04.ChainHolds'. -/
def chainHoldsUptoCard : Claim7 := { stood := { row := chainHoldsUptoRow, standIns := [], harness := (true, "1dd098df78a2a14d7c7461b5b3325b25bafed1205f3bc66f28f065b795a9a846"), looks := false }, kinds := [], alts := [], laidByText := true, laidKinds := [.data, .data, .data], laidTests := true, laidLooks := .later }
def ChainHoldsUptoCardSaid : Prop := Claim7.holds Tryd.pinned (.plain (OpenSpec.upto chainHoldsSpec)) chainHoldsUptoCard

/-- THE SECOND FORM's CARD OF 'cartouchelaw04.ChainBroken'. -/
def chainBrokenUptoCard : Claim7 := { stood := { row := chainBrokenUptoRow, standIns := [], harness := (true, "1dd098df78a2a14d7c7461b5b3325b25bafed1205f3bc66f28f065b795a9a846"), looks := false }, kinds := [], alts := [], laidByText := true, laidKinds := [.data, .data, .data], laidTests := true, laidLooks := .later }
def ChainBrokenUptoCardSaid : Prop := Claim7.holds Tryd.pinned (.plain (OpenSpec.upto chainBrokenSpec)) chainBrokenUptoCard

/-- THE SECOND FORM's CARD OF 'cartouchelaw04.ChainDiffer'. -/
def chainDifferUptoCard : Claim7 := { stood := { row := chainDifferUptoRow, standIns := [], harness := (true, "1dd098df78a2a14d7c7461b5b3325b25bafed1205f3bc66f28f065b795a9a846"), looks := false }, kinds := [], alts := [], laidByText := true, laidKinds := [.data, .data, .data], laidTests := true, laidLooks := .later }
def ChainDifferUptoCardSaid : Prop := Claim7.holds Tryd.pinned (.plain (OpenSpec.upto chainDifferSpec)) chainDifferUptoCard

/-- THE SECOND FORM's CARD OF 'cartouchelaw04.ChainHonest'. -/
def chainHonestUptoCard : Claim7 := { stood := { row := chainHonestUptoRow, standIns := [], harness := (true, "1dd098df78a2a14d7c7461b5b3325b25bafed1205f3bc66f28f065b795a9a846"), looks := false }, kinds := [], alts := [], laidByText := true, laidKinds := [.data, .data, .data], laidTests := true, laidLooks := .later }
def ChainHonestUptoCardSaid : Prop := Claim7.holds Tryd.pinned (.plain (OpenSpec.upto chainHonestSpec)) chainHonestUptoCard

/-- THE SECOND FORM's CARD OF 'cartouchelaw04.ChainChecks'. -/
def chainChecksUptoCard : Claim7 := { stood := { row := chainChecksUptoRow, standIns := [], harness := (true, "1dd098df78a2a14d7c7461b5b3325b25bafed1205f3bc66f28f065b795a9a846"), looks := false }, kinds := [], alts := [], laidByText := true, laidKinds := [.data, .data, .data], laidTests := true, laidLooks := .later }
def ChainChecksUptoCardSaid : Prop := Claim7.holds Tryd.pinned (.plain (OpenSpec.upto chainChecksSpec)) chainChecksUptoCard
end Rows
end Go.Proofs.YtnigomohlgcojaaDoor
