/-
  DERIVED. GIVEN WITH THE SEED: THE CARDS: each row of YtlcmpmodfkmfnaaDoorRows.lean that lists a variable, with what it lists TIED to the program's text (the seventh form; the later family's looks); each row that meets fmt, with fmt's text TOLD by the authors' own Lean function (tested against real Go, not proved from fmt's source: count such statements apart). THE CARD IS WHAT COUNTS. Prove the row's statement (the work); the ties are given (YtlcmpmodfkmfnaaDoorTie.lean); close each card by the builder's one call (the guide's Derived/Test/ToyasCard.lean, 'card_holds'). Laid BY PROGRAM, IN A SANDBOX (cutbox-door.mjs). By AI agents, Wed Nov 11 2026. No macro, syntax, notation, axiom, sorry.
-/
import Derived.Test.YtlcmpmodfkmfnaaDoorRows
import GoSem.ClaimSeven
namespace Go.Proofs.YtlcmpmodfkmfnaaDoor
namespace Rows

/-- THE TIED CARD OF 'cartouchelaw03.TreeSides'. -/
def treeSidesCard : Claim7 := { stood := { row := treeSidesRow, standIns := [], harness := (true, "c9c34164d91980f074b8525a85ef6668e0f39311888f3dad97297889e8bda7cb"), looks := false }, kinds := [], alts := [], laidByText := true, laidKinds := [.data, .data, .data], laidTests := true, laidLooks := .later }
def TreeSidesCardSaid : Prop := Claim7.holds Tryd.pinned (.plain (OpenSpec.ofChange treeSidesSpec)) treeSidesCard

/-- THE TIED CARD OF 'cartouchelaw03.TreeRoots'. -/
def treeRootsCard : Claim7 := { stood := { row := treeRootsRow, standIns := [], harness := (true, "c9c34164d91980f074b8525a85ef6668e0f39311888f3dad97297889e8bda7cb"), looks := false }, kinds := [], alts := [], laidByText := true, laidKinds := [.data, .data, .data], laidTests := true, laidLooks := .later }
def TreeRootsCardSaid : Prop := Claim7.holds Tryd.pinned (.plain (OpenSpec.ofChange treeRootsSpec)) treeRootsCard

/-- THE TIED CARD OF 'cartouchelaw03.TreeDiffer'. -/
def treeDifferCard : Claim7 := { stood := { row := treeDifferRow, standIns := [], harness := (true, "c9c34164d91980f074b8525a85ef6668e0f39311888f3dad97297889e8bda7cb"), looks := false }, kinds := [], alts := [], laidByText := true, laidKinds := [.data, .data, .data], laidTests := true, laidLooks := .later }
def TreeDifferCardSaid : Prop := Claim7.holds Tryd.pinned (.plain (OpenSpec.ofChange treeDifferSpec)) treeDifferCard

/-- THE TIED CARD OF 'cartouchelaw03.TreeHalves'. -/
def treeHalvesCard : Claim7 := { stood := { row := treeHalvesRow, standIns := [], harness := (true, "c9c34164d91980f074b8525a85ef6668e0f39311888f3dad97297889e8bda7cb"), looks := false }, kinds := [], alts := [], laidByText := true, laidKinds := [.data, .data, .data], laidTests := true, laidLooks := .later }
def TreeHalvesCardSaid : Prop := Claim7.holds Tryd.pinned (.plain (OpenSpec.ofChange treeHalvesSpec)) treeHalvesCard

/-- THE TIED CARD OF 'cartouchelaw03.TreeClimbs'. -/
def treeClimbsCard : Claim7 := { stood := { row := treeClimbsRow, standIns := [], harness := (true, "c9c34164d91980f074b8525a85ef6668e0f39311888f3dad97297889e8bda7cb"), looks := false }, kinds := [], alts := [], laidByText := true, laidKinds := [.data, .data, .data], laidTests := true, laidLooks := .later }
def TreeClimbsCardSaid : Prop := Claim7.holds Tryd.pinned (.plain (OpenSpec.ofChange treeClimbsSpec)) treeClimbsCard

/-- THE TIED CARD OF 'cartouchelaw03.TreeProves'. -/
def treeProvesCard : Claim7 := { stood := { row := treeProvesRow, standIns := [], harness := (true, "c9c34164d91980f074b8525a85ef6668e0f39311888f3dad97297889e8bda7cb"), looks := false }, kinds := [], alts := [], laidByText := true, laidKinds := [.data, .data, .data], laidTests := true, laidLooks := .later }
def TreeProvesCardSaid : Prop := Claim7.holds Tryd.pinned (.plain (OpenSpec.ofChange treeProvesSpec)) treeProvesCard

/-- THE TIED CARD OF 'cartouchelaw03.TreeClash'. -/
def treeClashCard : Claim7 := { stood := { row := treeClashRow, standIns := [], harness := (true, "c9c34164d91980f074b8525a85ef6668e0f39311888f3dad97297889e8bda7cb"), looks := false }, kinds := [], alts := [], laidByText := true, laidKinds := [.data, .data, .data], laidTests := true, laidLooks := .later }
def TreeClashCardSaid : Prop := Claim7.holds Tryd.pinned (.plain (OpenSpec.ofChange treeClashSpec)) treeClashCard

/-- THE TIED CARD OF 'cartouchelaw03.TreeGives'. -/
def treeGivesCard : Claim7 := { stood := { row := treeGivesRow, standIns := [], harness := (true, "c9c34164d91980f074b8525a85ef6668e0f39311888f3dad97297889e8bda7cb"), looks := false }, kinds := [], alts := [], laidByText := true, laidKinds := [.data, .data, .data], laidTests := true, laidLooks := .later }
def TreeGivesCardSaid : Prop := Claim7.holds Tryd.pinned (.plain (OpenSpec.ofChange treeGivesSpec)) treeGivesCard

/-- THE TIED CARD OF 'cartouchelaw03.TreeHonest'. -/
def treeHonestCard : Claim7 := { stood := { row := treeHonestRow, standIns := [], harness := (true, "c9c34164d91980f074b8525a85ef6668e0f39311888f3dad97297889e8bda7cb"), looks := false }, kinds := [], alts := [], laidByText := true, laidKinds := [.data, .data, .data], laidTests := true, laidLooks := .later }
def TreeHonestCardSaid : Prop := Claim7.holds Tryd.pinned (.plain (OpenSpec.ofChange treeHonestSpec)) treeHonestCard

/-- THE SECOND FORM's CARD OF 'cartouchelaw03.TreeSides'. -/
def treeSidesUptoCard : Claim7 := { stood := { row := treeSidesUptoRow, standIns := [], harness := (true, "c9c34164d91980f074b8525a85ef6668e0f39311888f3dad97297889e8bda7cb"), looks := false }, kinds := [], alts := [], laidByText := true, laidKinds := [.data, .data, .data], laidTests := true, laidLooks := .later }
def TreeSidesUptoCardSaid : Prop := Claim7.holds Tryd.pinned (.plain (OpenSpec.upto treeSidesSpec)) treeSidesUptoCard

/-- THE SECOND FORM's CARD OF 'cartouchelaw03.TreeRoots'. -/
def treeRootsUptoCard : Claim7 := { stood := { row := treeRootsUptoRow, standIns := [], harness := (true, "c9c34164d91980f074b8525a85ef6668e0f39311888f3dad97297889e8bda7cb"), looks := false }, kinds := [], alts := [], laidByText := true, laidKinds := [.data, .data, .data], laidTests := true, laidLooks := .later }
def TreeRootsUptoCardSaid : Prop := Claim7.holds Tryd.pinned (.plain (OpenSpec.upto treeRootsSpec)) treeRootsUptoCard

/-- THE SECOND FORM's CARD OF 'cartouchelaw03.TreeDiffer'. -/
def treeDifferUptoCard : Claim7 := { stood := { row := treeDifferUptoRow, standIns := [], harness := (true, "c9c34164d91980f074b8525a85ef6668e0f39311888f3dad97297889e8bda7cb"), looks := false }, kinds := [], alts := [], laidByText := true, laidKinds := [.data, .data, .data], laidTests := true, laidLooks := .later }
def TreeDifferUptoCardSaid : Prop := Claim7.holds Tryd.pinned (.plain (OpenSpec.upto treeDifferSpec)) treeDifferUptoCard

/-- THE SECOND FORM's CARD OF 'cartouchelaw03.TreeHalves'. -/
def treeHalvesUptoCard : Claim7 := { stood := { row := treeHalvesUptoRow, standIns := [], harness := (true, "c9c34164d91980f074b8525a85ef6668e0f39311888f3dad97297889e8bda7cb"), looks := false }, kinds := [], alts := [], laidByText := true, laidKinds := [.data, .data, .data], laidTests := true, laidLooks := .later }
def TreeHalvesUptoCardSaid : Prop := Claim7.holds Tryd.pinned (.plain (OpenSpec.upto treeHalvesSpec)) treeHalvesUptoCard

/-- THE SECOND FORM's CARD OF 'cartouchelaw03.TreeClimbs'. -/
def treeClimbsUptoCard : Claim7 := { stood := { row := treeClimbsUptoRow, standIns := [], harness := (true, "c9c34164d91980f074b8525a85ef6668e0f39311888f3dad97297889e8bda7cb"), looks := false }, kinds := [], alts := [], laidByText := true, laidKinds := [.data, .data, .data], laidTests := true, laidLooks := .later }
def TreeClimbsUptoCardSaid : Prop := Claim7.holds Tryd.pinned (.plain (OpenSpec.upto treeClimbsSpec)) treeClimbsUptoCard

/-- THE SECOND FORM's CARD OF 'cartouchelaw03.TreeProves'. -/
def treeProvesUptoCard : Claim7 := { stood := { row := treeProvesUptoRow, standIns := [], harness := (true, "c9c34164d91980f074b8525a85ef6668e0f39311888f3dad97297889e8bda7cb"), looks := false }, kinds := [], alts := [], laidByText := true, laidKinds := [.data, .data, .data], laidTests := true, laidLooks := .later }
def TreeProvesUptoCardSaid : Prop := Claim7.holds Tryd.pinned (.plain (OpenSpec.upto treeProvesSpec)) treeProvesUptoCard

/-- THE SECOND FORM's CARD OF 'cartouchelaw03.TreeClash'. -/
def treeClashUptoCard : Claim7 := { stood := { row := treeClashUptoRow, standIns := [], harness := (true, "c9c34164d91980f074b8525a85ef6668e0f39311888f3dad97297889e8bda7cb"), looks := false }, kinds := [], alts := [], laidByText := true, laidKinds := [.data, .data, .data], laidTests := true, laidLooks := .later }
def TreeClashUptoCardSaid : Prop := Claim7.holds Tryd.pinned (.plain (OpenSpec.upto treeClashSpec)) treeClashUptoCard

/-- THE SECOND FORM's CARD OF 'cartouchelaw03.TreeGives'. -/
def treeGivesUptoCard : Claim7 := { stood := { row := treeGivesUptoRow, standIns := [], harness := (true, "c9c34164d91980f074b8525a85ef6668e0f39311888f3dad97297889e8bda7cb"), looks := false }, kinds := [], alts := [], laidByText := true, laidKinds := [.data, .data, .data], laidTests := true, laidLooks := .later }
def TreeGivesUptoCardSaid : Prop := Claim7.holds Tryd.pinned (.plain (OpenSpec.upto treeGivesSpec)) treeGivesUptoCard

/-- THE SECOND FORM's CARD OF 'cartouchelaw03.TreeHonest'. -/
def treeHonestUptoCard : Claim7 := { stood := { row := treeHonestUptoRow, standIns := [], harness := (true, "c9c34164d91980f074b8525a85ef6668e0f39311888f3dad97297889e8bda7cb"), looks := false }, kinds := [], alts := [], laidByText := true, laidKinds := [.data, .data, .data], laidTests := true, laidLooks := .later }
def TreeHonestUptoCardSaid : Prop := Claim7.holds Tryd.pinned (.plain (OpenSpec.upto treeHonestSpec)) treeHonestUptoCard
end Rows
end Go.Proofs.YtlcmpmodfkmfnaaDoor
