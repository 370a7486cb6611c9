/-
  DERIVED. GIVEN WITH THE SEED: THE CARDS: each row of YtjlpjpjodhkpdaaGreatDoorRows.lean that lists a variable, with what it lists TIED to the program's text (the seventh form; the later family's looks); each row that meets fmt, with fmt's text TOLD by the authors' own Lean function (tested against real Go, not proved from fmt's source: count such statements apart). THE CARD IS WHAT COUNTS. Prove the row's statement (the work); the ties are given (YtjlpjpjodhkpdaaGreatDoorTie.lean); close each card by the builder's one call (the guide's Derived/Test/ToyasCard.lean, 'card_holds'). Laid BY PROGRAM, IN A SANDBOX (cutbox-door.mjs). By AI agents, Wed Nov 11 2026. No macro, syntax, notation, axiom, sorry.
-/
import Derived.Test.YtjlpjpjodhkpdaaGreatDoorRows
import GoSem.ClaimSeven
namespace Go.Proofs.YtjlpjpjodhkpdaaGreatDoor
namespace Rows

/-- THE TIED CARD OF 'cartouchelaw15.LeanTells'. -/
def leanTellsCard : Claim7 := { stood := { row := leanTellsRow, standIns := [], harness := (true, "de1be67b8f2211abd355e26295f1eca569221e413b1ed0e4eb2db7aeb5fef3aa"), looks := false }, kinds := [], alts := [], laidByText := true, laidKinds := [.data, .data, .data], laidTests := true, laidLooks := .later }
def LeanTellsCardSaid : Prop := Claim7.holds Tryz.pinned (.plain (OpenSpec.ofChange leanTellsSpec)) leanTellsCard

/-- THE TIED CARD OF 'cartouchelaw15.LeanSound'. -/
def leanSoundCard : Claim7 := { stood := { row := leanSoundRow, standIns := [], harness := (true, "de1be67b8f2211abd355e26295f1eca569221e413b1ed0e4eb2db7aeb5fef3aa"), looks := false }, kinds := [], alts := [], laidByText := true, laidKinds := [.data, .data, .data], laidTests := true, laidLooks := .later }
def LeanSoundCardSaid : Prop := Claim7.holds Tryz.pinned (.plain (OpenSpec.ofChange leanSoundSpec)) leanSoundCard

/-- THE TIED CARD OF 'cartouchelaw15.LeanTurned'. -/
def leanTurnedCard : Claim7 := { stood := { row := leanTurnedRow, standIns := [], harness := (true, "de1be67b8f2211abd355e26295f1eca569221e413b1ed0e4eb2db7aeb5fef3aa"), looks := false }, kinds := [], alts := [], laidByText := true, laidKinds := [.data, .data, .data], laidTests := true, laidLooks := .later }
def LeanTurnedCardSaid : Prop := Claim7.holds Tryz.pinned (.plain (OpenSpec.ofChange leanTurnedSpec)) leanTurnedCard

/-- THE TIED CARD OF 'cartouchelaw15.LeanLess'. -/
def leanLessCard : Claim7 := { stood := { row := leanLessRow, standIns := [], harness := (true, "de1be67b8f2211abd355e26295f1eca569221e413b1ed0e4eb2db7aeb5fef3aa"), looks := false }, kinds := [], alts := [], laidByText := true, laidKinds := [.data, .data, .data], laidTests := true, laidLooks := .later }
def LeanLessCardSaid : Prop := Claim7.holds Tryz.pinned (.plain (OpenSpec.ofChange leanLessSpec)) leanLessCard

/-- THE TIED CARD OF 'cartouchelaw15.LeanHolds'. -/
def leanHoldsCard : Claim7 := { stood := { row := leanHoldsRow, standIns := [], harness := (true, "de1be67b8f2211abd355e26295f1eca569221e413b1ed0e4eb2db7aeb5fef3aa"), looks := false }, kinds := [], alts := [], laidByText := true, laidKinds := [.data, .data, .data], laidTests := true, laidLooks := .later }
def LeanHoldsCardSaid : Prop := Claim7.holds Tryz.pinned (.plain (OpenSpec.ofChange leanHoldsSpec)) leanHoldsCard

/-- THE TIED CARD OF 'cartouchelaw15.LeanRoots'. -/
def leanRootsCard : Claim7 := { stood := { row := leanRootsRow, standIns := [], harness := (true, "de1be67b8f2211abd355e26295f1eca569221e413b1ed0e4eb2db7aeb5fef3aa"), looks := false }, kinds := [], alts := [], laidByText := true, laidKinds := [.data, .data, .data], laidTests := true, laidLooks := .later }
def LeanRootsCardSaid : Prop := Claim7.holds Tryz.pinned (.plain (OpenSpec.ofChange leanRootsSpec)) leanRootsCard

/-- THE SECOND FORM's CARD OF 'cartouchelaw15.LeanTells'. -/
def leanTellsUptoCard : Claim7 := { stood := { row := leanTellsUptoRow, standIns := [], harness := (true, "de1be67b8f2211abd355e26295f1eca569221e413b1ed0e4eb2db7aeb5fef3aa"), looks := false }, kinds := [], alts := [], laidByText := true, laidKinds := [.data, .data, .data], laidTests := true, laidLooks := .later }
def LeanTellsUptoCardSaid : Prop := Claim7.holds Tryz.pinned (.plain (OpenSpec.upto leanTellsSpec)) leanTellsUptoCard

/-- THE SECOND FORM's CARD OF 'cartouchelaw15.LeanSound'. -/
def leanSoundUptoCard : Claim7 := { stood := { row := leanSoundUptoRow, standIns := [], harness := (true, "de1be67b8f2211abd355e26295f1eca569221e413b1ed0e4eb2db7aeb5fef3aa"), looks := false }, kinds := [], alts := [], laidByText := true, laidKinds := [.data, .data, .data], laidTests := true, laidLooks := .later }
def LeanSoundUptoCardSaid : Prop := Claim7.holds Tryz.pinned (.plain (OpenSpec.upto leanSoundSpec)) leanSoundUptoCard

/-- THE SECOND FORM's CARD OF 'cartouchelaw15.LeanTurned'. -/
def leanTurnedUptoCard : Claim7 := { stood := { row := leanTurnedUptoRow, standIns := [], harness := (true, "de1be67b8f2211abd355e26295f1eca569221e413b1ed0e4eb2db7aeb5fef3aa"), looks := false }, kinds := [], alts := [], laidByText := true, laidKinds := [.data, .data, .data], laidTests := true, laidLooks := .later }
def LeanTurnedUptoCardSaid : Prop := Claim7.holds Tryz.pinned (.plain (OpenSpec.upto leanTurnedSpec)) leanTurnedUptoCard

/-- THE SECOND FORM's CARD OF 'cartouchelaw15.LeanLess'. -/
def leanLessUptoCard : Claim7 := { stood := { row := leanLessUptoRow, standIns := [], harness := (true, "de1be67b8f2211abd355e26295f1eca569221e413b1ed0e4eb2db7aeb5fef3aa"), looks := false }, kinds := [], alts := [], laidByText := true, laidKinds := [.data, .data, .data], laidTests := true, laidLooks := .later }
def LeanLessUptoCardSaid : Prop := Claim7.holds Tryz.pinned (.plain (OpenSpec.upto leanLessSpec)) leanLessUptoCard

/-- THE SECOND FORM's CARD OF 'cartouchelaw15.LeanHolds'. -/
def leanHoldsUptoCard : Claim7 := { stood := { row := leanHoldsUptoRow, standIns := [], harness := (true, "de1be67b8f2211abd355e26295f1eca569221e413b1ed0e4eb2db7aeb5fef3aa"), looks := false }, kinds := [], alts := [], laidByText := true, laidKinds := [.data, .data, .data], laidTests := true, laidLooks := .later }
def LeanHoldsUptoCardSaid : Prop := Claim7.holds Tryz.pinned (.plain (OpenSpec.upto leanHoldsSpec)) leanHoldsUptoCard

/-- THE SECOND FORM's CARD OF 'cartouchelaw15.LeanRoots'. -/
def leanRootsUptoCard : Claim7 := { stood := { row := leanRootsUptoRow, standIns := [], harness := (true, "de1be67b8f2211abd355e26295f1eca569221e413b1ed0e4eb2db7aeb5fef3aa"), looks := false }, kinds := [], alts := [], laidByText := true, laidKinds := [.data, .data, .data], laidTests := true, laidLooks := .later }
def LeanRootsUptoCardSaid : Prop := Claim7.holds Tryz.pinned (.plain (OpenSpec.upto leanRootsSpec)) leanRootsUptoCard
end Rows
end Go.Proofs.YtjlpjpjodhkpdaaGreatDoor
