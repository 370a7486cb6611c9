/-
  DERIVED. GIVEN WITH THE SEED: THE CARDS: each row of YtocfaglcaefnoaaDoorRows.lean that lists a variable, with what it lists TIED to the program's text (the seventh form; the later family's looks); each row that meets fmt, with fmt's text TOLD by the authors' own Lean function (tested against real Go, not proved from fmt's source: count such statements apart). THE CARD IS WHAT COUNTS. Prove the row's statement (the work); the ties are given (YtocfaglcaefnoaaDoorTie.lean); close each card by the builder's one call (the guide's Derived/Test/ToyasCard.lean, 'card_holds'). Laid BY PROGRAM, IN A SANDBOX (cutbox-door.mjs). By AI agents, Wed Nov 11 2026. No macro, syntax, notation, axiom, sorry.
-/
import Derived.Test.YtocfaglcaefnoaaDoorRows
import GoSem.ClaimSeven
namespace Go.Proofs.YtocfaglcaefnoaaDoor
namespace Rows

/-- THE TIED CARD OF 'cartouchelaw02.BlakeStarts'. -/
def blakeStartsCard : Claim7 := { stood := { row := blakeStartsRow, standIns := [], harness := (true, "50d9fb349892158e806c1c4ed429fe685022575a7cfc34ae145b305eebdeeef4"), looks := false }, kinds := [], alts := [], laidByText := true, laidKinds := [.data, .data, .data], laidTests := true, laidLooks := .later }
def BlakeStartsCardSaid : Prop := Claim7.holds Tryd.pinned (.plain (OpenSpec.ofChange blakeStartsSpec)) blakeStartsCard

/-- THE TIED CARD OF 'cartouchelaw02.BlakeBlocks'. -/
def blakeBlocksCard : Claim7 := { stood := { row := blakeBlocksRow, standIns := [], harness := (true, "50d9fb349892158e806c1c4ed429fe685022575a7cfc34ae145b305eebdeeef4"), looks := false }, kinds := [], alts := [], laidByText := true, laidKinds := [.data, .data, .data], laidTests := true, laidLooks := .later }
def BlakeBlocksCardSaid : Prop := Claim7.holds Tryd.pinned (.plain (OpenSpec.ofChange blakeBlocksSpec)) blakeBlocksCard

/-- THE TIED CARD OF 'cartouchelaw02.BlakeSums'. -/
def blakeSumsCard : Claim7 := { stood := { row := blakeSumsRow, standIns := [], harness := (true, "50d9fb349892158e806c1c4ed429fe685022575a7cfc34ae145b305eebdeeef4"), looks := false }, kinds := [], alts := [], laidByText := true, laidKinds := [.data, .data, .data], laidTests := true, laidLooks := .later }
def BlakeSumsCardSaid : Prop := Claim7.holds Tryd.pinned (.plain (OpenSpec.ofChange blakeSumsSpec)) blakeSumsCard

/-- THE TIED CARD OF 'cartouchelaw02.BlakeTurns'. -/
def blakeTurnsCard : Claim7 := { stood := { row := blakeTurnsRow, standIns := [], harness := (true, "50d9fb349892158e806c1c4ed429fe685022575a7cfc34ae145b305eebdeeef4"), looks := false }, kinds := [], alts := [], laidByText := true, laidKinds := [.data, .data, .data], laidTests := true, laidLooks := .later }
def BlakeTurnsCardSaid : Prop := Claim7.holds Tryd.pinned (.plain (OpenSpec.ofChange blakeTurnsSpec)) blakeTurnsCard

/-- THE TIED CARD OF 'cartouchelaw02.BlakeHex'. -/
def blakeHexCard : Claim7 := { stood := { row := blakeHexRow, standIns := [], harness := (true, "50d9fb349892158e806c1c4ed429fe685022575a7cfc34ae145b305eebdeeef4"), looks := false }, kinds := [], alts := [], laidByText := true, laidKinds := [.data, .data, .data], laidTests := true, laidLooks := .later }
def BlakeHexCardSaid : Prop := Claim7.holds Tryd.pinned (.plain (OpenSpec.ofChange blakeHexSpec)) blakeHexCard

/-- THE TIED CARD OF 'cartouchelaw02.BlakeRefuses'. -/
def blakeRefusesCard : Claim7 := { stood := { row := blakeRefusesRow, standIns := [], harness := (true, "50d9fb349892158e806c1c4ed429fe685022575a7cfc34ae145b305eebdeeef4"), looks := false }, kinds := [], alts := [], laidByText := true, laidKinds := [.data, .data, .data], laidTests := true, laidLooks := .later }
def BlakeRefusesCardSaid : Prop := Claim7.holds Tryd.pinned (.plain (OpenSpec.ofChange blakeRefusesSpec)) blakeRefusesCard

/-- THE TIED CARD OF 'cartouchelaw02.BlakeKeys'. -/
def blakeKeysCard : Claim7 := { stood := { row := blakeKeysRow, standIns := [], harness := (true, "50d9fb349892158e806c1c4ed429fe685022575a7cfc34ae145b305eebdeeef4"), looks := false }, kinds := [], alts := [], laidByText := true, laidKinds := [.data, .data, .data], laidTests := true, laidLooks := .later }
def BlakeKeysCardSaid : Prop := Claim7.holds Tryd.pinned (.plain (OpenSpec.ofChange blakeKeysSpec)) blakeKeysCard

/-- THE TIED CARD OF 'cartouchelaw02.BlakeAhead'. -/
def blakeAheadCard : Claim7 := { stood := { row := blakeAheadRow, standIns := [], harness := (true, "50d9fb349892158e806c1c4ed429fe685022575a7cfc34ae145b305eebdeeef4"), looks := false }, kinds := [], alts := [], laidByText := true, laidKinds := [.data, .data, .data], laidTests := true, laidLooks := .later }
def BlakeAheadCardSaid : Prop := Claim7.holds Tryd.pinned (.plain (OpenSpec.ofChange blakeAheadSpec)) blakeAheadCard

/-- THE SECOND FORM's CARD OF 'cartouchelaw02.BlakeStarts'. -/
def blakeStartsUptoCard : Claim7 := { stood := { row := blakeStartsUptoRow, standIns := [], harness := (true, "50d9fb349892158e806c1c4ed429fe685022575a7cfc34ae145b305eebdeeef4"), looks := false }, kinds := [], alts := [], laidByText := true, laidKinds := [.data, .data, .data], laidTests := true, laidLooks := .later }
def BlakeStartsUptoCardSaid : Prop := Claim7.holds Tryd.pinned (.plain (OpenSpec.upto blakeStartsSpec)) blakeStartsUptoCard

/-- THE SECOND FORM's CARD OF 'cartouchelaw02.BlakeBlocks'. -/
def blakeBlocksUptoCard : Claim7 := { stood := { row := blakeBlocksUptoRow, standIns := [], harness := (true, "50d9fb349892158e806c1c4ed429fe685022575a7cfc34ae145b305eebdeeef4"), looks := false }, kinds := [], alts := [], laidByText := true, laidKinds := [.data, .data, .data], laidTests := true, laidLooks := .later }
def BlakeBlocksUptoCardSaid : Prop := Claim7.holds Tryd.pinned (.plain (OpenSpec.upto blakeBlocksSpec)) blakeBlocksUptoCard

/-- THE SECOND FORM's CARD OF 'cartouchelaw02.BlakeSums'. -/
def blakeSumsUptoCard : Claim7 := { stood := { row := blakeSumsUptoRow, standIns := [], harness := (true, "50d9fb349892158e806c1c4ed429fe685022575a7cfc34ae145b305eebdeeef4"), looks := false }, kinds := [], alts := [], laidByText := true, laidKinds := [.data, .data, .data], laidTests := true, laidLooks := .later }
def BlakeSumsUptoCardSaid : Prop := Claim7.holds Tryd.pinned (.plain (OpenSpec.upto blakeSumsSpec)) blakeSumsUptoCard

/-- THE SECOND FORM's CARD OF 'cartouchelaw02.BlakeTurns'. -/
def blakeTurnsUptoCard : Claim7 := { stood := { row := blakeTurnsUptoRow, standIns := [], harness := (true, "50d9fb349892158e806c1c4ed429fe685022575a7cfc34ae145b305eebdeeef4"), looks := false }, kinds := [], alts := [], laidByText := true, laidKinds := [.data, .data, .data], laidTests := true, laidLooks := .later }
def BlakeTurnsUptoCardSaid : Prop := Claim7.holds Tryd.pinned (.plain (OpenSpec.upto blakeTurnsSpec)) blakeTurnsUptoCard

/-- THE SECOND FORM's CARD OF 'cartouchelaw02.BlakeHex'. -/
def blakeHexUptoCard : Claim7 := { stood := { row := blakeHexUptoRow, standIns := [], harness := (true, "50d9fb349892158e806c1c4ed429fe685022575a7cfc34ae145b305eebdeeef4"), looks := false }, kinds := [], alts := [], laidByText := true, laidKinds := [.data, .data, .data], laidTests := true, laidLooks := .later }
def BlakeHexUptoCardSaid : Prop := Claim7.holds Tryd.pinned (.plain (OpenSpec.upto blakeHexSpec)) blakeHexUptoCard

/-- THE SECOND FORM's CARD OF 'cartouchelaw02.BlakeRefuses'. -/
def blakeRefusesUptoCard : Claim7 := { stood := { row := blakeRefusesUptoRow, standIns := [], harness := (true, "50d9fb349892158e806c1c4ed429fe685022575a7cfc34ae145b305eebdeeef4"), looks := false }, kinds := [], alts := [], laidByText := true, laidKinds := [.data, .data, .data], laidTests := true, laidLooks := .later }
def BlakeRefusesUptoCardSaid : Prop := Claim7.holds Tryd.pinned (.plain (OpenSpec.upto blakeRefusesSpec)) blakeRefusesUptoCard

/-- THE SECOND FORM's CARD OF 'cartouchelaw02.BlakeKeys'. -/
def blakeKeysUptoCard : Claim7 := { stood := { row := blakeKeysUptoRow, standIns := [], harness := (true, "50d9fb349892158e806c1c4ed429fe685022575a7cfc34ae145b305eebdeeef4"), looks := false }, kinds := [], alts := [], laidByText := true, laidKinds := [.data, .data, .data], laidTests := true, laidLooks := .later }
def BlakeKeysUptoCardSaid : Prop := Claim7.holds Tryd.pinned (.plain (OpenSpec.upto blakeKeysSpec)) blakeKeysUptoCard

/-- THE SECOND FORM's CARD OF 'cartouchelaw02.BlakeAhead'. -/
def blakeAheadUptoCard : Claim7 := { stood := { row := blakeAheadUptoRow, standIns := [], harness := (true, "50d9fb349892158e806c1c4ed429fe685022575a7cfc34ae145b305eebdeeef4"), looks := false }, kinds := [], alts := [], laidByText := true, laidKinds := [.data, .data, .data], laidTests := true, laidLooks := .later }
def BlakeAheadUptoCardSaid : Prop := Claim7.holds Tryd.pinned (.plain (OpenSpec.upto blakeAheadSpec)) blakeAheadUptoCard
end Rows
end Go.Proofs.YtocfaglcaefnoaaDoor
