/-
  NARROWER THAN 'FOR EVERY INPUT', by the rows' own cells (each row's printed sentence says how): BlakeStarts: laid · BlakeBlocks: laid · BlakeSums: laid · BlakeTurns: laid · BlakeHex: laid · BlakeRefuses: laid · BlakeKeys: laid · BlakeAhead: laid.
  DERIVED. THE GIVEN ROWS OF THIS SEAT. 8 by the template 'for every input the law returns true; each argument reads behind the call as it read before'; 0 by the template 'total and deterministic' (their statements: YtocfaglcaefnoaaDoorTotals.lean).
  GIVEN WITH THE SEED: the statements are not yours to turn. If you find one false, say at which input.
  Laid BY PROGRAM, IN A SANDBOX (cutbox-rows.mjs): the forced cells as the released guide's own fill.sh prints them over the translation 729958fa34efe7da… (all of the seat's roots in one cut). By AI agents, Wed Nov 11 2026. No macro, syntax, notation, axiom, sorry.
-/
import Derived.Test.YtocfaglcaefnoaaDoorChecked
import GoSem.Claim
import GoSem.ClaimJoined
import GoSem.ClaimMapViews
import Derived.JoinedTies
import Derived.KernelRfl
namespace Go.Proofs.YtocfaglcaefnoaaDoor
/- THE CELL 'sum', in the pinned program and in every row, IS THE sha256 OF THE DUMP (.gsa) THAT YtocfaglcaefnoaaDoorProg.lean LOADS. Nothing in Lean hashes anything: it is a label: what it is worth is what the hold of that sum in a sandbox is worth. -/
noncomputable def Tryd.pinned : Pinned := { name := "ytocfaglcaefnoaadoor", sum := "729958fa34efe7da5e2707f751ce2434aeafac165b6297f3a939c01d73532a08", checked := Tryd.checked }
namespace Rows
def none {H : Type} : Left H := { results := [], args := [] }

/- WHAT THE LISTED PACKAGE-LEVEL VARIABLES READ AS WHEN THE CALL BEGINS. Each datum BY PROGRAM (the guide's laid-datum.mjs) off the statement by which the dump's own 'gosem.cut.vars' lays the variable. In a bare row this is a premise. The card (YtocfaglcaefnoaaDoorCards.lean) ties it to the program's text. -/
def laid_cartouche_blake_begins {H : Type} : DataW H := .agg [.lit (.int .u32 1779033703), .lit (.int .u32 3144134277), .lit (.int .u32 1013904242), .lit (.int .u32 2773480762), .lit (.int .u32 1359893119), .lit (.int .u32 2600822924), .lit (.int .u32 528734635), .lit (.int .u32 1541459225)]
def laid_cartouche_blake_orders {H : Type} : DataW H := .agg [.agg [.lit (.int .u8 0), .lit (.int .u8 1), .lit (.int .u8 2), .lit (.int .u8 3), .lit (.int .u8 4), .lit (.int .u8 5), .lit (.int .u8 6), .lit (.int .u8 7), .lit (.int .u8 8), .lit (.int .u8 9), .lit (.int .u8 10), .lit (.int .u8 11), .lit (.int .u8 12), .lit (.int .u8 13), .lit (.int .u8 14), .lit (.int .u8 15)], .agg [.lit (.int .u8 14), .lit (.int .u8 10), .lit (.int .u8 4), .lit (.int .u8 8), .lit (.int .u8 9), .lit (.int .u8 15), .lit (.int .u8 13), .lit (.int .u8 6), .lit (.int .u8 1), .lit (.int .u8 12), .lit (.int .u8 0), .lit (.int .u8 2), .lit (.int .u8 11), .lit (.int .u8 7), .lit (.int .u8 5), .lit (.int .u8 3)], .agg [.lit (.int .u8 11), .lit (.int .u8 8), .lit (.int .u8 12), .lit (.int .u8 0), .lit (.int .u8 5), .lit (.int .u8 2), .lit (.int .u8 15), .lit (.int .u8 13), .lit (.int .u8 10), .lit (.int .u8 14), .lit (.int .u8 3), .lit (.int .u8 6), .lit (.int .u8 7), .lit (.int .u8 1), .lit (.int .u8 9), .lit (.int .u8 4)], .agg [.lit (.int .u8 7), .lit (.int .u8 9), .lit (.int .u8 3), .lit (.int .u8 1), .lit (.int .u8 13), .lit (.int .u8 12), .lit (.int .u8 11), .lit (.int .u8 14), .lit (.int .u8 2), .lit (.int .u8 6), .lit (.int .u8 5), .lit (.int .u8 10), .lit (.int .u8 4), .lit (.int .u8 0), .lit (.int .u8 15), .lit (.int .u8 8)], .agg [.lit (.int .u8 9), .lit (.int .u8 0), .lit (.int .u8 5), .lit (.int .u8 7), .lit (.int .u8 2), .lit (.int .u8 4), .lit (.int .u8 10), .lit (.int .u8 15), .lit (.int .u8 14), .lit (.int .u8 1), .lit (.int .u8 11), .lit (.int .u8 12), .lit (.int .u8 6), .lit (.int .u8 8), .lit (.int .u8 3), .lit (.int .u8 13)], .agg [.lit (.int .u8 2), .lit (.int .u8 12), .lit (.int .u8 6), .lit (.int .u8 10), .lit (.int .u8 0), .lit (.int .u8 11), .lit (.int .u8 8), .lit (.int .u8 3), .lit (.int .u8 4), .lit (.int .u8 13), .lit (.int .u8 7), .lit (.int .u8 5), .lit (.int .u8 15), .lit (.int .u8 14), .lit (.int .u8 1), .lit (.int .u8 9)], .agg [.lit (.int .u8 12), .lit (.int .u8 5), .lit (.int .u8 1), .lit (.int .u8 15), .lit (.int .u8 14), .lit (.int .u8 13), .lit (.int .u8 4), .lit (.int .u8 10), .lit (.int .u8 0), .lit (.int .u8 7), .lit (.int .u8 6), .lit (.int .u8 3), .lit (.int .u8 9), .lit (.int .u8 2), .lit (.int .u8 8), .lit (.int .u8 11)], .agg [.lit (.int .u8 13), .lit (.int .u8 11), .lit (.int .u8 7), .lit (.int .u8 14), .lit (.int .u8 12), .lit (.int .u8 1), .lit (.int .u8 3), .lit (.int .u8 9), .lit (.int .u8 5), .lit (.int .u8 0), .lit (.int .u8 15), .lit (.int .u8 4), .lit (.int .u8 8), .lit (.int .u8 6), .lit (.int .u8 2), .lit (.int .u8 10)], .agg [.lit (.int .u8 6), .lit (.int .u8 15), .lit (.int .u8 14), .lit (.int .u8 9), .lit (.int .u8 11), .lit (.int .u8 3), .lit (.int .u8 0), .lit (.int .u8 8), .lit (.int .u8 12), .lit (.int .u8 2), .lit (.int .u8 13), .lit (.int .u8 7), .lit (.int .u8 1), .lit (.int .u8 4), .lit (.int .u8 10), .lit (.int .u8 5)], .agg [.lit (.int .u8 10), .lit (.int .u8 2), .lit (.int .u8 8), .lit (.int .u8 4), .lit (.int .u8 7), .lit (.int .u8 6), .lit (.int .u8 1), .lit (.int .u8 5), .lit (.int .u8 15), .lit (.int .u8 11), .lit (.int .u8 9), .lit (.int .u8 14), .lit (.int .u8 3), .lit (.int .u8 12), .lit (.int .u8 13), .lit (.int .u8 0)]]
def laid_cartouche_blake_mixings {H : Type} : DataW H := .agg [.agg [.lit (.int .u8 0), .lit (.int .u8 4), .lit (.int .u8 8), .lit (.int .u8 12)], .agg [.lit (.int .u8 1), .lit (.int .u8 5), .lit (.int .u8 9), .lit (.int .u8 13)], .agg [.lit (.int .u8 2), .lit (.int .u8 6), .lit (.int .u8 10), .lit (.int .u8 14)], .agg [.lit (.int .u8 3), .lit (.int .u8 7), .lit (.int .u8 11), .lit (.int .u8 15)], .agg [.lit (.int .u8 0), .lit (.int .u8 5), .lit (.int .u8 10), .lit (.int .u8 15)], .agg [.lit (.int .u8 1), .lit (.int .u8 6), .lit (.int .u8 11), .lit (.int .u8 12)], .agg [.lit (.int .u8 2), .lit (.int .u8 7), .lit (.int .u8 8), .lit (.int .u8 13)], .agg [.lit (.int .u8 3), .lit (.int .u8 4), .lit (.int .u8 9), .lit (.int .u8 14)]]

/-- 'cartouchelaw02.BlakeStarts': WHATEVER THE INPUT: true; the input reads as it did. -/
def blakeStartsSpec : ChangeSpec := { name := "blakeStarts", fn := fun _ => fun
  | [d] => { results := [.lit (.bool true)], args := [d] }
  | _ => none }
def blakeStartsRow : OpenClaim := { program := "ytocfaglcaefnoaadoor", sum := "729958fa34efe7da5e2707f751ce2434aeafac165b6297f3a939c01d73532a08", func := "cartouche/cartouchelaw02.BlakeStarts", spec := "blakeStarts", inPlace := ["internal/abi.NoEscape", "internal/bytealg.MakeNoZero"], unfollowed := true, recurses := true, named := ["cartouche/blake.begins", "cartouche/blake.mixings", "cartouche/blake.orders"], apart := false, laid := [("cartouche/blake.begins", laid_cartouche_blake_begins), ("cartouche/blake.orders", laid_cartouche_blake_orders), ("cartouche/blake.mixings", laid_cartouche_blake_mixings)] }
def BlakeStartsSaid : Prop := blakeStartsRow.holds Tryd.pinned (OpenSpec.ofChange blakeStartsSpec)

/-- ITS FALSE NEIGHBOUR: 'it returns false'. Refute it at one input. -/
def blakeStartsWrong : ChangeSpec := { name := "blakeStarts", fn := fun _ => fun
  | [d] => { results := [.lit (.bool false)], args := [d] }
  | _ => none }
def BlakeStartsWrongFalsely : Prop := blakeStartsRow.holds Tryd.pinned (OpenSpec.ofChange blakeStartsWrong)

/-- 'cartouchelaw02.BlakeBlocks': WHATEVER THE INPUT: true; the input reads as it did. -/
def blakeBlocksSpec : ChangeSpec := { name := "blakeBlocks", fn := fun _ => fun
  | [d] => { results := [.lit (.bool true)], args := [d] }
  | _ => none }
def blakeBlocksRow : OpenClaim := { program := "ytocfaglcaefnoaadoor", sum := "729958fa34efe7da5e2707f751ce2434aeafac165b6297f3a939c01d73532a08", func := "cartouche/cartouchelaw02.BlakeBlocks", spec := "blakeBlocks", inPlace := ["internal/abi.NoEscape", "internal/bytealg.MakeNoZero"], unfollowed := true, recurses := true, named := ["cartouche/blake.begins", "cartouche/blake.mixings", "cartouche/blake.orders"], apart := false, laid := [("cartouche/blake.begins", laid_cartouche_blake_begins), ("cartouche/blake.orders", laid_cartouche_blake_orders), ("cartouche/blake.mixings", laid_cartouche_blake_mixings)] }
def BlakeBlocksSaid : Prop := blakeBlocksRow.holds Tryd.pinned (OpenSpec.ofChange blakeBlocksSpec)

/-- ITS FALSE NEIGHBOUR: 'it returns false'. Refute it at one input. -/
def blakeBlocksWrong : ChangeSpec := { name := "blakeBlocks", fn := fun _ => fun
  | [d] => { results := [.lit (.bool false)], args := [d] }
  | _ => none }
def BlakeBlocksWrongFalsely : Prop := blakeBlocksRow.holds Tryd.pinned (OpenSpec.ofChange blakeBlocksWrong)

/-- 'cartouchelaw02.BlakeSums': WHATEVER THE INPUT: true; the input reads as it did. -/
def blakeSumsSpec : ChangeSpec := { name := "blakeSums", fn := fun _ => fun
  | [d] => { results := [.lit (.bool true)], args := [d] }
  | _ => none }
def blakeSumsRow : OpenClaim := { program := "ytocfaglcaefnoaadoor", sum := "729958fa34efe7da5e2707f751ce2434aeafac165b6297f3a939c01d73532a08", func := "cartouche/cartouchelaw02.BlakeSums", spec := "blakeSums", inPlace := ["internal/abi.NoEscape", "internal/bytealg.MakeNoZero"], unfollowed := true, recurses := true, named := ["cartouche/blake.begins", "cartouche/blake.mixings", "cartouche/blake.orders"], apart := false, laid := [("cartouche/blake.begins", laid_cartouche_blake_begins), ("cartouche/blake.orders", laid_cartouche_blake_orders), ("cartouche/blake.mixings", laid_cartouche_blake_mixings)] }
def BlakeSumsSaid : Prop := blakeSumsRow.holds Tryd.pinned (OpenSpec.ofChange blakeSumsSpec)

/-- ITS FALSE NEIGHBOUR: 'it returns false'. Refute it at one input. -/
def blakeSumsWrong : ChangeSpec := { name := "blakeSums", fn := fun _ => fun
  | [d] => { results := [.lit (.bool false)], args := [d] }
  | _ => none }
def BlakeSumsWrongFalsely : Prop := blakeSumsRow.holds Tryd.pinned (OpenSpec.ofChange blakeSumsWrong)

/-- 'cartouchelaw02.BlakeTurns': WHATEVER THE INPUT: true; the input reads as it did. -/
def blakeTurnsSpec : ChangeSpec := { name := "blakeTurns", fn := fun _ => fun
  | [d] => { results := [.lit (.bool true)], args := [d] }
  | _ => none }
def blakeTurnsRow : OpenClaim := { program := "ytocfaglcaefnoaadoor", sum := "729958fa34efe7da5e2707f751ce2434aeafac165b6297f3a939c01d73532a08", func := "cartouche/cartouchelaw02.BlakeTurns", spec := "blakeTurns", inPlace := ["internal/abi.NoEscape", "internal/bytealg.MakeNoZero"], unfollowed := true, recurses := true, named := ["cartouche/blake.begins", "cartouche/blake.mixings", "cartouche/blake.orders"], apart := false, laid := [("cartouche/blake.begins", laid_cartouche_blake_begins), ("cartouche/blake.orders", laid_cartouche_blake_orders), ("cartouche/blake.mixings", laid_cartouche_blake_mixings)] }
def BlakeTurnsSaid : Prop := blakeTurnsRow.holds Tryd.pinned (OpenSpec.ofChange blakeTurnsSpec)

/-- ITS FALSE NEIGHBOUR: 'it returns false'. Refute it at one input. -/
def blakeTurnsWrong : ChangeSpec := { name := "blakeTurns", fn := fun _ => fun
  | [d] => { results := [.lit (.bool false)], args := [d] }
  | _ => none }
def BlakeTurnsWrongFalsely : Prop := blakeTurnsRow.holds Tryd.pinned (OpenSpec.ofChange blakeTurnsWrong)

/-- 'cartouchelaw02.BlakeHex': WHATEVER THE INPUT: true; the input reads as it did. -/
def blakeHexSpec : ChangeSpec := { name := "blakeHex", fn := fun _ => fun
  | [d1, d2] => { results := [.lit (.bool true)], args := [d1, d2] }
  | _ => none }
def blakeHexRow : OpenClaim := { program := "ytocfaglcaefnoaadoor", sum := "729958fa34efe7da5e2707f751ce2434aeafac165b6297f3a939c01d73532a08", func := "cartouche/cartouchelaw02.BlakeHex", spec := "blakeHex", inPlace := ["internal/abi.NoEscape", "internal/bytealg.MakeNoZero"], unfollowed := true, recurses := true, named := ["cartouche/blake.begins", "cartouche/blake.mixings", "cartouche/blake.orders"], apart := false, laid := [("cartouche/blake.begins", laid_cartouche_blake_begins), ("cartouche/blake.orders", laid_cartouche_blake_orders), ("cartouche/blake.mixings", laid_cartouche_blake_mixings)] }
def BlakeHexSaid : Prop := blakeHexRow.holds Tryd.pinned (OpenSpec.ofChange blakeHexSpec)

/-- ITS FALSE NEIGHBOUR: 'it returns false'. Refute it at one input. -/
def blakeHexWrong : ChangeSpec := { name := "blakeHex", fn := fun _ => fun
  | [d1, d2] => { results := [.lit (.bool false)], args := [d1, d2] }
  | _ => none }
def BlakeHexWrongFalsely : Prop := blakeHexRow.holds Tryd.pinned (OpenSpec.ofChange blakeHexWrong)

/-- 'cartouchelaw02.BlakeRefuses': WHATEVER THE INPUT: true; the input reads as it did. -/
def blakeRefusesSpec : ChangeSpec := { name := "blakeRefuses", fn := fun _ => fun
  | [d] => { results := [.lit (.bool true)], args := [d] }
  | _ => none }
def blakeRefusesRow : OpenClaim := { program := "ytocfaglcaefnoaadoor", sum := "729958fa34efe7da5e2707f751ce2434aeafac165b6297f3a939c01d73532a08", func := "cartouche/cartouchelaw02.BlakeRefuses", spec := "blakeRefuses", inPlace := ["internal/abi.NoEscape", "internal/bytealg.MakeNoZero"], unfollowed := true, recurses := true, named := ["cartouche/blake.begins", "cartouche/blake.mixings", "cartouche/blake.orders"], apart := false, laid := [("cartouche/blake.begins", laid_cartouche_blake_begins), ("cartouche/blake.orders", laid_cartouche_blake_orders), ("cartouche/blake.mixings", laid_cartouche_blake_mixings)] }
def BlakeRefusesSaid : Prop := blakeRefusesRow.holds Tryd.pinned (OpenSpec.ofChange blakeRefusesSpec)

/-- ITS FALSE NEIGHBOUR: 'it returns false'. Refute it at one input. -/
def blakeRefusesWrong : ChangeSpec := { name := "blakeRefuses", fn := fun _ => fun
  | [d] => { results := [.lit (.bool false)], args := [d] }
  | _ => none }
def BlakeRefusesWrongFalsely : Prop := blakeRefusesRow.holds Tryd.pinned (OpenSpec.ofChange blakeRefusesWrong)

/-- 'cartouchelaw02.BlakeKeys': WHATEVER THE INPUT: true; the input reads as it did. -/
def blakeKeysSpec : ChangeSpec := { name := "blakeKeys", fn := fun _ => fun
  | [d1, d2] => { results := [.lit (.bool true)], args := [d1, d2] }
  | _ => none }
def blakeKeysRow : OpenClaim := { program := "ytocfaglcaefnoaadoor", sum := "729958fa34efe7da5e2707f751ce2434aeafac165b6297f3a939c01d73532a08", func := "cartouche/cartouchelaw02.BlakeKeys", spec := "blakeKeys", inPlace := ["internal/abi.NoEscape", "internal/bytealg.MakeNoZero"], unfollowed := true, recurses := true, named := ["cartouche/blake.begins", "cartouche/blake.mixings", "cartouche/blake.orders"], apart := false, laid := [("cartouche/blake.begins", laid_cartouche_blake_begins), ("cartouche/blake.orders", laid_cartouche_blake_orders), ("cartouche/blake.mixings", laid_cartouche_blake_mixings)] }
def BlakeKeysSaid : Prop := blakeKeysRow.holds Tryd.pinned (OpenSpec.ofChange blakeKeysSpec)

/-- ITS FALSE NEIGHBOUR: 'it returns false'. Refute it at one input. -/
def blakeKeysWrong : ChangeSpec := { name := "blakeKeys", fn := fun _ => fun
  | [d1, d2] => { results := [.lit (.bool false)], args := [d1, d2] }
  | _ => none }
def BlakeKeysWrongFalsely : Prop := blakeKeysRow.holds Tryd.pinned (OpenSpec.ofChange blakeKeysWrong)

/-- 'cartouchelaw02.BlakeAhead': WHATEVER THE INPUT: true; the input reads as it did. -/
def blakeAheadSpec : ChangeSpec := { name := "blakeAhead", fn := fun _ => fun
  | [d1, d2] => { results := [.lit (.bool true)], args := [d1, d2] }
  | _ => none }
def blakeAheadRow : OpenClaim := { program := "ytocfaglcaefnoaadoor", sum := "729958fa34efe7da5e2707f751ce2434aeafac165b6297f3a939c01d73532a08", func := "cartouche/cartouchelaw02.BlakeAhead", spec := "blakeAhead", inPlace := ["internal/abi.NoEscape", "internal/bytealg.MakeNoZero"], unfollowed := true, recurses := true, named := ["cartouche/blake.begins", "cartouche/blake.mixings", "cartouche/blake.orders"], apart := false, laid := [("cartouche/blake.begins", laid_cartouche_blake_begins), ("cartouche/blake.orders", laid_cartouche_blake_orders), ("cartouche/blake.mixings", laid_cartouche_blake_mixings)] }
def BlakeAheadSaid : Prop := blakeAheadRow.holds Tryd.pinned (OpenSpec.ofChange blakeAheadSpec)

/-- ITS FALSE NEIGHBOUR: 'it returns false'. Refute it at one input. -/
def blakeAheadWrong : ChangeSpec := { name := "blakeAhead", fn := fun _ => fun
  | [d1, d2] => { results := [.lit (.bool false)], args := [d1, d2] }
  | _ => none }
def BlakeAheadWrongFalsely : Prop := blakeAheadRow.holds Tryd.pinned (OpenSpec.ofChange blakeAheadWrong)

/- THE SECOND FORM. 'bulk': how many values and letters a reading holds, each counted each time it is reached (what is shared counts as often as it is met; a slice's spare places count too). A statement '..UptoSaid' is the law's where the arguments, and the package variables that the reading takes, are together of bulk at most 1048576: NARROWER than '..Said'. Prove '..Said' where nothing that the law and all that it calls make is longer than what came in: it says more and counts as full. Else prove '..UptoSaid'. A law counts once. -/
mutual
def uptoBulk {H : Type} : DataW H → Nat
  | .lit (.string bytes) => bytes.length + 1
  | .lit _ => 1
  | .nil => 1
  | .ptr d => uptoBulk d + 1
  | .slice elems spare => uptoBulkAll elems + uptoBulkAll spare + 1
  | .agg parts => uptoBulkAll parts + 1
  | .iface _ d => uptoBulk d + 1
  | .map entries => uptoBulkEntries entries + 1
  | .held _ => 1
def uptoBulkAll {H : Type} : List (DataW H) → Nat
  | [] => 0
  | d :: r => uptoBulk d + uptoBulkAll r
def uptoBulkEntries {H : Type} : List (Lit × DataW H) → Nat
  | [] => 0
  | x :: r => uptoBulkEntry x + uptoBulkEntries r
def uptoBulkEntry {H : Type} : Lit × DataW H → Nat
  | (.string bytes, d) => bytes.length + uptoBulk d + 1
  | (_, d) => uptoBulk d + 1
 end
def uptoSmall : (H : Type) → List (DataW H) → Bool := fun _ ds => decide (uptoBulkAll ds ≤ 1048576)
def OpenSpec.upto (s : _root_.Go.ChangeSpec) : _root_.Go.OpenSpec := { _root_.Go.OpenSpec.ofChange s with cond := some uptoSmall }

/-- 'cartouchelaw02.BlakeStarts', WHERE WHAT IT READS IS OF BULK AT MOST 1048576: true; the input reads as it did. -/
def blakeStartsUptoRow : OpenClaim := { program := "ytocfaglcaefnoaadoor", sum := "729958fa34efe7da5e2707f751ce2434aeafac165b6297f3a939c01d73532a08", func := "cartouche/cartouchelaw02.BlakeStarts", spec := "blakeStarts", inPlace := ["internal/abi.NoEscape", "internal/bytealg.MakeNoZero"], unfollowed := true, recurses := true, named := ["cartouche/blake.begins", "cartouche/blake.mixings", "cartouche/blake.orders"], apart := false, laid := [("cartouche/blake.begins", laid_cartouche_blake_begins), ("cartouche/blake.orders", laid_cartouche_blake_orders), ("cartouche/blake.mixings", laid_cartouche_blake_mixings)], narrowed := true }
def BlakeStartsUptoSaid : Prop := blakeStartsUptoRow.holds Tryd.pinned (OpenSpec.upto blakeStartsSpec)

/-- 'cartouchelaw02.BlakeBlocks', WHERE WHAT IT READS IS OF BULK AT MOST 1048576: true; the input reads as it did. -/
def blakeBlocksUptoRow : OpenClaim := { program := "ytocfaglcaefnoaadoor", sum := "729958fa34efe7da5e2707f751ce2434aeafac165b6297f3a939c01d73532a08", func := "cartouche/cartouchelaw02.BlakeBlocks", spec := "blakeBlocks", inPlace := ["internal/abi.NoEscape", "internal/bytealg.MakeNoZero"], unfollowed := true, recurses := true, named := ["cartouche/blake.begins", "cartouche/blake.mixings", "cartouche/blake.orders"], apart := false, laid := [("cartouche/blake.begins", laid_cartouche_blake_begins), ("cartouche/blake.orders", laid_cartouche_blake_orders), ("cartouche/blake.mixings", laid_cartouche_blake_mixings)], narrowed := true }
def BlakeBlocksUptoSaid : Prop := blakeBlocksUptoRow.holds Tryd.pinned (OpenSpec.upto blakeBlocksSpec)

/-- 'cartouchelaw02.BlakeSums', WHERE WHAT IT READS IS OF BULK AT MOST 1048576: true; the input reads as it did. -/
def blakeSumsUptoRow : OpenClaim := { program := "ytocfaglcaefnoaadoor", sum := "729958fa34efe7da5e2707f751ce2434aeafac165b6297f3a939c01d73532a08", func := "cartouche/cartouchelaw02.BlakeSums", spec := "blakeSums", inPlace := ["internal/abi.NoEscape", "internal/bytealg.MakeNoZero"], unfollowed := true, recurses := true, named := ["cartouche/blake.begins", "cartouche/blake.mixings", "cartouche/blake.orders"], apart := false, laid := [("cartouche/blake.begins", laid_cartouche_blake_begins), ("cartouche/blake.orders", laid_cartouche_blake_orders), ("cartouche/blake.mixings", laid_cartouche_blake_mixings)], narrowed := true }
def BlakeSumsUptoSaid : Prop := blakeSumsUptoRow.holds Tryd.pinned (OpenSpec.upto blakeSumsSpec)

/-- 'cartouchelaw02.BlakeTurns', WHERE WHAT IT READS IS OF BULK AT MOST 1048576: true; the input reads as it did. -/
def blakeTurnsUptoRow : OpenClaim := { program := "ytocfaglcaefnoaadoor", sum := "729958fa34efe7da5e2707f751ce2434aeafac165b6297f3a939c01d73532a08", func := "cartouche/cartouchelaw02.BlakeTurns", spec := "blakeTurns", inPlace := ["internal/abi.NoEscape", "internal/bytealg.MakeNoZero"], unfollowed := true, recurses := true, named := ["cartouche/blake.begins", "cartouche/blake.mixings", "cartouche/blake.orders"], apart := false, laid := [("cartouche/blake.begins", laid_cartouche_blake_begins), ("cartouche/blake.orders", laid_cartouche_blake_orders), ("cartouche/blake.mixings", laid_cartouche_blake_mixings)], narrowed := true }
def BlakeTurnsUptoSaid : Prop := blakeTurnsUptoRow.holds Tryd.pinned (OpenSpec.upto blakeTurnsSpec)

/-- 'cartouchelaw02.BlakeHex', WHERE WHAT IT READS IS OF BULK AT MOST 1048576: true; the input reads as it did. -/
def blakeHexUptoRow : OpenClaim := { program := "ytocfaglcaefnoaadoor", sum := "729958fa34efe7da5e2707f751ce2434aeafac165b6297f3a939c01d73532a08", func := "cartouche/cartouchelaw02.BlakeHex", spec := "blakeHex", inPlace := ["internal/abi.NoEscape", "internal/bytealg.MakeNoZero"], unfollowed := true, recurses := true, named := ["cartouche/blake.begins", "cartouche/blake.mixings", "cartouche/blake.orders"], apart := false, laid := [("cartouche/blake.begins", laid_cartouche_blake_begins), ("cartouche/blake.orders", laid_cartouche_blake_orders), ("cartouche/blake.mixings", laid_cartouche_blake_mixings)], narrowed := true }
def BlakeHexUptoSaid : Prop := blakeHexUptoRow.holds Tryd.pinned (OpenSpec.upto blakeHexSpec)

/-- 'cartouchelaw02.BlakeRefuses', WHERE WHAT IT READS IS OF BULK AT MOST 1048576: true; the input reads as it did. -/
def blakeRefusesUptoRow : OpenClaim := { program := "ytocfaglcaefnoaadoor", sum := "729958fa34efe7da5e2707f751ce2434aeafac165b6297f3a939c01d73532a08", func := "cartouche/cartouchelaw02.BlakeRefuses", spec := "blakeRefuses", inPlace := ["internal/abi.NoEscape", "internal/bytealg.MakeNoZero"], unfollowed := true, recurses := true, named := ["cartouche/blake.begins", "cartouche/blake.mixings", "cartouche/blake.orders"], apart := false, laid := [("cartouche/blake.begins", laid_cartouche_blake_begins), ("cartouche/blake.orders", laid_cartouche_blake_orders), ("cartouche/blake.mixings", laid_cartouche_blake_mixings)], narrowed := true }
def BlakeRefusesUptoSaid : Prop := blakeRefusesUptoRow.holds Tryd.pinned (OpenSpec.upto blakeRefusesSpec)

/-- 'cartouchelaw02.BlakeKeys', WHERE WHAT IT READS IS OF BULK AT MOST 1048576: true; the input reads as it did. -/
def blakeKeysUptoRow : OpenClaim := { program := "ytocfaglcaefnoaadoor", sum := "729958fa34efe7da5e2707f751ce2434aeafac165b6297f3a939c01d73532a08", func := "cartouche/cartouchelaw02.BlakeKeys", spec := "blakeKeys", inPlace := ["internal/abi.NoEscape", "internal/bytealg.MakeNoZero"], unfollowed := true, recurses := true, named := ["cartouche/blake.begins", "cartouche/blake.mixings", "cartouche/blake.orders"], apart := false, laid := [("cartouche/blake.begins", laid_cartouche_blake_begins), ("cartouche/blake.orders", laid_cartouche_blake_orders), ("cartouche/blake.mixings", laid_cartouche_blake_mixings)], narrowed := true }
def BlakeKeysUptoSaid : Prop := blakeKeysUptoRow.holds Tryd.pinned (OpenSpec.upto blakeKeysSpec)

/-- 'cartouchelaw02.BlakeAhead', WHERE WHAT IT READS IS OF BULK AT MOST 1048576: true; the input reads as it did. -/
def blakeAheadUptoRow : OpenClaim := { program := "ytocfaglcaefnoaadoor", sum := "729958fa34efe7da5e2707f751ce2434aeafac165b6297f3a939c01d73532a08", func := "cartouche/cartouchelaw02.BlakeAhead", spec := "blakeAhead", inPlace := ["internal/abi.NoEscape", "internal/bytealg.MakeNoZero"], unfollowed := true, recurses := true, named := ["cartouche/blake.begins", "cartouche/blake.mixings", "cartouche/blake.orders"], apart := false, laid := [("cartouche/blake.begins", laid_cartouche_blake_begins), ("cartouche/blake.orders", laid_cartouche_blake_orders), ("cartouche/blake.mixings", laid_cartouche_blake_mixings)], narrowed := true }
def BlakeAheadUptoSaid : Prop := blakeAheadUptoRow.holds Tryd.pinned (OpenSpec.upto blakeAheadSpec)

end Rows
end Go.Proofs.YtocfaglcaefnoaaDoor
