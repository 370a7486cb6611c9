/-
  NARROWER THAN 'FOR EVERY INPUT', by the rows' own cells (each row's printed sentence says how): ChainMakes: laid · ChainGrows: laid · ChainSums: laid · ChainHolds: laid · ChainBroken: laid · ChainDiffer: laid · ChainHonest: laid · ChainChecks: laid.
  DERIVED. THE GIVEN ROWS OF THIS SEAT. 8 by the template 'for every input the law returns true; each argument reads behind the call as it read before'; 0 by the template 'total and deterministic' (their statements: YtnigomohlgcojaaDoorTotals.lean).
  GIVEN WITH THE SEED: the statements are not yours to turn. If you find one false, say at which input.
  Laid BY PROGRAM, IN A SANDBOX (cutbox-rows.mjs): the forced cells as the released guide's own fill.sh prints them over the translation 9f5d6512c58e0f60… (all of the seat's roots in one cut). By AI agents, Wed Nov 11 2026. No macro, syntax, notation, axiom, sorry.
-/
import Derived.Test.YtnigomohlgcojaaDoorChecked
import GoSem.Claim
import GoSem.ClaimJoined
import GoSem.ClaimMapViews
import Derived.JoinedTies
import Derived.KernelRfl
namespace Go.Proofs.YtnigomohlgcojaaDoor
/- THE CELL 'sum', in the pinned program and in every row, IS THE sha256 OF THE DUMP (.gsa) THAT YtnigomohlgcojaaDoorProg.lean LOADS. Nothing in Lean hashes anything: it is a label: what it is worth is what the hold of that sum in a sandbox is worth. -/
noncomputable def Tryd.pinned : Pinned := { name := "ytnigomohlgcojaadoor", sum := "9f5d6512c58e0f60d680e886af51b1a507bfb23664ef5a7369066ba564b6d121", checked := Tryd.checked }
namespace Rows
def none {H : Type} : Left H := { results := [], args := [] }

/- WHAT THE LISTED PACKAGE-LEVEL VARIABLES READ AS WHEN THE CALL BEGINS. Each datum BY PROGRAM (the guide's laid-datum.mjs) off the statement by which the dump's own 'gosem.cut.vars' lays the variable. In a bare row this is a premise. The card (YtnigomohlgcojaaDoorCards.lean) ties it to the program's text. -/
def laid_cartouche_blake_begins {H : Type} : DataW H := .agg [.lit (.int .u32 1779033703), .lit (.int .u32 3144134277), .lit (.int .u32 1013904242), .lit (.int .u32 2773480762), .lit (.int .u32 1359893119), .lit (.int .u32 2600822924), .lit (.int .u32 528734635), .lit (.int .u32 1541459225)]
def laid_cartouche_blake_orders {H : Type} : DataW H := .agg [.agg [.lit (.int .u8 0), .lit (.int .u8 1), .lit (.int .u8 2), .lit (.int .u8 3), .lit (.int .u8 4), .lit (.int .u8 5), .lit (.int .u8 6), .lit (.int .u8 7), .lit (.int .u8 8), .lit (.int .u8 9), .lit (.int .u8 10), .lit (.int .u8 11), .lit (.int .u8 12), .lit (.int .u8 13), .lit (.int .u8 14), .lit (.int .u8 15)], .agg [.lit (.int .u8 14), .lit (.int .u8 10), .lit (.int .u8 4), .lit (.int .u8 8), .lit (.int .u8 9), .lit (.int .u8 15), .lit (.int .u8 13), .lit (.int .u8 6), .lit (.int .u8 1), .lit (.int .u8 12), .lit (.int .u8 0), .lit (.int .u8 2), .lit (.int .u8 11), .lit (.int .u8 7), .lit (.int .u8 5), .lit (.int .u8 3)], .agg [.lit (.int .u8 11), .lit (.int .u8 8), .lit (.int .u8 12), .lit (.int .u8 0), .lit (.int .u8 5), .lit (.int .u8 2), .lit (.int .u8 15), .lit (.int .u8 13), .lit (.int .u8 10), .lit (.int .u8 14), .lit (.int .u8 3), .lit (.int .u8 6), .lit (.int .u8 7), .lit (.int .u8 1), .lit (.int .u8 9), .lit (.int .u8 4)], .agg [.lit (.int .u8 7), .lit (.int .u8 9), .lit (.int .u8 3), .lit (.int .u8 1), .lit (.int .u8 13), .lit (.int .u8 12), .lit (.int .u8 11), .lit (.int .u8 14), .lit (.int .u8 2), .lit (.int .u8 6), .lit (.int .u8 5), .lit (.int .u8 10), .lit (.int .u8 4), .lit (.int .u8 0), .lit (.int .u8 15), .lit (.int .u8 8)], .agg [.lit (.int .u8 9), .lit (.int .u8 0), .lit (.int .u8 5), .lit (.int .u8 7), .lit (.int .u8 2), .lit (.int .u8 4), .lit (.int .u8 10), .lit (.int .u8 15), .lit (.int .u8 14), .lit (.int .u8 1), .lit (.int .u8 11), .lit (.int .u8 12), .lit (.int .u8 6), .lit (.int .u8 8), .lit (.int .u8 3), .lit (.int .u8 13)], .agg [.lit (.int .u8 2), .lit (.int .u8 12), .lit (.int .u8 6), .lit (.int .u8 10), .lit (.int .u8 0), .lit (.int .u8 11), .lit (.int .u8 8), .lit (.int .u8 3), .lit (.int .u8 4), .lit (.int .u8 13), .lit (.int .u8 7), .lit (.int .u8 5), .lit (.int .u8 15), .lit (.int .u8 14), .lit (.int .u8 1), .lit (.int .u8 9)], .agg [.lit (.int .u8 12), .lit (.int .u8 5), .lit (.int .u8 1), .lit (.int .u8 15), .lit (.int .u8 14), .lit (.int .u8 13), .lit (.int .u8 4), .lit (.int .u8 10), .lit (.int .u8 0), .lit (.int .u8 7), .lit (.int .u8 6), .lit (.int .u8 3), .lit (.int .u8 9), .lit (.int .u8 2), .lit (.int .u8 8), .lit (.int .u8 11)], .agg [.lit (.int .u8 13), .lit (.int .u8 11), .lit (.int .u8 7), .lit (.int .u8 14), .lit (.int .u8 12), .lit (.int .u8 1), .lit (.int .u8 3), .lit (.int .u8 9), .lit (.int .u8 5), .lit (.int .u8 0), .lit (.int .u8 15), .lit (.int .u8 4), .lit (.int .u8 8), .lit (.int .u8 6), .lit (.int .u8 2), .lit (.int .u8 10)], .agg [.lit (.int .u8 6), .lit (.int .u8 15), .lit (.int .u8 14), .lit (.int .u8 9), .lit (.int .u8 11), .lit (.int .u8 3), .lit (.int .u8 0), .lit (.int .u8 8), .lit (.int .u8 12), .lit (.int .u8 2), .lit (.int .u8 13), .lit (.int .u8 7), .lit (.int .u8 1), .lit (.int .u8 4), .lit (.int .u8 10), .lit (.int .u8 5)], .agg [.lit (.int .u8 10), .lit (.int .u8 2), .lit (.int .u8 8), .lit (.int .u8 4), .lit (.int .u8 7), .lit (.int .u8 6), .lit (.int .u8 1), .lit (.int .u8 5), .lit (.int .u8 15), .lit (.int .u8 11), .lit (.int .u8 9), .lit (.int .u8 14), .lit (.int .u8 3), .lit (.int .u8 12), .lit (.int .u8 13), .lit (.int .u8 0)]]
def laid_cartouche_blake_mixings {H : Type} : DataW H := .agg [.agg [.lit (.int .u8 0), .lit (.int .u8 4), .lit (.int .u8 8), .lit (.int .u8 12)], .agg [.lit (.int .u8 1), .lit (.int .u8 5), .lit (.int .u8 9), .lit (.int .u8 13)], .agg [.lit (.int .u8 2), .lit (.int .u8 6), .lit (.int .u8 10), .lit (.int .u8 14)], .agg [.lit (.int .u8 3), .lit (.int .u8 7), .lit (.int .u8 11), .lit (.int .u8 15)], .agg [.lit (.int .u8 0), .lit (.int .u8 5), .lit (.int .u8 10), .lit (.int .u8 15)], .agg [.lit (.int .u8 1), .lit (.int .u8 6), .lit (.int .u8 11), .lit (.int .u8 12)], .agg [.lit (.int .u8 2), .lit (.int .u8 7), .lit (.int .u8 8), .lit (.int .u8 13)], .agg [.lit (.int .u8 3), .lit (.int .u8 4), .lit (.int .u8 9), .lit (.int .u8 14)]]

/-- 'cartouchelaw04.ChainMakes': WHATEVER THE INPUT: true; the input reads as it did. -/
def chainMakesSpec : ChangeSpec := { name := "chainMakes", fn := fun _ => fun
  | [d1, d2, d3] => { results := [.lit (.bool true)], args := [d1, d2, d3] }
  | _ => none }
def chainMakesRow : OpenClaim := { program := "ytnigomohlgcojaadoor", sum := "9f5d6512c58e0f60d680e886af51b1a507bfb23664ef5a7369066ba564b6d121", func := "cartouche/cartouchelaw04.ChainMakes", spec := "chainMakes", inPlace := ["internal/abi.NoEscape", "internal/bytealg.MakeNoZero"], unfollowed := true, recurses := true, named := ["cartouche/blake.begins", "cartouche/blake.mixings", "cartouche/blake.orders"], apart := false, laid := [("cartouche/blake.begins", laid_cartouche_blake_begins), ("cartouche/blake.orders", laid_cartouche_blake_orders), ("cartouche/blake.mixings", laid_cartouche_blake_mixings)] }
def ChainMakesSaid : Prop := chainMakesRow.holds Tryd.pinned (OpenSpec.ofChange chainMakesSpec)

/-- ITS FALSE NEIGHBOUR: 'it returns false'. Refute it at one input. -/
def chainMakesWrong : ChangeSpec := { name := "chainMakes", fn := fun _ => fun
  | [d1, d2, d3] => { results := [.lit (.bool false)], args := [d1, d2, d3] }
  | _ => none }
def ChainMakesWrongFalsely : Prop := chainMakesRow.holds Tryd.pinned (OpenSpec.ofChange chainMakesWrong)

/-- 'cartouchelaw04.ChainGrows': WHATEVER THE INPUT: true; the input reads as it did. -/
def chainGrowsSpec : ChangeSpec := { name := "chainGrows", fn := fun _ => fun
  | [d1, d2] => { results := [.lit (.bool true)], args := [d1, d2] }
  | _ => none }
def chainGrowsRow : OpenClaim := { program := "ytnigomohlgcojaadoor", sum := "9f5d6512c58e0f60d680e886af51b1a507bfb23664ef5a7369066ba564b6d121", func := "cartouche/cartouchelaw04.ChainGrows", spec := "chainGrows", inPlace := ["internal/abi.NoEscape", "internal/bytealg.MakeNoZero"], unfollowed := true, recurses := true, named := ["cartouche/blake.begins", "cartouche/blake.mixings", "cartouche/blake.orders"], apart := false, laid := [("cartouche/blake.begins", laid_cartouche_blake_begins), ("cartouche/blake.orders", laid_cartouche_blake_orders), ("cartouche/blake.mixings", laid_cartouche_blake_mixings)] }
def ChainGrowsSaid : Prop := chainGrowsRow.holds Tryd.pinned (OpenSpec.ofChange chainGrowsSpec)

/-- ITS FALSE NEIGHBOUR: 'it returns false'. Refute it at one input. -/
def chainGrowsWrong : ChangeSpec := { name := "chainGrows", fn := fun _ => fun
  | [d1, d2] => { results := [.lit (.bool false)], args := [d1, d2] }
  | _ => none }
def ChainGrowsWrongFalsely : Prop := chainGrowsRow.holds Tryd.pinned (OpenSpec.ofChange chainGrowsWrong)

/-- 'cartouchelaw04.ChainSums': WHATEVER THE INPUT: true; the input reads as it did. -/
def chainSumsSpec : ChangeSpec := { name := "chainSums", fn := fun _ => fun
  | [d1, d2] => { results := [.lit (.bool true)], args := [d1, d2] }
  | _ => none }
def chainSumsRow : OpenClaim := { program := "ytnigomohlgcojaadoor", sum := "9f5d6512c58e0f60d680e886af51b1a507bfb23664ef5a7369066ba564b6d121", func := "cartouche/cartouchelaw04.ChainSums", spec := "chainSums", inPlace := ["internal/abi.NoEscape", "internal/bytealg.MakeNoZero"], unfollowed := true, recurses := true, named := ["cartouche/blake.begins", "cartouche/blake.mixings", "cartouche/blake.orders"], apart := false, laid := [("cartouche/blake.begins", laid_cartouche_blake_begins), ("cartouche/blake.orders", laid_cartouche_blake_orders), ("cartouche/blake.mixings", laid_cartouche_blake_mixings)] }
def ChainSumsSaid : Prop := chainSumsRow.holds Tryd.pinned (OpenSpec.ofChange chainSumsSpec)

/-- ITS FALSE NEIGHBOUR: 'it returns false'. Refute it at one input. -/
def chainSumsWrong : ChangeSpec := { name := "chainSums", fn := fun _ => fun
  | [d1, d2] => { results := [.lit (.bool false)], args := [d1, d2] }
  | _ => none }
def ChainSumsWrongFalsely : Prop := chainSumsRow.holds Tryd.pinned (OpenSpec.ofChange chainSumsWrong)

/-- 'cartouchelaw04.ChainHolds': WHATEVER THE INPUT: true; the input reads as it did. -/
def chainHoldsSpec : ChangeSpec := { name := "chainHolds", fn := fun _ => fun
  | [d1, d2] => { results := [.lit (.bool true)], args := [d1, d2] }
  | _ => none }
def chainHoldsRow : OpenClaim := { program := "ytnigomohlgcojaadoor", sum := "9f5d6512c58e0f60d680e886af51b1a507bfb23664ef5a7369066ba564b6d121", func := "cartouche/cartouchelaw04.ChainHolds", spec := "chainHolds", inPlace := ["internal/abi.NoEscape", "internal/bytealg.MakeNoZero"], unfollowed := true, recurses := true, named := ["cartouche/blake.begins", "cartouche/blake.mixings", "cartouche/blake.orders"], apart := false, laid := [("cartouche/blake.begins", laid_cartouche_blake_begins), ("cartouche/blake.orders", laid_cartouche_blake_orders), ("cartouche/blake.mixings", laid_cartouche_blake_mixings)] }
def ChainHoldsSaid : Prop := chainHoldsRow.holds Tryd.pinned (OpenSpec.ofChange chainHoldsSpec)

/-- ITS FALSE NEIGHBOUR: 'it returns false'. Refute it at one input. -/
def chainHoldsWrong : ChangeSpec := { name := "chainHolds", fn := fun _ => fun
  | [d1, d2] => { results := [.lit (.bool false)], args := [d1, d2] }
  | _ => none }
def ChainHoldsWrongFalsely : Prop := chainHoldsRow.holds Tryd.pinned (OpenSpec.ofChange chainHoldsWrong)

/-- 'cartouchelaw04.ChainBroken': WHATEVER THE INPUT: true; the input reads as it did. -/
def chainBrokenSpec : ChangeSpec := { name := "chainBroken", fn := fun _ => fun
  | [d1, d2, d3] => { results := [.lit (.bool true)], args := [d1, d2, d3] }
  | _ => none }
def chainBrokenRow : OpenClaim := { program := "ytnigomohlgcojaadoor", sum := "9f5d6512c58e0f60d680e886af51b1a507bfb23664ef5a7369066ba564b6d121", func := "cartouche/cartouchelaw04.ChainBroken", spec := "chainBroken", inPlace := ["internal/abi.NoEscape", "internal/bytealg.MakeNoZero"], unfollowed := true, recurses := true, named := ["cartouche/blake.begins", "cartouche/blake.mixings", "cartouche/blake.orders"], apart := false, laid := [("cartouche/blake.begins", laid_cartouche_blake_begins), ("cartouche/blake.orders", laid_cartouche_blake_orders), ("cartouche/blake.mixings", laid_cartouche_blake_mixings)] }
def ChainBrokenSaid : Prop := chainBrokenRow.holds Tryd.pinned (OpenSpec.ofChange chainBrokenSpec)

/-- ITS FALSE NEIGHBOUR: 'it returns false'. Refute it at one input. -/
def chainBrokenWrong : ChangeSpec := { name := "chainBroken", fn := fun _ => fun
  | [d1, d2, d3] => { results := [.lit (.bool false)], args := [d1, d2, d3] }
  | _ => none }
def ChainBrokenWrongFalsely : Prop := chainBrokenRow.holds Tryd.pinned (OpenSpec.ofChange chainBrokenWrong)

/-- 'cartouchelaw04.ChainDiffer': WHATEVER THE INPUT: true; the input reads as it did. -/
def chainDifferSpec : ChangeSpec := { name := "chainDiffer", fn := fun _ => fun
  | [d1, d2] => { results := [.lit (.bool true)], args := [d1, d2] }
  | _ => none }
def chainDifferRow : OpenClaim := { program := "ytnigomohlgcojaadoor", sum := "9f5d6512c58e0f60d680e886af51b1a507bfb23664ef5a7369066ba564b6d121", func := "cartouche/cartouchelaw04.ChainDiffer", spec := "chainDiffer", inPlace := ["internal/abi.NoEscape", "internal/bytealg.MakeNoZero"], unfollowed := true, recurses := true, named := ["cartouche/blake.begins", "cartouche/blake.mixings", "cartouche/blake.orders"], apart := false, laid := [("cartouche/blake.begins", laid_cartouche_blake_begins), ("cartouche/blake.orders", laid_cartouche_blake_orders), ("cartouche/blake.mixings", laid_cartouche_blake_mixings)] }
def ChainDifferSaid : Prop := chainDifferRow.holds Tryd.pinned (OpenSpec.ofChange chainDifferSpec)

/-- ITS FALSE NEIGHBOUR: 'it returns false'. Refute it at one input. -/
def chainDifferWrong : ChangeSpec := { name := "chainDiffer", fn := fun _ => fun
  | [d1, d2] => { results := [.lit (.bool false)], args := [d1, d2] }
  | _ => none }
def ChainDifferWrongFalsely : Prop := chainDifferRow.holds Tryd.pinned (OpenSpec.ofChange chainDifferWrong)

/-- 'cartouchelaw04.ChainHonest': WHATEVER THE INPUT: true; the input reads as it did. -/
def chainHonestSpec : ChangeSpec := { name := "chainHonest", fn := fun _ => fun
  | [d1, d2] => { results := [.lit (.bool true)], args := [d1, d2] }
  | _ => none }
def chainHonestRow : OpenClaim := { program := "ytnigomohlgcojaadoor", sum := "9f5d6512c58e0f60d680e886af51b1a507bfb23664ef5a7369066ba564b6d121", func := "cartouche/cartouchelaw04.ChainHonest", spec := "chainHonest", inPlace := ["internal/abi.NoEscape", "internal/bytealg.MakeNoZero"], unfollowed := true, recurses := true, named := ["cartouche/blake.begins", "cartouche/blake.mixings", "cartouche/blake.orders"], apart := false, laid := [("cartouche/blake.begins", laid_cartouche_blake_begins), ("cartouche/blake.orders", laid_cartouche_blake_orders), ("cartouche/blake.mixings", laid_cartouche_blake_mixings)] }
def ChainHonestSaid : Prop := chainHonestRow.holds Tryd.pinned (OpenSpec.ofChange chainHonestSpec)

/-- ITS FALSE NEIGHBOUR: 'it returns false'. Refute it at one input. -/
def chainHonestWrong : ChangeSpec := { name := "chainHonest", fn := fun _ => fun
  | [d1, d2] => { results := [.lit (.bool false)], args := [d1, d2] }
  | _ => none }
def ChainHonestWrongFalsely : Prop := chainHonestRow.holds Tryd.pinned (OpenSpec.ofChange chainHonestWrong)

/-- 'cartouchelaw04.ChainChecks': WHATEVER THE INPUT: true; the input reads as it did. -/
def chainChecksSpec : ChangeSpec := { name := "chainChecks", fn := fun _ => fun
  | [d] => { results := [.lit (.bool true)], args := [d] }
  | _ => none }
def chainChecksRow : OpenClaim := { program := "ytnigomohlgcojaadoor", sum := "9f5d6512c58e0f60d680e886af51b1a507bfb23664ef5a7369066ba564b6d121", func := "cartouche/cartouchelaw04.ChainChecks", spec := "chainChecks", inPlace := ["internal/abi.NoEscape", "internal/bytealg.MakeNoZero"], unfollowed := true, recurses := true, named := ["cartouche/blake.begins", "cartouche/blake.mixings", "cartouche/blake.orders"], apart := false, laid := [("cartouche/blake.begins", laid_cartouche_blake_begins), ("cartouche/blake.orders", laid_cartouche_blake_orders), ("cartouche/blake.mixings", laid_cartouche_blake_mixings)] }
def ChainChecksSaid : Prop := chainChecksRow.holds Tryd.pinned (OpenSpec.ofChange chainChecksSpec)

/-- ITS FALSE NEIGHBOUR: 'it returns false'. Refute it at one input. -/
def chainChecksWrong : ChangeSpec := { name := "chainChecks", fn := fun _ => fun
  | [d] => { results := [.lit (.bool false)], args := [d] }
  | _ => none }
def ChainChecksWrongFalsely : Prop := chainChecksRow.holds Tryd.pinned (OpenSpec.ofChange chainChecksWrong)

/- THE SECOND FORM. 'bulk': how many values and letters a reading holds, each counted each time it is reached (what is shared counts as often as it is met; a slice's spare places count too). A statement '..UptoSaid' is the law's where the arguments, and the package variables that the reading takes, are together of bulk at most 1048576: NARROWER than '..Said'. Prove '..Said' where nothing that the law and all that it calls make is longer than what came in: it says more and counts as full. Else prove '..UptoSaid'. A law counts once. -/
mutual
def uptoBulk {H : Type} : DataW H → Nat
  | .lit (.string bytes) => bytes.length + 1
  | .lit _ => 1
  | .nil => 1
  | .ptr d => uptoBulk d + 1
  | .slice elems spare => uptoBulkAll elems + uptoBulkAll spare + 1
  | .agg parts => uptoBulkAll parts + 1
  | .iface _ d => uptoBulk d + 1
  | .map entries => uptoBulkEntries entries + 1
  | .held _ => 1
def uptoBulkAll {H : Type} : List (DataW H) → Nat
  | [] => 0
  | d :: r => uptoBulk d + uptoBulkAll r
def uptoBulkEntries {H : Type} : List (Lit × DataW H) → Nat
  | [] => 0
  | x :: r => uptoBulkEntry x + uptoBulkEntries r
def uptoBulkEntry {H : Type} : Lit × DataW H → Nat
  | (.string bytes, d) => bytes.length + uptoBulk d + 1
  | (_, d) => uptoBulk d + 1
 end
def uptoSmall : (H : Type) → List (DataW H) → Bool := fun _ ds => decide (uptoBulkAll ds ≤ 1048576)
def OpenSpec.upto (s : _root_.Go.ChangeSpec) : _root_.Go.OpenSpec := { _root_.Go.OpenSpec.ofChange s with cond := some uptoSmall }

/-- 'cartouchelaw04.ChainMakes', WHERE WHAT IT READS IS OF BULK AT MOST 1048576: true; the input reads as it did. -/
def chainMakesUptoRow : OpenClaim := { program := "ytnigomohlgcojaadoor", sum := "9f5d6512c58e0f60d680e886af51b1a507bfb23664ef5a7369066ba564b6d121", func := "cartouche/cartouchelaw04.ChainMakes", spec := "chainMakes", inPlace := ["internal/abi.NoEscape", "internal/bytealg.MakeNoZero"], unfollowed := true, recurses := true, named := ["cartouche/blake.begins", "cartouche/blake.mixings", "cartouche/blake.orders"], apart := false, laid := [("cartouche/blake.begins", laid_cartouche_blake_begins), ("cartouche/blake.orders", laid_cartouche_blake_orders), ("cartouche/blake.mixings", laid_cartouche_blake_mixings)], narrowed := true }
def ChainMakesUptoSaid : Prop := chainMakesUptoRow.holds Tryd.pinned (OpenSpec.upto chainMakesSpec)

/-- 'cartouchelaw04.ChainGrows', WHERE WHAT IT READS IS OF BULK AT MOST 1048576: true; the input reads as it did. -/
def chainGrowsUptoRow : OpenClaim := { program := "ytnigomohlgcojaadoor", sum := "9f5d6512c58e0f60d680e886af51b1a507bfb23664ef5a7369066ba564b6d121", func := "cartouche/cartouchelaw04.ChainGrows", spec := "chainGrows", inPlace := ["internal/abi.NoEscape", "internal/bytealg.MakeNoZero"], unfollowed := true, recurses := true, named := ["cartouche/blake.begins", "cartouche/blake.mixings", "cartouche/blake.orders"], apart := false, laid := [("cartouche/blake.begins", laid_cartouche_blake_begins), ("cartouche/blake.orders", laid_cartouche_blake_orders), ("cartouche/blake.mixings", laid_cartouche_blake_mixings)], narrowed := true }
def ChainGrowsUptoSaid : Prop := chainGrowsUptoRow.holds Tryd.pinned (OpenSpec.upto chainGrowsSpec)

/-- 'cartouchelaw04.ChainSums', WHERE WHAT IT READS IS OF BULK AT MOST 1048576: true; the input reads as it did. -/
def chainSumsUptoRow : OpenClaim := { program := "ytnigomohlgcojaadoor", sum := "9f5d6512c58e0f60d680e886af51b1a507bfb23664ef5a7369066ba564b6d121", func := "cartouche/cartouchelaw04.ChainSums", spec := "chainSums", inPlace := ["internal/abi.NoEscape", "internal/bytealg.MakeNoZero"], unfollowed := true, recurses := true, named := ["cartouche/blake.begins", "cartouche/blake.mixings", "cartouche/blake.orders"], apart := false, laid := [("cartouche/blake.begins", laid_cartouche_blake_begins), ("cartouche/blake.orders", laid_cartouche_blake_orders), ("cartouche/blake.mixings", laid_cartouche_blake_mixings)], narrowed := true }
def ChainSumsUptoSaid : Prop := chainSumsUptoRow.holds Tryd.pinned (OpenSpec.upto chainSumsSpec)

/-- 'cartouchelaw04.ChainHolds', WHERE WHAT IT READS IS OF BULK AT MOST 1048576: true; the input reads as it did. -/
def chainHoldsUptoRow : OpenClaim := { program := "ytnigomohlgcojaadoor", sum := "9f5d6512c58e0f60d680e886af51b1a507bfb23664ef5a7369066ba564b6d121", func := "cartouche/cartouchelaw04.ChainHolds", spec := "chainHolds", inPlace := ["internal/abi.NoEscape", "internal/bytealg.MakeNoZero"], unfollowed := true, recurses := true, named := ["cartouche/blake.begins", "cartouche/blake.mixings", "cartouche/blake.orders"], apart := false, laid := [("cartouche/blake.begins", laid_cartouche_blake_begins), ("cartouche/blake.orders", laid_cartouche_blake_orders), ("cartouche/blake.mixings", laid_cartouche_blake_mixings)], narrowed := true }
def ChainHoldsUptoSaid : Prop := chainHoldsUptoRow.holds Tryd.pinned (OpenSpec.upto chainHoldsSpec)

/-- 'cartouchelaw04.ChainBroken', WHERE WHAT IT READS IS OF BULK AT MOST 1048576: true; the input reads as it did. -/
def chainBrokenUptoRow : OpenClaim := { program := "ytnigomohlgcojaadoor", sum := "9f5d6512c58e0f60d680e886af51b1a507bfb23664ef5a7369066ba564b6d121", func := "cartouche/cartouchelaw04.ChainBroken", spec := "chainBroken", inPlace := ["internal/abi.NoEscape", "internal/bytealg.MakeNoZero"], unfollowed := true, recurses := true, named := ["cartouche/blake.begins", "cartouche/blake.mixings", "cartouche/blake.orders"], apart := false, laid := [("cartouche/blake.begins", laid_cartouche_blake_begins), ("cartouche/blake.orders", laid_cartouche_blake_orders), ("cartouche/blake.mixings", laid_cartouche_blake_mixings)], narrowed := true }
def ChainBrokenUptoSaid : Prop := chainBrokenUptoRow.holds Tryd.pinned (OpenSpec.upto chainBrokenSpec)

/-- 'cartouchelaw04.ChainDiffer', WHERE WHAT IT READS IS OF BULK AT MOST 1048576: true; the input reads as it did. -/
def chainDifferUptoRow : OpenClaim := { program := "ytnigomohlgcojaadoor", sum := "9f5d6512c58e0f60d680e886af51b1a507bfb23664ef5a7369066ba564b6d121", func := "cartouche/cartouchelaw04.ChainDiffer", spec := "chainDiffer", inPlace := ["internal/abi.NoEscape", "internal/bytealg.MakeNoZero"], unfollowed := true, recurses := true, named := ["cartouche/blake.begins", "cartouche/blake.mixings", "cartouche/blake.orders"], apart := false, laid := [("cartouche/blake.begins", laid_cartouche_blake_begins), ("cartouche/blake.orders", laid_cartouche_blake_orders), ("cartouche/blake.mixings", laid_cartouche_blake_mixings)], narrowed := true }
def ChainDifferUptoSaid : Prop := chainDifferUptoRow.holds Tryd.pinned (OpenSpec.upto chainDifferSpec)

/-- 'cartouchelaw04.ChainHonest', WHERE WHAT IT READS IS OF BULK AT MOST 1048576: true; the input reads as it did. -/
def chainHonestUptoRow : OpenClaim := { program := "ytnigomohlgcojaadoor", sum := "9f5d6512c58e0f60d680e886af51b1a507bfb23664ef5a7369066ba564b6d121", func := "cartouche/cartouchelaw04.ChainHonest", spec := "chainHonest", inPlace := ["internal/abi.NoEscape", "internal/bytealg.MakeNoZero"], unfollowed := true, recurses := true, named := ["cartouche/blake.begins", "cartouche/blake.mixings", "cartouche/blake.orders"], apart := false, laid := [("cartouche/blake.begins", laid_cartouche_blake_begins), ("cartouche/blake.orders", laid_cartouche_blake_orders), ("cartouche/blake.mixings", laid_cartouche_blake_mixings)], narrowed := true }
def ChainHonestUptoSaid : Prop := chainHonestUptoRow.holds Tryd.pinned (OpenSpec.upto chainHonestSpec)

/-- 'cartouchelaw04.ChainChecks', WHERE WHAT IT READS IS OF BULK AT MOST 1048576: true; the input reads as it did. -/
def chainChecksUptoRow : OpenClaim := { program := "ytnigomohlgcojaadoor", sum := "9f5d6512c58e0f60d680e886af51b1a507bfb23664ef5a7369066ba564b6d121", func := "cartouche/cartouchelaw04.ChainChecks", spec := "chainChecks", inPlace := ["internal/abi.NoEscape", "internal/bytealg.MakeNoZero"], unfollowed := true, recurses := true, named := ["cartouche/blake.begins", "cartouche/blake.mixings", "cartouche/blake.orders"], apart := false, laid := [("cartouche/blake.begins", laid_cartouche_blake_begins), ("cartouche/blake.orders", laid_cartouche_blake_orders), ("cartouche/blake.mixings", laid_cartouche_blake_mixings)], narrowed := true }
def ChainChecksUptoSaid : Prop := chainChecksUptoRow.holds Tryd.pinned (OpenSpec.upto chainChecksSpec)

end Rows
end Go.Proofs.YtnigomohlgcojaaDoor
