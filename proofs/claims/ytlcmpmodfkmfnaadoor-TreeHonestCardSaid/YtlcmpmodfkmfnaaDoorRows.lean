/-
  NARROWER THAN 'FOR EVERY INPUT', by the rows' own cells (each row's printed sentence says how): TreeSides: laid · TreeRoots: laid · TreeDiffer: laid · TreeHalves: laid · TreeClimbs: laid · TreeProves: laid · TreeClash: laid · TreeGives: laid · TreeHonest: laid.
  DERIVED. THE GIVEN ROWS OF THIS SEAT. 9 by the template 'for every input the law returns true; each argument reads behind the call as it read before'; 0 by the template 'total and deterministic' (their statements: YtlcmpmodfkmfnaaDoorTotals.lean).
  GIVEN WITH THE SEED: the statements are not yours to turn. If you find one false, say at which input.
  Laid BY PROGRAM, IN A SANDBOX (cutbox-rows.mjs): the forced cells as the released guide's own fill.sh prints them over the translation 9ff52214b19fba85… (all of the seat's roots in one cut). By AI agents, Wed Nov 11 2026. No macro, syntax, notation, axiom, sorry.
-/
import Derived.Test.YtlcmpmodfkmfnaaDoorChecked
import GoSem.Claim
import GoSem.ClaimJoined
import GoSem.ClaimMapViews
import Derived.JoinedTies
import Derived.KernelRfl
namespace Go.Proofs.YtlcmpmodfkmfnaaDoor
/- THE CELL 'sum', in the pinned program and in every row, IS THE sha256 OF THE DUMP (.gsa) THAT YtlcmpmodfkmfnaaDoorProg.lean LOADS. Nothing in Lean hashes anything: it is a label: what it is worth is what the hold of that sum in a sandbox is worth. -/
noncomputable def Tryd.pinned : Pinned := { name := "ytlcmpmodfkmfnaadoor", sum := "9ff52214b19fba85fcaab7766f84fe9cb82f38a966c48a49733818e5efe57099", checked := Tryd.checked }
namespace Rows
def none {H : Type} : Left H := { results := [], args := [] }

/- WHAT THE LISTED PACKAGE-LEVEL VARIABLES READ AS WHEN THE CALL BEGINS. Each datum BY PROGRAM (the guide's laid-datum.mjs) off the statement by which the dump's own 'gosem.cut.vars' lays the variable. In a bare row this is a premise. The card (YtlcmpmodfkmfnaaDoorCards.lean) ties it to the program's text. -/
def laid_cartouche_blake_begins {H : Type} : DataW H := .agg [.lit (.int .u32 1779033703), .lit (.int .u32 3144134277), .lit (.int .u32 1013904242), .lit (.int .u32 2773480762), .lit (.int .u32 1359893119), .lit (.int .u32 2600822924), .lit (.int .u32 528734635), .lit (.int .u32 1541459225)]
def laid_cartouche_blake_orders {H : Type} : DataW H := .agg [.agg [.lit (.int .u8 0), .lit (.int .u8 1), .lit (.int .u8 2), .lit (.int .u8 3), .lit (.int .u8 4), .lit (.int .u8 5), .lit (.int .u8 6), .lit (.int .u8 7), .lit (.int .u8 8), .lit (.int .u8 9), .lit (.int .u8 10), .lit (.int .u8 11), .lit (.int .u8 12), .lit (.int .u8 13), .lit (.int .u8 14), .lit (.int .u8 15)], .agg [.lit (.int .u8 14), .lit (.int .u8 10), .lit (.int .u8 4), .lit (.int .u8 8), .lit (.int .u8 9), .lit (.int .u8 15), .lit (.int .u8 13), .lit (.int .u8 6), .lit (.int .u8 1), .lit (.int .u8 12), .lit (.int .u8 0), .lit (.int .u8 2), .lit (.int .u8 11), .lit (.int .u8 7), .lit (.int .u8 5), .lit (.int .u8 3)], .agg [.lit (.int .u8 11), .lit (.int .u8 8), .lit (.int .u8 12), .lit (.int .u8 0), .lit (.int .u8 5), .lit (.int .u8 2), .lit (.int .u8 15), .lit (.int .u8 13), .lit (.int .u8 10), .lit (.int .u8 14), .lit (.int .u8 3), .lit (.int .u8 6), .lit (.int .u8 7), .lit (.int .u8 1), .lit (.int .u8 9), .lit (.int .u8 4)], .agg [.lit (.int .u8 7), .lit (.int .u8 9), .lit (.int .u8 3), .lit (.int .u8 1), .lit (.int .u8 13), .lit (.int .u8 12), .lit (.int .u8 11), .lit (.int .u8 14), .lit (.int .u8 2), .lit (.int .u8 6), .lit (.int .u8 5), .lit (.int .u8 10), .lit (.int .u8 4), .lit (.int .u8 0), .lit (.int .u8 15), .lit (.int .u8 8)], .agg [.lit (.int .u8 9), .lit (.int .u8 0), .lit (.int .u8 5), .lit (.int .u8 7), .lit (.int .u8 2), .lit (.int .u8 4), .lit (.int .u8 10), .lit (.int .u8 15), .lit (.int .u8 14), .lit (.int .u8 1), .lit (.int .u8 11), .lit (.int .u8 12), .lit (.int .u8 6), .lit (.int .u8 8), .lit (.int .u8 3), .lit (.int .u8 13)], .agg [.lit (.int .u8 2), .lit (.int .u8 12), .lit (.int .u8 6), .lit (.int .u8 10), .lit (.int .u8 0), .lit (.int .u8 11), .lit (.int .u8 8), .lit (.int .u8 3), .lit (.int .u8 4), .lit (.int .u8 13), .lit (.int .u8 7), .lit (.int .u8 5), .lit (.int .u8 15), .lit (.int .u8 14), .lit (.int .u8 1), .lit (.int .u8 9)], .agg [.lit (.int .u8 12), .lit (.int .u8 5), .lit (.int .u8 1), .lit (.int .u8 15), .lit (.int .u8 14), .lit (.int .u8 13), .lit (.int .u8 4), .lit (.int .u8 10), .lit (.int .u8 0), .lit (.int .u8 7), .lit (.int .u8 6), .lit (.int .u8 3), .lit (.int .u8 9), .lit (.int .u8 2), .lit (.int .u8 8), .lit (.int .u8 11)], .agg [.lit (.int .u8 13), .lit (.int .u8 11), .lit (.int .u8 7), .lit (.int .u8 14), .lit (.int .u8 12), .lit (.int .u8 1), .lit (.int .u8 3), .lit (.int .u8 9), .lit (.int .u8 5), .lit (.int .u8 0), .lit (.int .u8 15), .lit (.int .u8 4), .lit (.int .u8 8), .lit (.int .u8 6), .lit (.int .u8 2), .lit (.int .u8 10)], .agg [.lit (.int .u8 6), .lit (.int .u8 15), .lit (.int .u8 14), .lit (.int .u8 9), .lit (.int .u8 11), .lit (.int .u8 3), .lit (.int .u8 0), .lit (.int .u8 8), .lit (.int .u8 12), .lit (.int .u8 2), .lit (.int .u8 13), .lit (.int .u8 7), .lit (.int .u8 1), .lit (.int .u8 4), .lit (.int .u8 10), .lit (.int .u8 5)], .agg [.lit (.int .u8 10), .lit (.int .u8 2), .lit (.int .u8 8), .lit (.int .u8 4), .lit (.int .u8 7), .lit (.int .u8 6), .lit (.int .u8 1), .lit (.int .u8 5), .lit (.int .u8 15), .lit (.int .u8 11), .lit (.int .u8 9), .lit (.int .u8 14), .lit (.int .u8 3), .lit (.int .u8 12), .lit (.int .u8 13), .lit (.int .u8 0)]]
def laid_cartouche_blake_mixings {H : Type} : DataW H := .agg [.agg [.lit (.int .u8 0), .lit (.int .u8 4), .lit (.int .u8 8), .lit (.int .u8 12)], .agg [.lit (.int .u8 1), .lit (.int .u8 5), .lit (.int .u8 9), .lit (.int .u8 13)], .agg [.lit (.int .u8 2), .lit (.int .u8 6), .lit (.int .u8 10), .lit (.int .u8 14)], .agg [.lit (.int .u8 3), .lit (.int .u8 7), .lit (.int .u8 11), .lit (.int .u8 15)], .agg [.lit (.int .u8 0), .lit (.int .u8 5), .lit (.int .u8 10), .lit (.int .u8 15)], .agg [.lit (.int .u8 1), .lit (.int .u8 6), .lit (.int .u8 11), .lit (.int .u8 12)], .agg [.lit (.int .u8 2), .lit (.int .u8 7), .lit (.int .u8 8), .lit (.int .u8 13)], .agg [.lit (.int .u8 3), .lit (.int .u8 4), .lit (.int .u8 9), .lit (.int .u8 14)]]

/-- 'cartouchelaw03.TreeSides': WHATEVER THE INPUT: true; the input reads as it did. -/
def treeSidesSpec : ChangeSpec := { name := "treeSides", fn := fun _ => fun
  | [d1, d2] => { results := [.lit (.bool true)], args := [d1, d2] }
  | _ => none }
def treeSidesRow : OpenClaim := { program := "ytlcmpmodfkmfnaadoor", sum := "9ff52214b19fba85fcaab7766f84fe9cb82f38a966c48a49733818e5efe57099", func := "cartouche/cartouchelaw03.TreeSides", spec := "treeSides", inPlace := ["internal/abi.NoEscape", "internal/bytealg.MakeNoZero"], unfollowed := true, recurses := true, named := ["cartouche/blake.begins", "cartouche/blake.mixings", "cartouche/blake.orders"], apart := false, laid := [("cartouche/blake.begins", laid_cartouche_blake_begins), ("cartouche/blake.orders", laid_cartouche_blake_orders), ("cartouche/blake.mixings", laid_cartouche_blake_mixings)] }
def TreeSidesSaid : Prop := treeSidesRow.holds Tryd.pinned (OpenSpec.ofChange treeSidesSpec)

/-- ITS FALSE NEIGHBOUR: 'it returns false'. Refute it at one input. -/
def treeSidesWrong : ChangeSpec := { name := "treeSides", fn := fun _ => fun
  | [d1, d2] => { results := [.lit (.bool false)], args := [d1, d2] }
  | _ => none }
def TreeSidesWrongFalsely : Prop := treeSidesRow.holds Tryd.pinned (OpenSpec.ofChange treeSidesWrong)

/-- 'cartouchelaw03.TreeRoots': WHATEVER THE INPUT: true; the input reads as it did. -/
def treeRootsSpec : ChangeSpec := { name := "treeRoots", fn := fun _ => fun
  | [d] => { results := [.lit (.bool true)], args := [d] }
  | _ => none }
def treeRootsRow : OpenClaim := { program := "ytlcmpmodfkmfnaadoor", sum := "9ff52214b19fba85fcaab7766f84fe9cb82f38a966c48a49733818e5efe57099", func := "cartouche/cartouchelaw03.TreeRoots", spec := "treeRoots", inPlace := ["internal/abi.NoEscape", "internal/bytealg.MakeNoZero"], unfollowed := true, recurses := true, named := ["cartouche/blake.begins", "cartouche/blake.mixings", "cartouche/blake.orders"], apart := false, laid := [("cartouche/blake.begins", laid_cartouche_blake_begins), ("cartouche/blake.orders", laid_cartouche_blake_orders), ("cartouche/blake.mixings", laid_cartouche_blake_mixings)] }
def TreeRootsSaid : Prop := treeRootsRow.holds Tryd.pinned (OpenSpec.ofChange treeRootsSpec)

/-- ITS FALSE NEIGHBOUR: 'it returns false'. Refute it at one input. -/
def treeRootsWrong : ChangeSpec := { name := "treeRoots", fn := fun _ => fun
  | [d] => { results := [.lit (.bool false)], args := [d] }
  | _ => none }
def TreeRootsWrongFalsely : Prop := treeRootsRow.holds Tryd.pinned (OpenSpec.ofChange treeRootsWrong)

/-- 'cartouchelaw03.TreeDiffer': WHATEVER THE INPUT: true; the input reads as it did. -/
def treeDifferSpec : ChangeSpec := { name := "treeDiffer", fn := fun _ => fun
  | [d1, d2] => { results := [.lit (.bool true)], args := [d1, d2] }
  | _ => none }
def treeDifferRow : OpenClaim := { program := "ytlcmpmodfkmfnaadoor", sum := "9ff52214b19fba85fcaab7766f84fe9cb82f38a966c48a49733818e5efe57099", func := "cartouche/cartouchelaw03.TreeDiffer", spec := "treeDiffer", inPlace := ["internal/abi.NoEscape", "internal/bytealg.MakeNoZero"], unfollowed := true, recurses := true, named := ["cartouche/blake.begins", "cartouche/blake.mixings", "cartouche/blake.orders"], apart := false, laid := [("cartouche/blake.begins", laid_cartouche_blake_begins), ("cartouche/blake.orders", laid_cartouche_blake_orders), ("cartouche/blake.mixings", laid_cartouche_blake_mixings)] }
def TreeDifferSaid : Prop := treeDifferRow.holds Tryd.pinned (OpenSpec.ofChange treeDifferSpec)

/-- ITS FALSE NEIGHBOUR: 'it returns false'. Refute it at one input. -/
def treeDifferWrong : ChangeSpec := { name := "treeDiffer", fn := fun _ => fun
  | [d1, d2] => { results := [.lit (.bool false)], args := [d1, d2] }
  | _ => none }
def TreeDifferWrongFalsely : Prop := treeDifferRow.holds Tryd.pinned (OpenSpec.ofChange treeDifferWrong)

/-- 'cartouchelaw03.TreeHalves': WHATEVER THE INPUT: true; the input reads as it did. -/
def treeHalvesSpec : ChangeSpec := { name := "treeHalves", fn := fun _ => fun
  | [d1, d2] => { results := [.lit (.bool true)], args := [d1, d2] }
  | _ => none }
def treeHalvesRow : OpenClaim := { program := "ytlcmpmodfkmfnaadoor", sum := "9ff52214b19fba85fcaab7766f84fe9cb82f38a966c48a49733818e5efe57099", func := "cartouche/cartouchelaw03.TreeHalves", spec := "treeHalves", inPlace := ["internal/abi.NoEscape", "internal/bytealg.MakeNoZero"], unfollowed := true, recurses := true, named := ["cartouche/blake.begins", "cartouche/blake.mixings", "cartouche/blake.orders"], apart := false, laid := [("cartouche/blake.begins", laid_cartouche_blake_begins), ("cartouche/blake.orders", laid_cartouche_blake_orders), ("cartouche/blake.mixings", laid_cartouche_blake_mixings)] }
def TreeHalvesSaid : Prop := treeHalvesRow.holds Tryd.pinned (OpenSpec.ofChange treeHalvesSpec)

/-- ITS FALSE NEIGHBOUR: 'it returns false'. Refute it at one input. -/
def treeHalvesWrong : ChangeSpec := { name := "treeHalves", fn := fun _ => fun
  | [d1, d2] => { results := [.lit (.bool false)], args := [d1, d2] }
  | _ => none }
def TreeHalvesWrongFalsely : Prop := treeHalvesRow.holds Tryd.pinned (OpenSpec.ofChange treeHalvesWrong)

/-- 'cartouchelaw03.TreeClimbs': WHATEVER THE INPUT: true; the input reads as it did. -/
def treeClimbsSpec : ChangeSpec := { name := "treeClimbs", fn := fun _ => fun
  | [d] => { results := [.lit (.bool true)], args := [d] }
  | _ => none }
def treeClimbsRow : OpenClaim := { program := "ytlcmpmodfkmfnaadoor", sum := "9ff52214b19fba85fcaab7766f84fe9cb82f38a966c48a49733818e5efe57099", func := "cartouche/cartouchelaw03.TreeClimbs", spec := "treeClimbs", inPlace := ["internal/abi.NoEscape", "internal/bytealg.MakeNoZero"], unfollowed := true, recurses := true, named := ["cartouche/blake.begins", "cartouche/blake.mixings", "cartouche/blake.orders"], apart := false, laid := [("cartouche/blake.begins", laid_cartouche_blake_begins), ("cartouche/blake.orders", laid_cartouche_blake_orders), ("cartouche/blake.mixings", laid_cartouche_blake_mixings)] }
def TreeClimbsSaid : Prop := treeClimbsRow.holds Tryd.pinned (OpenSpec.ofChange treeClimbsSpec)

/-- ITS FALSE NEIGHBOUR: 'it returns false'. Refute it at one input. -/
def treeClimbsWrong : ChangeSpec := { name := "treeClimbs", fn := fun _ => fun
  | [d] => { results := [.lit (.bool false)], args := [d] }
  | _ => none }
def TreeClimbsWrongFalsely : Prop := treeClimbsRow.holds Tryd.pinned (OpenSpec.ofChange treeClimbsWrong)

/-- 'cartouchelaw03.TreeProves': WHATEVER THE INPUT: true; the input reads as it did. -/
def treeProvesSpec : ChangeSpec := { name := "treeProves", fn := fun _ => fun
  | [d1, d2] => { results := [.lit (.bool true)], args := [d1, d2] }
  | _ => none }
def treeProvesRow : OpenClaim := { program := "ytlcmpmodfkmfnaadoor", sum := "9ff52214b19fba85fcaab7766f84fe9cb82f38a966c48a49733818e5efe57099", func := "cartouche/cartouchelaw03.TreeProves", spec := "treeProves", inPlace := ["internal/abi.NoEscape", "internal/bytealg.MakeNoZero"], unfollowed := true, recurses := true, named := ["cartouche/blake.begins", "cartouche/blake.mixings", "cartouche/blake.orders"], apart := false, laid := [("cartouche/blake.begins", laid_cartouche_blake_begins), ("cartouche/blake.orders", laid_cartouche_blake_orders), ("cartouche/blake.mixings", laid_cartouche_blake_mixings)] }
def TreeProvesSaid : Prop := treeProvesRow.holds Tryd.pinned (OpenSpec.ofChange treeProvesSpec)

/-- ITS FALSE NEIGHBOUR: 'it returns false'. Refute it at one input. -/
def treeProvesWrong : ChangeSpec := { name := "treeProves", fn := fun _ => fun
  | [d1, d2] => { results := [.lit (.bool false)], args := [d1, d2] }
  | _ => none }
def TreeProvesWrongFalsely : Prop := treeProvesRow.holds Tryd.pinned (OpenSpec.ofChange treeProvesWrong)

/-- 'cartouchelaw03.TreeClash': WHATEVER THE INPUT: true; the input reads as it did. -/
def treeClashSpec : ChangeSpec := { name := "treeClash", fn := fun _ => fun
  | [d] => { results := [.lit (.bool true)], args := [d] }
  | _ => none }
def treeClashRow : OpenClaim := { program := "ytlcmpmodfkmfnaadoor", sum := "9ff52214b19fba85fcaab7766f84fe9cb82f38a966c48a49733818e5efe57099", func := "cartouche/cartouchelaw03.TreeClash", spec := "treeClash", inPlace := ["internal/abi.NoEscape", "internal/bytealg.MakeNoZero"], unfollowed := true, recurses := true, named := ["cartouche/blake.begins", "cartouche/blake.mixings", "cartouche/blake.orders"], apart := false, laid := [("cartouche/blake.begins", laid_cartouche_blake_begins), ("cartouche/blake.orders", laid_cartouche_blake_orders), ("cartouche/blake.mixings", laid_cartouche_blake_mixings)] }
def TreeClashSaid : Prop := treeClashRow.holds Tryd.pinned (OpenSpec.ofChange treeClashSpec)

/-- ITS FALSE NEIGHBOUR: 'it returns false'. Refute it at one input. -/
def treeClashWrong : ChangeSpec := { name := "treeClash", fn := fun _ => fun
  | [d] => { results := [.lit (.bool false)], args := [d] }
  | _ => none }
def TreeClashWrongFalsely : Prop := treeClashRow.holds Tryd.pinned (OpenSpec.ofChange treeClashWrong)

/-- 'cartouchelaw03.TreeGives': WHATEVER THE INPUT: true; the input reads as it did. -/
def treeGivesSpec : ChangeSpec := { name := "treeGives", fn := fun _ => fun
  | [d] => { results := [.lit (.bool true)], args := [d] }
  | _ => none }
def treeGivesRow : OpenClaim := { program := "ytlcmpmodfkmfnaadoor", sum := "9ff52214b19fba85fcaab7766f84fe9cb82f38a966c48a49733818e5efe57099", func := "cartouche/cartouchelaw03.TreeGives", spec := "treeGives", inPlace := ["internal/abi.NoEscape", "internal/bytealg.MakeNoZero"], unfollowed := true, recurses := true, named := ["cartouche/blake.begins", "cartouche/blake.mixings", "cartouche/blake.orders"], apart := false, laid := [("cartouche/blake.begins", laid_cartouche_blake_begins), ("cartouche/blake.orders", laid_cartouche_blake_orders), ("cartouche/blake.mixings", laid_cartouche_blake_mixings)] }
def TreeGivesSaid : Prop := treeGivesRow.holds Tryd.pinned (OpenSpec.ofChange treeGivesSpec)

/-- ITS FALSE NEIGHBOUR: 'it returns false'. Refute it at one input. -/
def treeGivesWrong : ChangeSpec := { name := "treeGives", fn := fun _ => fun
  | [d] => { results := [.lit (.bool false)], args := [d] }
  | _ => none }
def TreeGivesWrongFalsely : Prop := treeGivesRow.holds Tryd.pinned (OpenSpec.ofChange treeGivesWrong)

/-- 'cartouchelaw03.TreeHonest': WHATEVER THE INPUT: true; the input reads as it did. -/
def treeHonestSpec : ChangeSpec := { name := "treeHonest", fn := fun _ => fun
  | [d] => { results := [.lit (.bool true)], args := [d] }
  | _ => none }
def treeHonestRow : OpenClaim := { program := "ytlcmpmodfkmfnaadoor", sum := "9ff52214b19fba85fcaab7766f84fe9cb82f38a966c48a49733818e5efe57099", func := "cartouche/cartouchelaw03.TreeHonest", spec := "treeHonest", inPlace := ["internal/abi.NoEscape", "internal/bytealg.MakeNoZero"], unfollowed := true, recurses := true, named := ["cartouche/blake.begins", "cartouche/blake.mixings", "cartouche/blake.orders"], apart := false, laid := [("cartouche/blake.begins", laid_cartouche_blake_begins), ("cartouche/blake.orders", laid_cartouche_blake_orders), ("cartouche/blake.mixings", laid_cartouche_blake_mixings)] }
def TreeHonestSaid : Prop := treeHonestRow.holds Tryd.pinned (OpenSpec.ofChange treeHonestSpec)

/-- ITS FALSE NEIGHBOUR: 'it returns false'. Refute it at one input. -/
def treeHonestWrong : ChangeSpec := { name := "treeHonest", fn := fun _ => fun
  | [d] => { results := [.lit (.bool false)], args := [d] }
  | _ => none }
def TreeHonestWrongFalsely : Prop := treeHonestRow.holds Tryd.pinned (OpenSpec.ofChange treeHonestWrong)

/- THE SECOND FORM. 'bulk': how many values and letters a reading holds, each counted each time it is reached (what is shared counts as often as it is met; a slice's spare places count too). A statement '..UptoSaid' is the law's where the arguments, and the package variables that the reading takes, are together of bulk at most 1048576: NARROWER than '..Said'. Prove '..Said' where nothing that the law and all that it calls make is longer than what came in: it says more and counts as full. Else prove '..UptoSaid'. A law counts once. -/
mutual
def uptoBulk {H : Type} : DataW H → Nat
  | .lit (.string bytes) => bytes.length + 1
  | .lit _ => 1
  | .nil => 1
  | .ptr d => uptoBulk d + 1
  | .slice elems spare => uptoBulkAll elems + uptoBulkAll spare + 1
  | .agg parts => uptoBulkAll parts + 1
  | .iface _ d => uptoBulk d + 1
  | .map entries => uptoBulkEntries entries + 1
  | .held _ => 1
def uptoBulkAll {H : Type} : List (DataW H) → Nat
  | [] => 0
  | d :: r => uptoBulk d + uptoBulkAll r
def uptoBulkEntries {H : Type} : List (Lit × DataW H) → Nat
  | [] => 0
  | x :: r => uptoBulkEntry x + uptoBulkEntries r
def uptoBulkEntry {H : Type} : Lit × DataW H → Nat
  | (.string bytes, d) => bytes.length + uptoBulk d + 1
  | (_, d) => uptoBulk d + 1
 end
def uptoSmall : (H : Type) → List (DataW H) → Bool := fun _ ds => decide (uptoBulkAll ds ≤ 1048576)
def OpenSpec.upto (s : _root_.Go.ChangeSpec) : _root_.Go.OpenSpec := { _root_.Go.OpenSpec.ofChange s with cond := some uptoSmall }

/-- 'cartouchelaw03.TreeSides', WHERE WHAT IT READS IS OF BULK AT MOST 1048576: true; the input reads as it did. -/
def treeSidesUptoRow : OpenClaim := { program := "ytlcmpmodfkmfnaadoor", sum := "9ff52214b19fba85fcaab7766f84fe9cb82f38a966c48a49733818e5efe57099", func := "cartouche/cartouchelaw03.TreeSides", spec := "treeSides", inPlace := ["internal/abi.NoEscape", "internal/bytealg.MakeNoZero"], unfollowed := true, recurses := true, named := ["cartouche/blake.begins", "cartouche/blake.mixings", "cartouche/blake.orders"], apart := false, laid := [("cartouche/blake.begins", laid_cartouche_blake_begins), ("cartouche/blake.orders", laid_cartouche_blake_orders), ("cartouche/blake.mixings", laid_cartouche_blake_mixings)], narrowed := true }
def TreeSidesUptoSaid : Prop := treeSidesUptoRow.holds Tryd.pinned (OpenSpec.upto treeSidesSpec)

/-- 'cartouchelaw03.TreeRoots', WHERE WHAT IT READS IS OF BULK AT MOST 1048576: true; the input reads as it did. -/
def treeRootsUptoRow : OpenClaim := { program := "ytlcmpmodfkmfnaadoor", sum := "9ff52214b19fba85fcaab7766f84fe9cb82f38a966c48a49733818e5efe57099", func := "cartouche/cartouchelaw03.TreeRoots", spec := "treeRoots", inPlace := ["internal/abi.NoEscape", "internal/bytealg.MakeNoZero"], unfollowed := true, recurses := true, named := ["cartouche/blake.begins", "cartouche/blake.mixings", "cartouche/blake.orders"], apart := false, laid := [("cartouche/blake.begins", laid_cartouche_blake_begins), ("cartouche/blake.orders", laid_cartouche_blake_orders), ("cartouche/blake.mixings", laid_cartouche_blake_mixings)], narrowed := true }
def TreeRootsUptoSaid : Prop := treeRootsUptoRow.holds Tryd.pinned (OpenSpec.upto treeRootsSpec)

/-- 'cartouchelaw03.TreeDiffer', WHERE WHAT IT READS IS OF BULK AT MOST 1048576: true; the input reads as it did. -/
def treeDifferUptoRow : OpenClaim := { program := "ytlcmpmodfkmfnaadoor", sum := "9ff52214b19fba85fcaab7766f84fe9cb82f38a966c48a49733818e5efe57099", func := "cartouche/cartouchelaw03.TreeDiffer", spec := "treeDiffer", inPlace := ["internal/abi.NoEscape", "internal/bytealg.MakeNoZero"], unfollowed := true, recurses := true, named := ["cartouche/blake.begins", "cartouche/blake.mixings", "cartouche/blake.orders"], apart := false, laid := [("cartouche/blake.begins", laid_cartouche_blake_begins), ("cartouche/blake.orders", laid_cartouche_blake_orders), ("cartouche/blake.mixings", laid_cartouche_blake_mixings)], narrowed := true }
def TreeDifferUptoSaid : Prop := treeDifferUptoRow.holds Tryd.pinned (OpenSpec.upto treeDifferSpec)

/-- 'cartouchelaw03.TreeHalves', WHERE WHAT IT READS IS OF BULK AT MOST 1048576: true; the input reads as it did. -/
def treeHalvesUptoRow : OpenClaim := { program := "ytlcmpmodfkmfnaadoor", sum := "9ff52214b19fba85fcaab7766f84fe9cb82f38a966c48a49733818e5efe57099", func := "cartouche/cartouchelaw03.TreeHalves", spec := "treeHalves", inPlace := ["internal/abi.NoEscape", "internal/bytealg.MakeNoZero"], unfollowed := true, recurses := true, named := ["cartouche/blake.begins", "cartouche/blake.mixings", "cartouche/blake.orders"], apart := false, laid := [("cartouche/blake.begins", laid_cartouche_blake_begins), ("cartouche/blake.orders", laid_cartouche_blake_orders), ("cartouche/blake.mixings", laid_cartouche_blake_mixings)], narrowed := true }
def TreeHalvesUptoSaid : Prop := treeHalvesUptoRow.holds Tryd.pinned (OpenSpec.upto treeHalvesSpec)

/-- 'cartouchelaw03.TreeClimbs', WHERE WHAT IT READS IS OF BULK AT MOST 1048576: true; the input reads as it did. -/
def treeClimbsUptoRow : OpenClaim := { program := "ytlcmpmodfkmfnaadoor", sum := "9ff52214b19fba85fcaab7766f84fe9cb82f38a966c48a49733818e5efe57099", func := "cartouche/cartouchelaw03.TreeClimbs", spec := "treeClimbs", inPlace := ["internal/abi.NoEscape", "internal/bytealg.MakeNoZero"], unfollowed := true, recurses := true, named := ["cartouche/blake.begins", "cartouche/blake.mixings", "cartouche/blake.orders"], apart := false, laid := [("cartouche/blake.begins", laid_cartouche_blake_begins), ("cartouche/blake.orders", laid_cartouche_blake_orders), ("cartouche/blake.mixings", laid_cartouche_blake_mixings)], narrowed := true }
def TreeClimbsUptoSaid : Prop := treeClimbsUptoRow.holds Tryd.pinned (OpenSpec.upto treeClimbsSpec)

/-- 'cartouchelaw03.TreeProves', WHERE WHAT IT READS IS OF BULK AT MOST 1048576: true; the input reads as it did. -/
def treeProvesUptoRow : OpenClaim := { program := "ytlcmpmodfkmfnaadoor", sum := "9ff52214b19fba85fcaab7766f84fe9cb82f38a966c48a49733818e5efe57099", func := "cartouche/cartouchelaw03.TreeProves", spec := "treeProves", inPlace := ["internal/abi.NoEscape", "internal/bytealg.MakeNoZero"], unfollowed := true, recurses := true, named := ["cartouche/blake.begins", "cartouche/blake.mixings", "cartouche/blake.orders"], apart := false, laid := [("cartouche/blake.begins", laid_cartouche_blake_begins), ("cartouche/blake.orders", laid_cartouche_blake_orders), ("cartouche/blake.mixings", laid_cartouche_blake_mixings)], narrowed := true }
def TreeProvesUptoSaid : Prop := treeProvesUptoRow.holds Tryd.pinned (OpenSpec.upto treeProvesSpec)

/-- 'cartouchelaw03.TreeClash', WHERE WHAT IT READS IS OF BULK AT MOST 1048576: true; the input reads as it did. -/
def treeClashUptoRow : OpenClaim := { program := "ytlcmpmodfkmfnaadoor", sum := "9ff52214b19fba85fcaab7766f84fe9cb82f38a966c48a49733818e5efe57099", func := "cartouche/cartouchelaw03.TreeClash", spec := "treeClash", inPlace := ["internal/abi.NoEscape", "internal/bytealg.MakeNoZero"], unfollowed := true, recurses := true, named := ["cartouche/blake.begins", "cartouche/blake.mixings", "cartouche/blake.orders"], apart := false, laid := [("cartouche/blake.begins", laid_cartouche_blake_begins), ("cartouche/blake.orders", laid_cartouche_blake_orders), ("cartouche/blake.mixings", laid_cartouche_blake_mixings)], narrowed := true }
def TreeClashUptoSaid : Prop := treeClashUptoRow.holds Tryd.pinned (OpenSpec.upto treeClashSpec)

/-- 'cartouchelaw03.TreeGives', WHERE WHAT IT READS IS OF BULK AT MOST 1048576: true; the input reads as it did. -/
def treeGivesUptoRow : OpenClaim := { program := "ytlcmpmodfkmfnaadoor", sum := "9ff52214b19fba85fcaab7766f84fe9cb82f38a966c48a49733818e5efe57099", func := "cartouche/cartouchelaw03.TreeGives", spec := "treeGives", inPlace := ["internal/abi.NoEscape", "internal/bytealg.MakeNoZero"], unfollowed := true, recurses := true, named := ["cartouche/blake.begins", "cartouche/blake.mixings", "cartouche/blake.orders"], apart := false, laid := [("cartouche/blake.begins", laid_cartouche_blake_begins), ("cartouche/blake.orders", laid_cartouche_blake_orders), ("cartouche/blake.mixings", laid_cartouche_blake_mixings)], narrowed := true }
def TreeGivesUptoSaid : Prop := treeGivesUptoRow.holds Tryd.pinned (OpenSpec.upto treeGivesSpec)

/-- 'cartouchelaw03.TreeHonest', WHERE WHAT IT READS IS OF BULK AT MOST 1048576: true; the input reads as it did. -/
def treeHonestUptoRow : OpenClaim := { program := "ytlcmpmodfkmfnaadoor", sum := "9ff52214b19fba85fcaab7766f84fe9cb82f38a966c48a49733818e5efe57099", func := "cartouche/cartouchelaw03.TreeHonest", spec := "treeHonest", inPlace := ["internal/abi.NoEscape", "internal/bytealg.MakeNoZero"], unfollowed := true, recurses := true, named := ["cartouche/blake.begins", "cartouche/blake.mixings", "cartouche/blake.orders"], apart := false, laid := [("cartouche/blake.begins", laid_cartouche_blake_begins), ("cartouche/blake.orders", laid_cartouche_blake_orders), ("cartouche/blake.mixings", laid_cartouche_blake_mixings)], narrowed := true }
def TreeHonestUptoSaid : Prop := treeHonestUptoRow.holds Tryd.pinned (OpenSpec.upto treeHonestSpec)

end Rows
end Go.Proofs.YtlcmpmodfkmfnaaDoor
