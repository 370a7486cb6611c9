/-
  NARROWER THAN 'FOR EVERY INPUT', by the rows' own cells (each row's printed sentence says how): LeanTells: laid · LeanSound: laid · LeanTurned: laid · LeanLess: laid · LeanHolds: laid · LeanRoots: laid.
  DERIVED. THE GIVEN ROWS OF THIS SEAT. 6 by the template 'for every input the law returns true; each argument reads behind the call as it read before'; 0 by the template 'total and deterministic' (their statements: YtjlpjpjodhkpdaaGreatDoorTotals.lean).
  GIVEN WITH THE SEED: the statements are not yours to turn. If you find one false, say at which input.
  Laid BY PROGRAM, IN A SANDBOX (cutbox-rows.mjs): the forced cells as the released guide's own fill.sh prints them over the translation dfc8c691592a1f93… (all of the seat's roots in one cut). By AI agents, Wed Nov 11 2026. No macro, syntax, notation, axiom, sorry.
-/
import Derived.Test.YtjlpjpjodhkpdaaGreatDoorChecked
import GoSem.Claim
import GoSem.ClaimJoined
import GoSem.ClaimMapViews
import Derived.JoinedTies
import Derived.KernelRfl
namespace Go.Proofs.YtjlpjpjodhkpdaaGreatDoor
/- THE CELL 'sum', in the pinned program and in every row, IS THE sha256 OF THE DUMP (.gsa) THAT YtjlpjpjodhkpdaaGreatDoorProg.lean LOADS. Nothing in Lean hashes anything: it is a label: what it is worth is what the hold of that sum in a sandbox is worth. -/
noncomputable def Tryz.pinned : Pinned := { name := "ytjlpjpjodhkpdaagreatdoor", sum := "dfc8c691592a1f93059a47629d261319d9829ee7381481d45fec409c443435aa", checked := Tryz.checked }
namespace Rows
def none {H : Type} : Left H := { results := [], args := [] }

/- WHAT THE LISTED PACKAGE-LEVEL VARIABLES READ AS WHEN THE CALL BEGINS. Each datum BY PROGRAM (the guide's laid-datum.mjs) off the statement by which the dump's own 'gosem.cut.vars' lays the variable. In a bare row this is a premise. The card (YtjlpjpjodhkpdaaGreatDoorCards.lean) ties it to the program's text. -/
def laid_cartouche_blake_begins {H : Type} : DataW H := .agg [.lit (.int .u32 1779033703), .lit (.int .u32 3144134277), .lit (.int .u32 1013904242), .lit (.int .u32 2773480762), .lit (.int .u32 1359893119), .lit (.int .u32 2600822924), .lit (.int .u32 528734635), .lit (.int .u32 1541459225)]
def laid_cartouche_blake_orders {H : Type} : DataW H := .agg [.agg [.lit (.int .u8 0), .lit (.int .u8 1), .lit (.int .u8 2), .lit (.int .u8 3), .lit (.int .u8 4), .lit (.int .u8 5), .lit (.int .u8 6), .lit (.int .u8 7), .lit (.int .u8 8), .lit (.int .u8 9), .lit (.int .u8 10), .lit (.int .u8 11), .lit (.int .u8 12), .lit (.int .u8 13), .lit (.int .u8 14), .lit (.int .u8 15)], .agg [.lit (.int .u8 14), .lit (.int .u8 10), .lit (.int .u8 4), .lit (.int .u8 8), .lit (.int .u8 9), .lit (.int .u8 15), .lit (.int .u8 13), .lit (.int .u8 6), .lit (.int .u8 1), .lit (.int .u8 12), .lit (.int .u8 0), .lit (.int .u8 2), .lit (.int .u8 11), .lit (.int .u8 7), .lit (.int .u8 5), .lit (.int .u8 3)], .agg [.lit (.int .u8 11), .lit (.int .u8 8), .lit (.int .u8 12), .lit (.int .u8 0), .lit (.int .u8 5), .lit (.int .u8 2), .lit (.int .u8 15), .lit (.int .u8 13), .lit (.int .u8 10), .lit (.int .u8 14), .lit (.int .u8 3), .lit (.int .u8 6), .lit (.int .u8 7), .lit (.int .u8 1), .lit (.int .u8 9), .lit (.int .u8 4)], .agg [.lit (.int .u8 7), .lit (.int .u8 9), .lit (.int .u8 3), .lit (.int .u8 1), .lit (.int .u8 13), .lit (.int .u8 12), .lit (.int .u8 11), .lit (.int .u8 14), .lit (.int .u8 2), .lit (.int .u8 6), .lit (.int .u8 5), .lit (.int .u8 10), .lit (.int .u8 4), .lit (.int .u8 0), .lit (.int .u8 15), .lit (.int .u8 8)], .agg [.lit (.int .u8 9), .lit (.int .u8 0), .lit (.int .u8 5), .lit (.int .u8 7), .lit (.int .u8 2), .lit (.int .u8 4), .lit (.int .u8 10), .lit (.int .u8 15), .lit (.int .u8 14), .lit (.int .u8 1), .lit (.int .u8 11), .lit (.int .u8 12), .lit (.int .u8 6), .lit (.int .u8 8), .lit (.int .u8 3), .lit (.int .u8 13)], .agg [.lit (.int .u8 2), .lit (.int .u8 12), .lit (.int .u8 6), .lit (.int .u8 10), .lit (.int .u8 0), .lit (.int .u8 11), .lit (.int .u8 8), .lit (.int .u8 3), .lit (.int .u8 4), .lit (.int .u8 13), .lit (.int .u8 7), .lit (.int .u8 5), .lit (.int .u8 15), .lit (.int .u8 14), .lit (.int .u8 1), .lit (.int .u8 9)], .agg [.lit (.int .u8 12), .lit (.int .u8 5), .lit (.int .u8 1), .lit (.int .u8 15), .lit (.int .u8 14), .lit (.int .u8 13), .lit (.int .u8 4), .lit (.int .u8 10), .lit (.int .u8 0), .lit (.int .u8 7), .lit (.int .u8 6), .lit (.int .u8 3), .lit (.int .u8 9), .lit (.int .u8 2), .lit (.int .u8 8), .lit (.int .u8 11)], .agg [.lit (.int .u8 13), .lit (.int .u8 11), .lit (.int .u8 7), .lit (.int .u8 14), .lit (.int .u8 12), .lit (.int .u8 1), .lit (.int .u8 3), .lit (.int .u8 9), .lit (.int .u8 5), .lit (.int .u8 0), .lit (.int .u8 15), .lit (.int .u8 4), .lit (.int .u8 8), .lit (.int .u8 6), .lit (.int .u8 2), .lit (.int .u8 10)], .agg [.lit (.int .u8 6), .lit (.int .u8 15), .lit (.int .u8 14), .lit (.int .u8 9), .lit (.int .u8 11), .lit (.int .u8 3), .lit (.int .u8 0), .lit (.int .u8 8), .lit (.int .u8 12), .lit (.int .u8 2), .lit (.int .u8 13), .lit (.int .u8 7), .lit (.int .u8 1), .lit (.int .u8 4), .lit (.int .u8 10), .lit (.int .u8 5)], .agg [.lit (.int .u8 10), .lit (.int .u8 2), .lit (.int .u8 8), .lit (.int .u8 4), .lit (.int .u8 7), .lit (.int .u8 6), .lit (.int .u8 1), .lit (.int .u8 5), .lit (.int .u8 15), .lit (.int .u8 11), .lit (.int .u8 9), .lit (.int .u8 14), .lit (.int .u8 3), .lit (.int .u8 12), .lit (.int .u8 13), .lit (.int .u8 0)]]
def laid_cartouche_blake_mixings {H : Type} : DataW H := .agg [.agg [.lit (.int .u8 0), .lit (.int .u8 4), .lit (.int .u8 8), .lit (.int .u8 12)], .agg [.lit (.int .u8 1), .lit (.int .u8 5), .lit (.int .u8 9), .lit (.int .u8 13)], .agg [.lit (.int .u8 2), .lit (.int .u8 6), .lit (.int .u8 10), .lit (.int .u8 14)], .agg [.lit (.int .u8 3), .lit (.int .u8 7), .lit (.int .u8 11), .lit (.int .u8 15)], .agg [.lit (.int .u8 0), .lit (.int .u8 5), .lit (.int .u8 10), .lit (.int .u8 15)], .agg [.lit (.int .u8 1), .lit (.int .u8 6), .lit (.int .u8 11), .lit (.int .u8 12)], .agg [.lit (.int .u8 2), .lit (.int .u8 7), .lit (.int .u8 8), .lit (.int .u8 13)], .agg [.lit (.int .u8 3), .lit (.int .u8 4), .lit (.int .u8 9), .lit (.int .u8 14)]]

/-- 'cartouchelaw15.LeanTells': WHATEVER THE INPUT: true; the input reads as it did. -/
def leanTellsSpec : ChangeSpec := { name := "leanTells", fn := fun _ => fun
  | [d] => { results := [.lit (.bool true)], args := [d] }
  | _ => none }
def leanTellsRow : OpenClaim := { program := "ytjlpjpjodhkpdaagreatdoor", sum := "dfc8c691592a1f93059a47629d261319d9829ee7381481d45fec409c443435aa", func := "cartouche/cartouchelaw15.LeanTells", spec := "leanTells", inPlace := ["internal/abi.NoEscape", "internal/bytealg.MakeNoZero"], unfollowed := true, recurses := true, named := ["cartouche/blake.begins", "cartouche/blake.mixings", "cartouche/blake.orders"], apart := false, laid := [("cartouche/blake.begins", laid_cartouche_blake_begins), ("cartouche/blake.orders", laid_cartouche_blake_orders), ("cartouche/blake.mixings", laid_cartouche_blake_mixings)] }
def LeanTellsSaid : Prop := leanTellsRow.holds Tryz.pinned (OpenSpec.ofChange leanTellsSpec)

/-- ITS FALSE NEIGHBOUR: 'it returns false'. Refute it at one input. -/
def leanTellsWrong : ChangeSpec := { name := "leanTells", fn := fun _ => fun
  | [d] => { results := [.lit (.bool false)], args := [d] }
  | _ => none }
def LeanTellsWrongFalsely : Prop := leanTellsRow.holds Tryz.pinned (OpenSpec.ofChange leanTellsWrong)

/-- 'cartouchelaw15.LeanSound': WHATEVER THE INPUT: true; the input reads as it did. -/
def leanSoundSpec : ChangeSpec := { name := "leanSound", fn := fun _ => fun
  | [d1, d2] => { results := [.lit (.bool true)], args := [d1, d2] }
  | _ => none }
def leanSoundRow : OpenClaim := { program := "ytjlpjpjodhkpdaagreatdoor", sum := "dfc8c691592a1f93059a47629d261319d9829ee7381481d45fec409c443435aa", func := "cartouche/cartouchelaw15.LeanSound", spec := "leanSound", inPlace := ["internal/abi.NoEscape", "internal/bytealg.MakeNoZero"], unfollowed := true, recurses := true, named := ["cartouche/blake.begins", "cartouche/blake.mixings", "cartouche/blake.orders"], apart := false, laid := [("cartouche/blake.begins", laid_cartouche_blake_begins), ("cartouche/blake.orders", laid_cartouche_blake_orders), ("cartouche/blake.mixings", laid_cartouche_blake_mixings)] }
def LeanSoundSaid : Prop := leanSoundRow.holds Tryz.pinned (OpenSpec.ofChange leanSoundSpec)

/-- ITS FALSE NEIGHBOUR: 'it returns false'. Refute it at one input. -/
def leanSoundWrong : ChangeSpec := { name := "leanSound", fn := fun _ => fun
  | [d1, d2] => { results := [.lit (.bool false)], args := [d1, d2] }
  | _ => none }
def LeanSoundWrongFalsely : Prop := leanSoundRow.holds Tryz.pinned (OpenSpec.ofChange leanSoundWrong)

/-- 'cartouchelaw15.LeanTurned': WHATEVER THE INPUT: true; the input reads as it did. -/
def leanTurnedSpec : ChangeSpec := { name := "leanTurned", fn := fun _ => fun
  | [d1, d2, d3] => { results := [.lit (.bool true)], args := [d1, d2, d3] }
  | _ => none }
def leanTurnedRow : OpenClaim := { program := "ytjlpjpjodhkpdaagreatdoor", sum := "dfc8c691592a1f93059a47629d261319d9829ee7381481d45fec409c443435aa", func := "cartouche/cartouchelaw15.LeanTurned", spec := "leanTurned", inPlace := ["internal/abi.NoEscape", "internal/bytealg.MakeNoZero"], unfollowed := true, recurses := true, named := ["cartouche/blake.begins", "cartouche/blake.mixings", "cartouche/blake.orders"], apart := false, laid := [("cartouche/blake.begins", laid_cartouche_blake_begins), ("cartouche/blake.orders", laid_cartouche_blake_orders), ("cartouche/blake.mixings", laid_cartouche_blake_mixings)] }
def LeanTurnedSaid : Prop := leanTurnedRow.holds Tryz.pinned (OpenSpec.ofChange leanTurnedSpec)

/-- ITS FALSE NEIGHBOUR: 'it returns false'. Refute it at one input. -/
def leanTurnedWrong : ChangeSpec := { name := "leanTurned", fn := fun _ => fun
  | [d1, d2, d3] => { results := [.lit (.bool false)], args := [d1, d2, d3] }
  | _ => none }
def LeanTurnedWrongFalsely : Prop := leanTurnedRow.holds Tryz.pinned (OpenSpec.ofChange leanTurnedWrong)

/-- 'cartouchelaw15.LeanLess': WHATEVER THE INPUT: true; the input reads as it did. -/
def leanLessSpec : ChangeSpec := { name := "leanLess", fn := fun _ => fun
  | [d] => { results := [.lit (.bool true)], args := [d] }
  | _ => none }
def leanLessRow : OpenClaim := { program := "ytjlpjpjodhkpdaagreatdoor", sum := "dfc8c691592a1f93059a47629d261319d9829ee7381481d45fec409c443435aa", func := "cartouche/cartouchelaw15.LeanLess", spec := "leanLess", inPlace := ["internal/abi.NoEscape", "internal/bytealg.MakeNoZero"], unfollowed := true, recurses := true, named := ["cartouche/blake.begins", "cartouche/blake.mixings", "cartouche/blake.orders"], apart := false, laid := [("cartouche/blake.begins", laid_cartouche_blake_begins), ("cartouche/blake.orders", laid_cartouche_blake_orders), ("cartouche/blake.mixings", laid_cartouche_blake_mixings)] }
def LeanLessSaid : Prop := leanLessRow.holds Tryz.pinned (OpenSpec.ofChange leanLessSpec)

/-- ITS FALSE NEIGHBOUR: 'it returns false'. Refute it at one input. -/
def leanLessWrong : ChangeSpec := { name := "leanLess", fn := fun _ => fun
  | [d] => { results := [.lit (.bool false)], args := [d] }
  | _ => none }
def LeanLessWrongFalsely : Prop := leanLessRow.holds Tryz.pinned (OpenSpec.ofChange leanLessWrong)

/-- 'cartouchelaw15.LeanHolds': WHATEVER THE INPUT: true; the input reads as it did. -/
def leanHoldsSpec : ChangeSpec := { name := "leanHolds", fn := fun _ => fun
  | [d1, d2, d3] => { results := [.lit (.bool true)], args := [d1, d2, d3] }
  | _ => none }
def leanHoldsRow : OpenClaim := { program := "ytjlpjpjodhkpdaagreatdoor", sum := "dfc8c691592a1f93059a47629d261319d9829ee7381481d45fec409c443435aa", func := "cartouche/cartouchelaw15.LeanHolds", spec := "leanHolds", inPlace := ["internal/abi.NoEscape", "internal/bytealg.MakeNoZero"], unfollowed := true, recurses := true, named := ["cartouche/blake.begins", "cartouche/blake.mixings", "cartouche/blake.orders"], apart := false, laid := [("cartouche/blake.begins", laid_cartouche_blake_begins), ("cartouche/blake.orders", laid_cartouche_blake_orders), ("cartouche/blake.mixings", laid_cartouche_blake_mixings)] }
def LeanHoldsSaid : Prop := leanHoldsRow.holds Tryz.pinned (OpenSpec.ofChange leanHoldsSpec)

/-- ITS FALSE NEIGHBOUR: 'it returns false'. Refute it at one input. -/
def leanHoldsWrong : ChangeSpec := { name := "leanHolds", fn := fun _ => fun
  | [d1, d2, d3] => { results := [.lit (.bool false)], args := [d1, d2, d3] }
  | _ => none }
def LeanHoldsWrongFalsely : Prop := leanHoldsRow.holds Tryz.pinned (OpenSpec.ofChange leanHoldsWrong)

/-- 'cartouchelaw15.LeanRoots': WHATEVER THE INPUT: true; the input reads as it did. -/
def leanRootsSpec : ChangeSpec := { name := "leanRoots", fn := fun _ => fun
  | [d1, d2] => { results := [.lit (.bool true)], args := [d1, d2] }
  | _ => none }
def leanRootsRow : OpenClaim := { program := "ytjlpjpjodhkpdaagreatdoor", sum := "dfc8c691592a1f93059a47629d261319d9829ee7381481d45fec409c443435aa", func := "cartouche/cartouchelaw15.LeanRoots", spec := "leanRoots", inPlace := ["internal/abi.NoEscape", "internal/bytealg.MakeNoZero"], unfollowed := true, recurses := true, named := ["cartouche/blake.begins", "cartouche/blake.mixings", "cartouche/blake.orders"], apart := false, laid := [("cartouche/blake.begins", laid_cartouche_blake_begins), ("cartouche/blake.orders", laid_cartouche_blake_orders), ("cartouche/blake.mixings", laid_cartouche_blake_mixings)] }
def LeanRootsSaid : Prop := leanRootsRow.holds Tryz.pinned (OpenSpec.ofChange leanRootsSpec)

/-- ITS FALSE NEIGHBOUR: 'it returns false'. Refute it at one input. -/
def leanRootsWrong : ChangeSpec := { name := "leanRoots", fn := fun _ => fun
  | [d1, d2] => { results := [.lit (.bool false)], args := [d1, d2] }
  | _ => none }
def LeanRootsWrongFalsely : Prop := leanRootsRow.holds Tryz.pinned (OpenSpec.ofChange leanRootsWrong)

/- THE SECOND FORM. 'bulk': how many values and letters a reading holds, each counted each time it is reached (what is shared counts as often as it is met; a slice's spare places count too). A statement '..UptoSaid' is the law's where the arguments, and the package variables that the reading takes, are together of bulk at most 1048576: NARROWER than '..Said'. Prove '..Said' where nothing that the law and all that it calls make is longer than what came in: it says more and counts as full. Else prove '..UptoSaid'. A law counts once. -/
mutual
def uptoBulk {H : Type} : DataW H → Nat
  | .lit (.string bytes) => bytes.length + 1
  | .lit _ => 1
  | .nil => 1
  | .ptr d => uptoBulk d + 1
  | .slice elems spare => uptoBulkAll elems + uptoBulkAll spare + 1
  | .agg parts => uptoBulkAll parts + 1
  | .iface _ d => uptoBulk d + 1
  | .map entries => uptoBulkEntries entries + 1
  | .held _ => 1
def uptoBulkAll {H : Type} : List (DataW H) → Nat
  | [] => 0
  | d :: r => uptoBulk d + uptoBulkAll r
def uptoBulkEntries {H : Type} : List (Lit × DataW H) → Nat
  | [] => 0
  | x :: r => uptoBulkEntry x + uptoBulkEntries r
def uptoBulkEntry {H : Type} : Lit × DataW H → Nat
  | (.string bytes, d) => bytes.length + uptoBulk d + 1
  | (_, d) => uptoBulk d + 1
 end
def uptoSmall : (H : Type) → List (DataW H) → Bool := fun _ ds => decide (uptoBulkAll ds ≤ 1048576)
def OpenSpec.upto (s : _root_.Go.ChangeSpec) : _root_.Go.OpenSpec := { _root_.Go.OpenSpec.ofChange s with cond := some uptoSmall }

/-- 'cartouchelaw15.LeanTells', WHERE WHAT IT READS IS OF BULK AT MOST 1048576: true; the input reads as it did. -/
def leanTellsUptoRow : OpenClaim := { program := "ytjlpjpjodhkpdaagreatdoor", sum := "dfc8c691592a1f93059a47629d261319d9829ee7381481d45fec409c443435aa", func := "cartouche/cartouchelaw15.LeanTells", spec := "leanTells", inPlace := ["internal/abi.NoEscape", "internal/bytealg.MakeNoZero"], unfollowed := true, recurses := true, named := ["cartouche/blake.begins", "cartouche/blake.mixings", "cartouche/blake.orders"], apart := false, laid := [("cartouche/blake.begins", laid_cartouche_blake_begins), ("cartouche/blake.orders", laid_cartouche_blake_orders), ("cartouche/blake.mixings", laid_cartouche_blake_mixings)], narrowed := true }
def LeanTellsUptoSaid : Prop := leanTellsUptoRow.holds Tryz.pinned (OpenSpec.upto leanTellsSpec)

/-- 'cartouchelaw15.LeanSound', WHERE WHAT IT READS IS OF BULK AT MOST 1048576: true; the input reads as it did. -/
def leanSoundUptoRow : OpenClaim := { program := "ytjlpjpjodhkpdaagreatdoor", sum := "dfc8c691592a1f93059a47629d261319d9829ee7381481d45fec409c443435aa", func := "cartouche/cartouchelaw15.LeanSound", spec := "leanSound", inPlace := ["internal/abi.NoEscape", "internal/bytealg.MakeNoZero"], unfollowed := true, recurses := true, named := ["cartouche/blake.begins", "cartouche/blake.mixings", "cartouche/blake.orders"], apart := false, laid := [("cartouche/blake.begins", laid_cartouche_blake_begins), ("cartouche/blake.orders", laid_cartouche_blake_orders), ("cartouche/blake.mixings", laid_cartouche_blake_mixings)], narrowed := true }
def LeanSoundUptoSaid : Prop := leanSoundUptoRow.holds Tryz.pinned (OpenSpec.upto leanSoundSpec)

/-- 'cartouchelaw15.LeanTurned', WHERE WHAT IT READS IS OF BULK AT MOST 1048576: true; the input reads as it did. -/
def leanTurnedUptoRow : OpenClaim := { program := "ytjlpjpjodhkpdaagreatdoor", sum := "dfc8c691592a1f93059a47629d261319d9829ee7381481d45fec409c443435aa", func := "cartouche/cartouchelaw15.LeanTurned", spec := "leanTurned", inPlace := ["internal/abi.NoEscape", "internal/bytealg.MakeNoZero"], unfollowed := true, recurses := true, named := ["cartouche/blake.begins", "cartouche/blake.mixings", "cartouche/blake.orders"], apart := false, laid := [("cartouche/blake.begins", laid_cartouche_blake_begins), ("cartouche/blake.orders", laid_cartouche_blake_orders), ("cartouche/blake.mixings", laid_cartouche_blake_mixings)], narrowed := true }
def LeanTurnedUptoSaid : Prop := leanTurnedUptoRow.holds Tryz.pinned (OpenSpec.upto leanTurnedSpec)

/-- 'cartouchelaw15.LeanLess', WHERE WHAT IT READS IS OF BULK AT MOST 1048576: true; the input reads as it did. -/
def leanLessUptoRow : OpenClaim := { program := "ytjlpjpjodhkpdaagreatdoor", sum := "dfc8c691592a1f93059a47629d261319d9829ee7381481d45fec409c443435aa", func := "cartouche/cartouchelaw15.LeanLess", spec := "leanLess", inPlace := ["internal/abi.NoEscape", "internal/bytealg.MakeNoZero"], unfollowed := true, recurses := true, named := ["cartouche/blake.begins", "cartouche/blake.mixings", "cartouche/blake.orders"], apart := false, laid := [("cartouche/blake.begins", laid_cartouche_blake_begins), ("cartouche/blake.orders", laid_cartouche_blake_orders), ("cartouche/blake.mixings", laid_cartouche_blake_mixings)], narrowed := true }
def LeanLessUptoSaid : Prop := leanLessUptoRow.holds Tryz.pinned (OpenSpec.upto leanLessSpec)

/-- 'cartouchelaw15.LeanHolds', WHERE WHAT IT READS IS OF BULK AT MOST 1048576: true; the input reads as it did. -/
def leanHoldsUptoRow : OpenClaim := { program := "ytjlpjpjodhkpdaagreatdoor", sum := "dfc8c691592a1f93059a47629d261319d9829ee7381481d45fec409c443435aa", func := "cartouche/cartouchelaw15.LeanHolds", spec := "leanHolds", inPlace := ["internal/abi.NoEscape", "internal/bytealg.MakeNoZero"], unfollowed := true, recurses := true, named := ["cartouche/blake.begins", "cartouche/blake.mixings", "cartouche/blake.orders"], apart := false, laid := [("cartouche/blake.begins", laid_cartouche_blake_begins), ("cartouche/blake.orders", laid_cartouche_blake_orders), ("cartouche/blake.mixings", laid_cartouche_blake_mixings)], narrowed := true }
def LeanHoldsUptoSaid : Prop := leanHoldsUptoRow.holds Tryz.pinned (OpenSpec.upto leanHoldsSpec)

/-- 'cartouchelaw15.LeanRoots', WHERE WHAT IT READS IS OF BULK AT MOST 1048576: true; the input reads as it did. -/
def leanRootsUptoRow : OpenClaim := { program := "ytjlpjpjodhkpdaagreatdoor", sum := "dfc8c691592a1f93059a47629d261319d9829ee7381481d45fec409c443435aa", func := "cartouche/cartouchelaw15.LeanRoots", spec := "leanRoots", inPlace := ["internal/abi.NoEscape", "internal/bytealg.MakeNoZero"], unfollowed := true, recurses := true, named := ["cartouche/blake.begins", "cartouche/blake.mixings", "cartouche/blake.orders"], apart := false, laid := [("cartouche/blake.begins", laid_cartouche_blake_begins), ("cartouche/blake.orders", laid_cartouche_blake_orders), ("cartouche/blake.mixings", laid_cartouche_blake_mixings)], narrowed := true }
def LeanRootsUptoSaid : Prop := leanRootsUptoRow.holds Tryz.pinned (OpenSpec.upto leanRootsSpec)

end Rows
end Go.Proofs.YtjlpjpjodhkpdaaGreatDoor
