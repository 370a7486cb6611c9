/-
  NARROWER THAN 'FOR EVERY INPUT', by the rows' own cells (each row's printed sentence says how): RedactNames: laid · RedactBegins: laid · RedactTags: laid · RedactHides: laid · RedactAgain: laid · RedactRows: laid.
  DERIVED. THE GIVEN ROWS OF THIS SEAT. 6 by the template 'for every input the law returns true; each argument reads behind the call as it read before'; 0 by the template 'total and deterministic' (their statements: YtbckobokiioeaaaDoorTotals.lean).
  GIVEN WITH THE SEED: the statements are not yours to turn. If you find one false, say at which input.
  Laid BY PROGRAM, IN A SANDBOX (cutbox-rows.mjs): the forced cells as the released guide's own fill.sh prints them over the translation d1e32b23b4d5a6a4… (all of the seat's roots in one cut). By AI agents, Wed Nov 11 2026. No macro, syntax, notation, axiom, sorry.
-/
import Derived.Test.YtbckobokiioeaaaDoorChecked
import GoSem.Claim
import GoSem.ClaimJoined
import GoSem.ClaimMapViews
import Derived.JoinedTies
import Derived.KernelRfl
namespace Go.Proofs.YtbckobokiioeaaaDoor
/- THE CELL 'sum', in the pinned program and in every row, IS THE sha256 OF THE DUMP (.gsa) THAT YtbckobokiioeaaaDoorProg.lean LOADS. Nothing in Lean hashes anything: it is a label: what it is worth is what the hold of that sum in a sandbox is worth. -/
noncomputable def Tryd.pinned : Pinned := { name := "ytbckobokiioeaaadoor", sum := "d1e32b23b4d5a6a448782648f16d7e4f238bcc55ee3f3f44382325fa80936719", checked := Tryd.checked }
namespace Rows
def none {H : Type} : Left H := { results := [], args := [] }

/- WHAT THE LISTED PACKAGE-LEVEL VARIABLES READ AS WHEN THE CALL BEGINS. Each datum BY PROGRAM (the guide's laid-datum.mjs) off the statement by which the dump's own 'gosem.cut.vars' lays the variable. In a bare row this is a premise. The card (YtbckobokiioeaaaDoorCards.lean) ties it to the program's text. -/
def laid_math_bits_deBruijn32tab {H : Type} : DataW H := .agg [.lit (.int .u8 0), .lit (.int .u8 1), .lit (.int .u8 28), .lit (.int .u8 2), .lit (.int .u8 29), .lit (.int .u8 14), .lit (.int .u8 24), .lit (.int .u8 3), .lit (.int .u8 30), .lit (.int .u8 22), .lit (.int .u8 20), .lit (.int .u8 15), .lit (.int .u8 25), .lit (.int .u8 17), .lit (.int .u8 4), .lit (.int .u8 8), .lit (.int .u8 31), .lit (.int .u8 27), .lit (.int .u8 13), .lit (.int .u8 23), .lit (.int .u8 21), .lit (.int .u8 19), .lit (.int .u8 16), .lit (.int .u8 7), .lit (.int .u8 26), .lit (.int .u8 12), .lit (.int .u8 18), .lit (.int .u8 6), .lit (.int .u8 11), .lit (.int .u8 5), .lit (.int .u8 10), .lit (.int .u8 9)]
def laid_math_bits_deBruijn64tab {H : Type} : DataW H := .agg [.lit (.int .u8 0), .lit (.int .u8 1), .lit (.int .u8 56), .lit (.int .u8 2), .lit (.int .u8 57), .lit (.int .u8 49), .lit (.int .u8 28), .lit (.int .u8 3), .lit (.int .u8 61), .lit (.int .u8 58), .lit (.int .u8 42), .lit (.int .u8 50), .lit (.int .u8 38), .lit (.int .u8 29), .lit (.int .u8 17), .lit (.int .u8 4), .lit (.int .u8 62), .lit (.int .u8 47), .lit (.int .u8 59), .lit (.int .u8 36), .lit (.int .u8 45), .lit (.int .u8 43), .lit (.int .u8 51), .lit (.int .u8 22), .lit (.int .u8 53), .lit (.int .u8 39), .lit (.int .u8 33), .lit (.int .u8 30), .lit (.int .u8 24), .lit (.int .u8 18), .lit (.int .u8 12), .lit (.int .u8 5), .lit (.int .u8 63), .lit (.int .u8 55), .lit (.int .u8 48), .lit (.int .u8 27), .lit (.int .u8 60), .lit (.int .u8 41), .lit (.int .u8 37), .lit (.int .u8 16), .lit (.int .u8 46), .lit (.int .u8 35), .lit (.int .u8 44), .lit (.int .u8 21), .lit (.int .u8 52), .lit (.int .u8 32), .lit (.int .u8 23), .lit (.int .u8 11), .lit (.int .u8 54), .lit (.int .u8 26), .lit (.int .u8 40), .lit (.int .u8 15), .lit (.int .u8 34), .lit (.int .u8 20), .lit (.int .u8 31), .lit (.int .u8 10), .lit (.int .u8 25), .lit (.int .u8 14), .lit (.int .u8 19), .lit (.int .u8 9), .lit (.int .u8 13), .lit (.int .u8 8), .lit (.int .u8 7), .lit (.int .u8 6)]
def laid_internal_strconv_uint64pow10 {H : Type} : DataW H := .agg [.lit (.int .u64 1), .lit (.int .u64 10), .lit (.int .u64 100), .lit (.int .u64 1000), .lit (.int .u64 10000), .lit (.int .u64 100000), .lit (.int .u64 1000000), .lit (.int .u64 10000000), .lit (.int .u64 100000000), .lit (.int .u64 1000000000), .lit (.int .u64 10000000000), .lit (.int .u64 100000000000), .lit (.int .u64 1000000000000), .lit (.int .u64 10000000000000), .lit (.int .u64 100000000000000), .lit (.int .u64 1000000000000000), .lit (.int .u64 10000000000000000), .lit (.int .u64 100000000000000000), .lit (.int .u64 1000000000000000000), .lit (.int .u64 10000000000000000000)]
def laid_cartouche_blake_begins {H : Type} : DataW H := .agg [.lit (.int .u32 1779033703), .lit (.int .u32 3144134277), .lit (.int .u32 1013904242), .lit (.int .u32 2773480762), .lit (.int .u32 1359893119), .lit (.int .u32 2600822924), .lit (.int .u32 528734635), .lit (.int .u32 1541459225)]
def laid_cartouche_blake_orders {H : Type} : DataW H := .agg [.agg [.lit (.int .u8 0), .lit (.int .u8 1), .lit (.int .u8 2), .lit (.int .u8 3), .lit (.int .u8 4), .lit (.int .u8 5), .lit (.int .u8 6), .lit (.int .u8 7), .lit (.int .u8 8), .lit (.int .u8 9), .lit (.int .u8 10), .lit (.int .u8 11), .lit (.int .u8 12), .lit (.int .u8 13), .lit (.int .u8 14), .lit (.int .u8 15)], .agg [.lit (.int .u8 14), .lit (.int .u8 10), .lit (.int .u8 4), .lit (.int .u8 8), .lit (.int .u8 9), .lit (.int .u8 15), .lit (.int .u8 13), .lit (.int .u8 6), .lit (.int .u8 1), .lit (.int .u8 12), .lit (.int .u8 0), .lit (.int .u8 2), .lit (.int .u8 11), .lit (.int .u8 7), .lit (.int .u8 5), .lit (.int .u8 3)], .agg [.lit (.int .u8 11), .lit (.int .u8 8), .lit (.int .u8 12), .lit (.int .u8 0), .lit (.int .u8 5), .lit (.int .u8 2), .lit (.int .u8 15), .lit (.int .u8 13), .lit (.int .u8 10), .lit (.int .u8 14), .lit (.int .u8 3), .lit (.int .u8 6), .lit (.int .u8 7), .lit (.int .u8 1), .lit (.int .u8 9), .lit (.int .u8 4)], .agg [.lit (.int .u8 7), .lit (.int .u8 9), .lit (.int .u8 3), .lit (.int .u8 1), .lit (.int .u8 13), .lit (.int .u8 12), .lit (.int .u8 11), .lit (.int .u8 14), .lit (.int .u8 2), .lit (.int .u8 6), .lit (.int .u8 5), .lit (.int .u8 10), .lit (.int .u8 4), .lit (.int .u8 0), .lit (.int .u8 15), .lit (.int .u8 8)], .agg [.lit (.int .u8 9), .lit (.int .u8 0), .lit (.int .u8 5), .lit (.int .u8 7), .lit (.int .u8 2), .lit (.int .u8 4), .lit (.int .u8 10), .lit (.int .u8 15), .lit (.int .u8 14), .lit (.int .u8 1), .lit (.int .u8 11), .lit (.int .u8 12), .lit (.int .u8 6), .lit (.int .u8 8), .lit (.int .u8 3), .lit (.int .u8 13)], .agg [.lit (.int .u8 2), .lit (.int .u8 12), .lit (.int .u8 6), .lit (.int .u8 10), .lit (.int .u8 0), .lit (.int .u8 11), .lit (.int .u8 8), .lit (.int .u8 3), .lit (.int .u8 4), .lit (.int .u8 13), .lit (.int .u8 7), .lit (.int .u8 5), .lit (.int .u8 15), .lit (.int .u8 14), .lit (.int .u8 1), .lit (.int .u8 9)], .agg [.lit (.int .u8 12), .lit (.int .u8 5), .lit (.int .u8 1), .lit (.int .u8 15), .lit (.int .u8 14), .lit (.int .u8 13), .lit (.int .u8 4), .lit (.int .u8 10), .lit (.int .u8 0), .lit (.int .u8 7), .lit (.int .u8 6), .lit (.int .u8 3), .lit (.int .u8 9), .lit (.int .u8 2), .lit (.int .u8 8), .lit (.int .u8 11)], .agg [.lit (.int .u8 13), .lit (.int .u8 11), .lit (.int .u8 7), .lit (.int .u8 14), .lit (.int .u8 12), .lit (.int .u8 1), .lit (.int .u8 3), .lit (.int .u8 9), .lit (.int .u8 5), .lit (.int .u8 0), .lit (.int .u8 15), .lit (.int .u8 4), .lit (.int .u8 8), .lit (.int .u8 6), .lit (.int .u8 2), .lit (.int .u8 10)], .agg [.lit (.int .u8 6), .lit (.int .u8 15), .lit (.int .u8 14), .lit (.int .u8 9), .lit (.int .u8 11), .lit (.int .u8 3), .lit (.int .u8 0), .lit (.int .u8 8), .lit (.int .u8 12), .lit (.int .u8 2), .lit (.int .u8 13), .lit (.int .u8 7), .lit (.int .u8 1), .lit (.int .u8 4), .lit (.int .u8 10), .lit (.int .u8 5)], .agg [.lit (.int .u8 10), .lit (.int .u8 2), .lit (.int .u8 8), .lit (.int .u8 4), .lit (.int .u8 7), .lit (.int .u8 6), .lit (.int .u8 1), .lit (.int .u8 5), .lit (.int .u8 15), .lit (.int .u8 11), .lit (.int .u8 9), .lit (.int .u8 14), .lit (.int .u8 3), .lit (.int .u8 12), .lit (.int .u8 13), .lit (.int .u8 0)]]
def laid_cartouche_blake_mixings {H : Type} : DataW H := .agg [.agg [.lit (.int .u8 0), .lit (.int .u8 4), .lit (.int .u8 8), .lit (.int .u8 12)], .agg [.lit (.int .u8 1), .lit (.int .u8 5), .lit (.int .u8 9), .lit (.int .u8 13)], .agg [.lit (.int .u8 2), .lit (.int .u8 6), .lit (.int .u8 10), .lit (.int .u8 14)], .agg [.lit (.int .u8 3), .lit (.int .u8 7), .lit (.int .u8 11), .lit (.int .u8 15)], .agg [.lit (.int .u8 0), .lit (.int .u8 5), .lit (.int .u8 10), .lit (.int .u8 15)], .agg [.lit (.int .u8 1), .lit (.int .u8 6), .lit (.int .u8 11), .lit (.int .u8 12)], .agg [.lit (.int .u8 2), .lit (.int .u8 7), .lit (.int .u8 8), .lit (.int .u8 13)], .agg [.lit (.int .u8 3), .lit (.int .u8 4), .lit (.int .u8 9), .lit (.int .u8 14)]]

/-- 'cartouchelaw07.RedactNames': WHATEVER THE INPUT: true; the input reads as it did. -/
def redactNamesSpec : ChangeSpec := { name := "redactNames", fn := fun _ => fun
  | [d1, d2, d3] => { results := [.lit (.bool true)], args := [d1, d2, d3] }
  | _ => none }
def redactNamesRow : OpenClaim := { program := "ytbckobokiioeaaadoor", sum := "d1e32b23b4d5a6a448782648f16d7e4f238bcc55ee3f3f44382325fa80936719", func := "cartouche/cartouchelaw07.RedactNames", spec := "redactNames", unfollowed := true, recurses := true, named := ["internal/strconv.uint64pow10", "math/bits.deBruijn32tab", "math/bits.deBruijn64tab"], apart := false, laid := [("math/bits.deBruijn32tab", laid_math_bits_deBruijn32tab), ("math/bits.deBruijn64tab", laid_math_bits_deBruijn64tab), ("internal/strconv.uint64pow10", laid_internal_strconv_uint64pow10)] }
def RedactNamesSaid : Prop := redactNamesRow.holds Tryd.pinned (OpenSpec.ofChange redactNamesSpec)

/-- ITS FALSE NEIGHBOUR: 'it returns false'. Refute it at one input. -/
def redactNamesWrong : ChangeSpec := { name := "redactNames", fn := fun _ => fun
  | [d1, d2, d3] => { results := [.lit (.bool false)], args := [d1, d2, d3] }
  | _ => none }
def RedactNamesWrongFalsely : Prop := redactNamesRow.holds Tryd.pinned (OpenSpec.ofChange redactNamesWrong)

/-- 'cartouchelaw07.RedactBegins': WHATEVER THE INPUT: true; the input reads as it did. -/
def redactBeginsSpec : ChangeSpec := { name := "redactBegins", fn := fun _ => fun
  | [d1, d2] => { results := [.lit (.bool true)], args := [d1, d2] }
  | _ => none }
def redactBeginsRow : OpenClaim := { program := "ytbckobokiioeaaadoor", sum := "d1e32b23b4d5a6a448782648f16d7e4f238bcc55ee3f3f44382325fa80936719", func := "cartouche/cartouchelaw07.RedactBegins", spec := "redactBegins", unfollowed := true, recurses := true, named := ["internal/strconv.uint64pow10", "math/bits.deBruijn32tab", "math/bits.deBruijn64tab"], apart := false, laid := [("math/bits.deBruijn32tab", laid_math_bits_deBruijn32tab), ("math/bits.deBruijn64tab", laid_math_bits_deBruijn64tab), ("internal/strconv.uint64pow10", laid_internal_strconv_uint64pow10)] }
def RedactBeginsSaid : Prop := redactBeginsRow.holds Tryd.pinned (OpenSpec.ofChange redactBeginsSpec)

/-- ITS FALSE NEIGHBOUR: 'it returns false'. Refute it at one input. -/
def redactBeginsWrong : ChangeSpec := { name := "redactBegins", fn := fun _ => fun
  | [d1, d2] => { results := [.lit (.bool false)], args := [d1, d2] }
  | _ => none }
def RedactBeginsWrongFalsely : Prop := redactBeginsRow.holds Tryd.pinned (OpenSpec.ofChange redactBeginsWrong)

/-- 'cartouchelaw07.RedactTags': WHATEVER THE INPUT: true; the input reads as it did. -/
def redactTagsSpec : ChangeSpec := { name := "redactTags", fn := fun _ => fun
  | [d] => { results := [.lit (.bool true)], args := [d] }
  | _ => none }
def redactTagsRow : OpenClaim := { program := "ytbckobokiioeaaadoor", sum := "d1e32b23b4d5a6a448782648f16d7e4f238bcc55ee3f3f44382325fa80936719", func := "cartouche/cartouchelaw07.RedactTags", spec := "redactTags", inPlace := ["internal/abi.NoEscape", "internal/bytealg.MakeNoZero"], unfollowed := true, recurses := true, named := ["internal/strconv.uint64pow10", "math/bits.deBruijn32tab", "math/bits.deBruijn64tab", "cartouche/blake.begins", "cartouche/blake.mixings", "cartouche/blake.orders"], apart := false, laid := [("math/bits.deBruijn32tab", laid_math_bits_deBruijn32tab), ("math/bits.deBruijn64tab", laid_math_bits_deBruijn64tab), ("internal/strconv.uint64pow10", laid_internal_strconv_uint64pow10), ("cartouche/blake.begins", laid_cartouche_blake_begins), ("cartouche/blake.orders", laid_cartouche_blake_orders), ("cartouche/blake.mixings", laid_cartouche_blake_mixings)] }
def RedactTagsSaid : Prop := redactTagsRow.holds Tryd.pinned (OpenSpec.ofChange redactTagsSpec)

/-- ITS FALSE NEIGHBOUR: 'it returns false'. Refute it at one input. -/
def redactTagsWrong : ChangeSpec := { name := "redactTags", fn := fun _ => fun
  | [d] => { results := [.lit (.bool false)], args := [d] }
  | _ => none }
def RedactTagsWrongFalsely : Prop := redactTagsRow.holds Tryd.pinned (OpenSpec.ofChange redactTagsWrong)

/-- 'cartouchelaw07.RedactHides': WHATEVER THE INPUT: true; the input reads as it did. -/
def redactHidesSpec : ChangeSpec := { name := "redactHides", fn := fun _ => fun
  | [d1, d2] => { results := [.lit (.bool true)], args := [d1, d2] }
  | _ => none }
def redactHidesRow : OpenClaim := { program := "ytbckobokiioeaaadoor", sum := "d1e32b23b4d5a6a448782648f16d7e4f238bcc55ee3f3f44382325fa80936719", func := "cartouche/cartouchelaw07.RedactHides", spec := "redactHides", inPlace := ["internal/abi.NoEscape", "internal/bytealg.MakeNoZero"], unfollowed := true, recurses := true, named := ["internal/strconv.uint64pow10", "math/bits.deBruijn32tab", "math/bits.deBruijn64tab", "cartouche/blake.begins", "cartouche/blake.mixings", "cartouche/blake.orders"], apart := false, laid := [("math/bits.deBruijn32tab", laid_math_bits_deBruijn32tab), ("math/bits.deBruijn64tab", laid_math_bits_deBruijn64tab), ("internal/strconv.uint64pow10", laid_internal_strconv_uint64pow10), ("cartouche/blake.begins", laid_cartouche_blake_begins), ("cartouche/blake.orders", laid_cartouche_blake_orders), ("cartouche/blake.mixings", laid_cartouche_blake_mixings)] }
def RedactHidesSaid : Prop := redactHidesRow.holds Tryd.pinned (OpenSpec.ofChange redactHidesSpec)

/-- ITS FALSE NEIGHBOUR: 'it returns false'. Refute it at one input. -/
def redactHidesWrong : ChangeSpec := { name := "redactHides", fn := fun _ => fun
  | [d1, d2] => { results := [.lit (.bool false)], args := [d1, d2] }
  | _ => none }
def RedactHidesWrongFalsely : Prop := redactHidesRow.holds Tryd.pinned (OpenSpec.ofChange redactHidesWrong)

/-- 'cartouchelaw07.RedactAgain': WHATEVER THE INPUT: true; the input reads as it did. -/
def redactAgainSpec : ChangeSpec := { name := "redactAgain", fn := fun _ => fun
  | [d1, d2, d3] => { results := [.lit (.bool true)], args := [d1, d2, d3] }
  | _ => none }
def redactAgainRow : OpenClaim := { program := "ytbckobokiioeaaadoor", sum := "d1e32b23b4d5a6a448782648f16d7e4f238bcc55ee3f3f44382325fa80936719", func := "cartouche/cartouchelaw07.RedactAgain", spec := "redactAgain", inPlace := ["internal/abi.NoEscape", "internal/bytealg.MakeNoZero"], unfollowed := true, recurses := true, named := ["internal/strconv.uint64pow10", "math/bits.deBruijn32tab", "math/bits.deBruijn64tab", "cartouche/blake.begins", "cartouche/blake.mixings", "cartouche/blake.orders"], apart := false, laid := [("math/bits.deBruijn32tab", laid_math_bits_deBruijn32tab), ("math/bits.deBruijn64tab", laid_math_bits_deBruijn64tab), ("internal/strconv.uint64pow10", laid_internal_strconv_uint64pow10), ("cartouche/blake.begins", laid_cartouche_blake_begins), ("cartouche/blake.orders", laid_cartouche_blake_orders), ("cartouche/blake.mixings", laid_cartouche_blake_mixings)] }
def RedactAgainSaid : Prop := redactAgainRow.holds Tryd.pinned (OpenSpec.ofChange redactAgainSpec)

/-- ITS FALSE NEIGHBOUR: 'it returns false'. Refute it at one input. -/
def redactAgainWrong : ChangeSpec := { name := "redactAgain", fn := fun _ => fun
  | [d1, d2, d3] => { results := [.lit (.bool false)], args := [d1, d2, d3] }
  | _ => none }
def RedactAgainWrongFalsely : Prop := redactAgainRow.holds Tryd.pinned (OpenSpec.ofChange redactAgainWrong)

/-- 'cartouchelaw07.RedactRows': WHATEVER THE INPUT: true; the input reads as it did. -/
def redactRowsSpec : ChangeSpec := { name := "redactRows", fn := fun _ => fun
  | [d1, d2] => { results := [.lit (.bool true)], args := [d1, d2] }
  | _ => none }
def redactRowsRow : OpenClaim := { program := "ytbckobokiioeaaadoor", sum := "d1e32b23b4d5a6a448782648f16d7e4f238bcc55ee3f3f44382325fa80936719", func := "cartouche/cartouchelaw07.RedactRows", spec := "redactRows", inPlace := ["internal/abi.NoEscape", "internal/bytealg.MakeNoZero"], unfollowed := true, recurses := true, named := ["internal/strconv.uint64pow10", "math/bits.deBruijn32tab", "math/bits.deBruijn64tab", "cartouche/blake.begins", "cartouche/blake.mixings", "cartouche/blake.orders"], apart := false, laid := [("math/bits.deBruijn32tab", laid_math_bits_deBruijn32tab), ("math/bits.deBruijn64tab", laid_math_bits_deBruijn64tab), ("internal/strconv.uint64pow10", laid_internal_strconv_uint64pow10), ("cartouche/blake.begins", laid_cartouche_blake_begins), ("cartouche/blake.orders", laid_cartouche_blake_orders), ("cartouche/blake.mixings", laid_cartouche_blake_mixings)] }
def RedactRowsSaid : Prop := redactRowsRow.holds Tryd.pinned (OpenSpec.ofChange redactRowsSpec)

/-- ITS FALSE NEIGHBOUR: 'it returns false'. Refute it at one input. -/
def redactRowsWrong : ChangeSpec := { name := "redactRows", fn := fun _ => fun
  | [d1, d2] => { results := [.lit (.bool false)], args := [d1, d2] }
  | _ => none }
def RedactRowsWrongFalsely : Prop := redactRowsRow.holds Tryd.pinned (OpenSpec.ofChange redactRowsWrong)

/- THE SECOND FORM. 'bulk': how many values and letters a reading holds, each counted each time it is reached (what is shared counts as often as it is met; a slice's spare places count too). A statement '..UptoSaid' is the law's where the arguments, and the package variables that the reading takes, are together of bulk at most 1048576: NARROWER than '..Said'. Prove '..Said' where nothing that the law and all that it calls make is longer than what came in: it says more and counts as full. Else prove '..UptoSaid'. A law counts once. -/
mutual
def uptoBulk {H : Type} : DataW H → Nat
  | .lit (.string bytes) => bytes.length + 1
  | .lit _ => 1
  | .nil => 1
  | .ptr d => uptoBulk d + 1
  | .slice elems spare => uptoBulkAll elems + uptoBulkAll spare + 1
  | .agg parts => uptoBulkAll parts + 1
  | .iface _ d => uptoBulk d + 1
  | .map entries => uptoBulkEntries entries + 1
  | .held _ => 1
def uptoBulkAll {H : Type} : List (DataW H) → Nat
  | [] => 0
  | d :: r => uptoBulk d + uptoBulkAll r
def uptoBulkEntries {H : Type} : List (Lit × DataW H) → Nat
  | [] => 0
  | x :: r => uptoBulkEntry x + uptoBulkEntries r
def uptoBulkEntry {H : Type} : Lit × DataW H → Nat
  | (.string bytes, d) => bytes.length + uptoBulk d + 1
  | (_, d) => uptoBulk d + 1
 end
def uptoSmall : (H : Type) → List (DataW H) → Bool := fun _ ds => decide (uptoBulkAll ds ≤ 1048576)
def OpenSpec.upto (s : _root_.Go.ChangeSpec) : _root_.Go.OpenSpec := { _root_.Go.OpenSpec.ofChange s with cond := some uptoSmall }

/-- 'cartouchelaw07.RedactNames', WHERE WHAT IT READS IS OF BULK AT MOST 1048576: true; the input reads as it did. -/
def redactNamesUptoRow : OpenClaim := { program := "ytbckobokiioeaaadoor", sum := "d1e32b23b4d5a6a448782648f16d7e4f238bcc55ee3f3f44382325fa80936719", func := "cartouche/cartouchelaw07.RedactNames", spec := "redactNames", unfollowed := true, recurses := true, named := ["internal/strconv.uint64pow10", "math/bits.deBruijn32tab", "math/bits.deBruijn64tab"], apart := false, laid := [("math/bits.deBruijn32tab", laid_math_bits_deBruijn32tab), ("math/bits.deBruijn64tab", laid_math_bits_deBruijn64tab), ("internal/strconv.uint64pow10", laid_internal_strconv_uint64pow10)], narrowed := true }
def RedactNamesUptoSaid : Prop := redactNamesUptoRow.holds Tryd.pinned (OpenSpec.upto redactNamesSpec)

/-- 'cartouchelaw07.RedactBegins', WHERE WHAT IT READS IS OF BULK AT MOST 1048576: true; the input reads as it did. -/
def redactBeginsUptoRow : OpenClaim := { program := "ytbckobokiioeaaadoor", sum := "d1e32b23b4d5a6a448782648f16d7e4f238bcc55ee3f3f44382325fa80936719", func := "cartouche/cartouchelaw07.RedactBegins", spec := "redactBegins", unfollowed := true, recurses := true, named := ["internal/strconv.uint64pow10", "math/bits.deBruijn32tab", "math/bits.deBruijn64tab"], apart := false, laid := [("math/bits.deBruijn32tab", laid_math_bits_deBruijn32tab), ("math/bits.deBruijn64tab", laid_math_bits_deBruijn64tab), ("internal/strconv.uint64pow10", laid_internal_strconv_uint64pow10)], narrowed := true }
def RedactBeginsUptoSaid : Prop := redactBeginsUptoRow.holds Tryd.pinned (OpenSpec.upto redactBeginsSpec)

/-- 'cartouchelaw07.RedactTags', WHERE WHAT IT READS IS OF BULK AT MOST 1048576: true; the input reads as it did. -/
def redactTagsUptoRow : OpenClaim := { program := "ytbckobokiioeaaadoor", sum := "d1e32b23b4d5a6a448782648f16d7e4f238bcc55ee3f3f44382325fa80936719", func := "cartouche/cartouchelaw07.RedactTags", spec := "redactTags", inPlace := ["internal/abi.NoEscape", "internal/bytealg.MakeNoZero"], unfollowed := true, recurses := true, named := ["internal/strconv.uint64pow10", "math/bits.deBruijn32tab", "math/bits.deBruijn64tab", "cartouche/blake.begins", "cartouche/blake.mixings", "cartouche/blake.orders"], apart := false, laid := [("math/bits.deBruijn32tab", laid_math_bits_deBruijn32tab), ("math/bits.deBruijn64tab", laid_math_bits_deBruijn64tab), ("internal/strconv.uint64pow10", laid_internal_strconv_uint64pow10), ("cartouche/blake.begins", laid_cartouche_blake_begins), ("cartouche/blake.orders", laid_cartouche_blake_orders), ("cartouche/blake.mixings", laid_cartouche_blake_mixings)], narrowed := true }
def RedactTagsUptoSaid : Prop := redactTagsUptoRow.holds Tryd.pinned (OpenSpec.upto redactTagsSpec)

/-- 'cartouchelaw07.RedactHides', WHERE WHAT IT READS IS OF BULK AT MOST 1048576: true; the input reads as it did. -/
def redactHidesUptoRow : OpenClaim := { program := "ytbckobokiioeaaadoor", sum := "d1e32b23b4d5a6a448782648f16d7e4f238bcc55ee3f3f44382325fa80936719", func := "cartouche/cartouchelaw07.RedactHides", spec := "redactHides", inPlace := ["internal/abi.NoEscape", "internal/bytealg.MakeNoZero"], unfollowed := true, recurses := true, named := ["internal/strconv.uint64pow10", "math/bits.deBruijn32tab", "math/bits.deBruijn64tab", "cartouche/blake.begins", "cartouche/blake.mixings", "cartouche/blake.orders"], apart := false, laid := [("math/bits.deBruijn32tab", laid_math_bits_deBruijn32tab), ("math/bits.deBruijn64tab", laid_math_bits_deBruijn64tab), ("internal/strconv.uint64pow10", laid_internal_strconv_uint64pow10), ("cartouche/blake.begins", laid_cartouche_blake_begins), ("cartouche/blake.orders", laid_cartouche_blake_orders), ("cartouche/blake.mixings", laid_cartouche_blake_mixings)], narrowed := true }
def RedactHidesUptoSaid : Prop := redactHidesUptoRow.holds Tryd.pinned (OpenSpec.upto redactHidesSpec)

/-- 'cartouchelaw07.RedactAgain', WHERE WHAT IT READS IS OF BULK AT MOST 1048576: true; the input reads as it did. -/
def redactAgainUptoRow : OpenClaim := { program := "ytbckobokiioeaaadoor", sum := "d1e32b23b4d5a6a448782648f16d7e4f238bcc55ee3f3f44382325fa80936719", func := "cartouche/cartouchelaw07.RedactAgain", spec := "redactAgain", inPlace := ["internal/abi.NoEscape", "internal/bytealg.MakeNoZero"], unfollowed := true, recurses := true, named := ["internal/strconv.uint64pow10", "math/bits.deBruijn32tab", "math/bits.deBruijn64tab", "cartouche/blake.begins", "cartouche/blake.mixings", "cartouche/blake.orders"], apart := false, laid := [("math/bits.deBruijn32tab", laid_math_bits_deBruijn32tab), ("math/bits.deBruijn64tab", laid_math_bits_deBruijn64tab), ("internal/strconv.uint64pow10", laid_internal_strconv_uint64pow10), ("cartouche/blake.begins", laid_cartouche_blake_begins), ("cartouche/blake.orders", laid_cartouche_blake_orders), ("cartouche/blake.mixings", laid_cartouche_blake_mixings)], narrowed := true }
def RedactAgainUptoSaid : Prop := redactAgainUptoRow.holds Tryd.pinned (OpenSpec.upto redactAgainSpec)

/-- 'cartouchelaw07.RedactRows', WHERE WHAT IT READS IS OF BULK AT MOST 1048576: true; the input reads as it did. -/
def redactRowsUptoRow : OpenClaim := { program := "ytbckobokiioeaaadoor", sum := "d1e32b23b4d5a6a448782648f16d7e4f238bcc55ee3f3f44382325fa80936719", func := "cartouche/cartouchelaw07.RedactRows", spec := "redactRows", inPlace := ["internal/abi.NoEscape", "internal/bytealg.MakeNoZero"], unfollowed := true, recurses := true, named := ["internal/strconv.uint64pow10", "math/bits.deBruijn32tab", "math/bits.deBruijn64tab", "cartouche/blake.begins", "cartouche/blake.mixings", "cartouche/blake.orders"], apart := false, laid := [("math/bits.deBruijn32tab", laid_math_bits_deBruijn32tab), ("math/bits.deBruijn64tab", laid_math_bits_deBruijn64tab), ("internal/strconv.uint64pow10", laid_internal_strconv_uint64pow10), ("cartouche/blake.begins", laid_cartouche_blake_begins), ("cartouche/blake.orders", laid_cartouche_blake_orders), ("cartouche/blake.mixings", laid_cartouche_blake_mixings)], narrowed := true }
def RedactRowsUptoSaid : Prop := redactRowsUptoRow.holds Tryd.pinned (OpenSpec.upto redactRowsSpec)

end Rows
end Go.Proofs.YtbckobokiioeaaaDoor
