/- A world for the witness of chapter 07's rows: all tables that the rows name, as their own words lay them. -/
import Derived.Test.YtbckobokiioeaaaDoorFrameM
import Derived.Test.YtbckobokiioeaaaDoorRows
set_option linter.unusedVariables false
namespace Go.Proofs.YtbckobokiioeaaaDoor
open Go.RowKit

/-- A table's cells. -/
def cells7 : DataW Unit → Array Value
  | .agg xs => (xs.map fun | .lit (.int k z) => Value.int k z | _ => undef).toArray
  | _ => #[]
noncomputable def laidWorld7 (os : Os) : World :=
  let m := fun (g : Nat) (cs : Array Value) (h : Array Obj) => h.modify g fun
    | .cells _ t frozen => .cells cs t frozen
    | o => o
  { laidWorld os with heap := m 3 (cells7 Rows.laid_internal_strconv_uint64pow10) (m 5 (cells7 Rows.laid_math_bits_deBruijn32tab) (m 6 (cells7 Rows.laid_math_bits_deBruijn64tab) (laidWorld os).heap)) }
end Go.Proofs.YtbckobokiioeaaaDoor
