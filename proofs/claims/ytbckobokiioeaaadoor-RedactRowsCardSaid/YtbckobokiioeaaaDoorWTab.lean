-- Written by the kit's print (its words), cut to what is used by shake.py, a program of the session. Not trusted: Lean checks it.
import Derived.Test.YtbckobokiioeaaaDoorWLast
import Derived.Test.YtbckobokiioeaaaDoorWWords
/-! ### 50. A region's order in a table, made once a region: each step asks the table (numbers alone), not the operations -/
namespace Go.Proofs.YtbckobokiioeaaaDoorW.PrintLast
open Go.Proofs.YtbckobokiioeaaaDoorW.PrintWords (Aside0)
section
variable {md : Region.Mode} {ops : Array Oper} {T : Bool × List (List Nat × List Nat)} {l l' li lj lk : Array Bool} {ds : List Nat} {i j k : Nat}
end
end Go.Proofs.YtbckobokiioeaaaDoorW.PrintLast
