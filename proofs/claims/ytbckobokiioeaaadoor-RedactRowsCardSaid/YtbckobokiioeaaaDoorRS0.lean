-- Written by pp.py and splitq.py, programs of the session, with the kit's print. Not trusted: Lean checks it.
import Derived.Test.YtbckobokiioeaaaDoorProg
import Derived.Below
import Derived.Deep.Draws
import Derived.Deep.AppendLies
import Derived.Maps.AppendAt
import Derived.OwnWalk
import Derived.Laws.BytesArg
import Derived.Laws.MakeOwn
import Derived.Laws.OwnMore
import Derived.Deep.OwnRows
import Derived.Tactics
import Derived.Lib.ConvBytes
import Derived.Laws.Slices
import Derived.WalkKit
import Derived.KernelRfl
import Derived.RowKit3
import Derived.Deep.LoopGhost
import Derived.Deep.QuietTactic
import Derived.BigQuiet
import Derived.WideLaws
import Derived.Deep.DeepCutAuto
import Derived.Deep.CutBlock
import Derived.Deep.RegionHeld3
import Derived.Laws.Rows
import Derived.Lib.AppendStr
import Derived.ArgAppend
import Derived.Laws.IdiomCopy
import Derived.OrdersHeld
import Derived.Laws.BitsLemmas
import Derived.RowKit
import Derived.Test.YtbckobokiioeaaaDoorQS
import Derived.Test.YtbckobokiioeaaaDoorShape
import Derived.Test.YtbckobokiioeaaaDoorWWords
import Derived.Test.YtbckobokiioeaaaDoorWLast
import Derived.Test.YtbckobokiioeaaaDoorWTab
import Derived.Test.YtbckobokiioeaaaDoorWEqStruct
import Derived.Test.YtbckobokiioeaaaDoorWRepsOne
import Derived.Test.YtbckobokiioeaaaDoorWGuard
namespace Go.Proofs.YtbckobokiioeaaaDoor.R
open Go.RowKit Go.Proofs.YtbckobokiioeaaaDoor.Q Go.Proofs.YtbckobokiioeaaaDoorW.PrintWords Go.Proofs.YtbckobokiioeaaaDoorW.PrintLast
set_option linter.unusedVariables false
set_option linter.unusedSimpArgs false



theorem info26 : (Tryd.prog.info? 26).map (fun i => (i.zero, i.size, i.bytes)) = some (some (.agg #[(.int .i64 0), (.int .i64 0), (.string ⟨#[]⟩), (.string ⟨#[]⟩)]), 4, 48) := by kernel_rfl
-- the values' own types
/-! #### struct type 26 -/

section
variable {P : Program} {ops : Array Oper} {rest : List Oper} {o : Oper} {a : Act} {Q : Exit → Act → World → Prop} {W : World}
theorem look_callee {f : FuncId} {xs : Array Operand} {ts : Array TypeId} (_ : o.op = .call { callee := .value (.func f), args := xs, argTypes := ts }) (h : wpList P ops Q (o :: rest) a W) : wpList P ops Q (o :: rest) a W := h
theorem look_builtin {b : Builtin} {xs : Array Operand} {ts : Array TypeId} (_ : o.op = .call { callee := .builtin b, args := xs, argTypes := ts }) (h : wpList P ops Q (o :: rest) a W) : wpList P ops Q (o :: rest) a W := h
theorem look_drewN (w : World) (n : Nat) : w.drewN n = w.drewN n := rfl
end
end Go.Proofs.YtbckobokiioeaaaDoor.R
