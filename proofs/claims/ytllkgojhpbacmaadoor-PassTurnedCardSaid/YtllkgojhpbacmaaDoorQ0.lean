-- Written by pp.py, a program of the session, with the kit's print. Not trusted: Lean checks it.
import Derived.Test.YtllkgojhpbacmaaDoorProg
import Derived.Below
import Derived.Deep.Draws
import Derived.Deep.AppendLies
import Derived.Maps.AppendAt
import Derived.OwnWalk
import Derived.Laws.BytesArg
import Derived.Laws.MakeOwn
import Derived.Laws.OwnMore
import Derived.Deep.OwnRows
import Derived.Tactics
import Derived.Lib.ConvBytes
import Derived.Laws.Slices
import Derived.WalkKit
import Derived.KernelRfl
import Derived.RowKit3
import Derived.Deep.LoopGhost
import Derived.Deep.QuietTactic
import Derived.BigQuiet
import Derived.WideLaws
import Derived.Deep.DeepCutAuto
import Derived.Deep.CutBlock
import Derived.Deep.RegionHeld3
import Derived.Laws.Rows
import Derived.Lib.AppendStr
import Derived.ArgAppend
import Derived.Laws.IdiomCopy
import Derived.OrdersHeld
import Derived.Laws.BitsLemmas
import Derived.RowKit
import Derived.Test.YtllkgojhpbacmaaDoorRefB
import Derived.Test.YtllkgojhpbacmaaDoorNum
import Derived.Test.YtllkgojhpbacmaaDoorWWords
import Derived.Test.YtllkgojhpbacmaaDoorWLast
import Derived.Test.YtllkgojhpbacmaaDoorWTab
import Derived.Test.YtllkgojhpbacmaaDoorWFour
import Derived.Test.YtllkgojhpbacmaaDoorWQPut
import Derived.Test.YtllkgojhpbacmaaDoorWApart
import Derived.Test.YtllkgojhpbacmaaDoorWArr
import Derived.Test.YtllkgojhpbacmaaDoorWZeros
import Derived.Test.YtllkgojhpbacmaaDoorWFoot
import Derived.Test.YtllkgojhpbacmaaDoorWKept
import Derived.Test.YtllkgojhpbacmaaDoorWShare
import Derived.Test.YtllkgojhpbacmaaDoorWN
import Derived.Test.YtllkgojhpbacmaaDoorWFootNe
import Derived.Test.YtllkgojhpbacmaaDoorWAt
import Derived.Test.YtllkgojhpbacmaaDoorWEqStruct
import Derived.Test.YtllkgojhpbacmaaDoorWRepsOne
import Derived.Test.YtllkgojhpbacmaaDoorWInv
import Derived.Test.YtllkgojhpbacmaaDoorWInvWords
import Derived.Test.YtllkgojhpbacmaaDoorWGuard
import Derived.Test.YtllkgojhpbacmaaDoorWNEv
import Derived.Test.YtllkgojhpbacmaaDoorWMore
namespace Go.Proofs.YtllkgojhpbacmaaDoor.Q
open Go.RowKit Go.Proofs.YtllkgojhpbacmaaDoorW.PrintWords Go.Proofs.YtllkgojhpbacmaaDoorW.PrintLast Go.Proofs.YtllkgojhpbacmaaDoorW.PrintMore
attribute [local go_sem] max2_int min2_int max_two min_two max_three min_three max_four min_four   -- for this text's walks alone
set_option linter.unusedVariables false
set_option linter.unusedSimpArgs false



def errW : Option Int → Value
  | none => .nilIface
  | some c => .iface 0 (.int .i64 c)
theorem errW_none : errW none = .nilIface := rfl
theorem errW_some (c : Int) : errW (some c) = .iface 0 (.int .i64 c) := rfl

theorem info5 : (Tryd.prog.info? 5).map (fun i => (i.zero, i.size, i.bytes)) = some (some (.int .u8 0), 1, 1) := by kernel_rfl
-- the values' own types

end Go.Proofs.YtllkgojhpbacmaaDoor.Q
