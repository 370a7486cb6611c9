-- Written by pp.py, a program of the session, with the kit's print. Not trusted: Lean checks it.
import Derived.Test.YtnigomohlgcojaaDoorProg
import Derived.Below
import Derived.Deep.Draws
import Derived.Deep.AppendLies
import Derived.Maps.AppendAt
import Derived.OwnWalk
import Derived.Laws.BytesArg
import Derived.Laws.MakeOwn
import Derived.Laws.OwnMore
import Derived.Deep.OwnRows
import Derived.Tactics
import Derived.Lib.ConvBytes
import Derived.Laws.Slices
import Derived.WalkKit
import Derived.KernelRfl
import Derived.RowKit3
import Derived.Deep.LoopGhost
import Derived.Deep.QuietTactic
import Derived.BigQuiet
import Derived.WideLaws
import Derived.Deep.DeepCutAuto
import Derived.Deep.CutBlock
import Derived.Deep.RegionHeld3
import Derived.Laws.Rows
import Derived.Lib.AppendStr
import Derived.ArgAppend
import Derived.Laws.IdiomCopy
import Derived.OrdersHeld
import Derived.Laws.BitsLemmas
import Derived.RowKit
import Derived.Test.YtnigomohlgcojaaDoorQ
import Derived.Test.YtnigomohlgcojaaDoorChain
import Derived.Test.YtnigomohlgcojaaDoorWWords
import Derived.Test.YtnigomohlgcojaaDoorWLast
import Derived.Test.YtnigomohlgcojaaDoorWTab
import Derived.Test.YtnigomohlgcojaaDoorWFour
import Derived.Test.YtnigomohlgcojaaDoorWQPut
import Derived.Test.YtnigomohlgcojaaDoorWApart
import Derived.Test.YtnigomohlgcojaaDoorWArr
import Derived.Test.YtnigomohlgcojaaDoorWZeros
import Derived.Test.YtnigomohlgcojaaDoorWFoot
import Derived.Test.YtnigomohlgcojaaDoorWKept
import Derived.Test.YtnigomohlgcojaaDoorWShare
import Derived.Test.YtnigomohlgcojaaDoorWN
import Derived.Test.YtnigomohlgcojaaDoorWFootNe
import Derived.Test.YtnigomohlgcojaaDoorWAt
import Derived.Test.YtnigomohlgcojaaDoorWEqStruct
import Derived.Test.YtnigomohlgcojaaDoorWRepsOne
import Derived.Test.YtnigomohlgcojaaDoorWInv
import Derived.Test.YtnigomohlgcojaaDoorWInvWords
import Derived.Test.YtnigomohlgcojaaDoorWGuard
import Derived.Test.YtnigomohlgcojaaDoorWNEv
import Derived.Test.YtnigomohlgcojaaDoorWMore
namespace Go.Proofs.YtnigomohlgcojaaDoor.R
open Go.RowKit Go.Proofs.YtnigomohlgcojaaDoor.Q Go.Proofs.YtnigomohlgcojaaDoorW.PrintWords Go.Proofs.YtnigomohlgcojaaDoorW.PrintLast Go.Proofs.YtnigomohlgcojaaDoorW.PrintMore
attribute [local go_sem] max2_int min2_int max_two min_two max_three min_three max_four min_four   -- for this text's walks alone
set_option linter.unusedVariables false
set_option linter.unusedSimpArgs false



theorem info9 : (Tryd.prog.info? 9).map (fun i => (i.zero, i.size, i.bytes)) = some (some (.string ⟨#[]⟩), 1, 16) := by kernel_rfl
theorem info40 : (Tryd.prog.info? 40).map (fun i => (i.zero, i.size, i.bytes)) = some (some (.agg #[(.string ⟨#[]⟩), (.string ⟨#[]⟩)]), 2, 32) := by kernel_rfl
-- the values' own types
/-! #### struct type 40 -/

end Go.Proofs.YtnigomohlgcojaaDoor.R
