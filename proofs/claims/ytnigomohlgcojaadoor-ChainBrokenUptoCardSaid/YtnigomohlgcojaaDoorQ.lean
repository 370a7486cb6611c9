-- Written by pp.py, a program of the session, with the kit's print. Not trusted: Lean checks it.
import Derived.Test.YtnigomohlgcojaaDoorQ0
import Derived.Test.YtnigomohlgcojaaDoorQ1
import Derived.Test.YtnigomohlgcojaaDoorQ2
import Derived.Test.YtnigomohlgcojaaDoorQ3
import Derived.Test.YtnigomohlgcojaaDoorQ4
namespace Go.Proofs.YtnigomohlgcojaaDoor.Q
open Go.RowKit Go.Proofs.YtnigomohlgcojaaDoorW.PrintWords Go.Proofs.YtnigomohlgcojaaDoorW.PrintLast Go.Proofs.YtnigomohlgcojaaDoorW.PrintMore
attribute [local go_sem] max2_int min2_int max_two min_two max_three min_three max_four min_four   -- for this text's walks alone
set_option linter.unusedVariables false
set_option linter.unusedSimpArgs false

end Go.Proofs.YtnigomohlgcojaaDoor.Q
