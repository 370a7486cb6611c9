-- Written by pp.py, a program of the session, with the kit's print. Not trusted: Lean checks it.
import Derived.Test.YtllkgojhpbacmaaDoorQ0
import Derived.Test.YtllkgojhpbacmaaDoorQ1
import Derived.Test.YtllkgojhpbacmaaDoorQ2
import Derived.Test.YtllkgojhpbacmaaDoorQ3
import Derived.Test.YtllkgojhpbacmaaDoorQ4
import Derived.Test.YtllkgojhpbacmaaDoorQ5
namespace Go.Proofs.YtllkgojhpbacmaaDoor.Q
open Go.RowKit Go.Proofs.YtllkgojhpbacmaaDoorW.PrintWords Go.Proofs.YtllkgojhpbacmaaDoorW.PrintLast Go.Proofs.YtllkgojhpbacmaaDoorW.PrintMore
attribute [local go_sem] max2_int min2_int max_two min_two max_three min_three max_four min_four   -- for this text's walks alone
set_option linter.unusedVariables false
set_option linter.unusedSimpArgs false

end Go.Proofs.YtllkgojhpbacmaaDoor.Q
