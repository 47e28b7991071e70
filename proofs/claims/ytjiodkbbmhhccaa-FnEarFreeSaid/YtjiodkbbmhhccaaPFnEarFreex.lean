/- Printed by wip/xp/xprint.sh out of the translation, for this claim: what each function answers, as a plain function, and that the machine does just that. No condition. -/
import Derived.Test.YtjiodkbbmhhccaaPFnEarFreex0
import Derived.Test.YtjiodkbbmhhccaaPFnEarFreex1
import Derived.Test.YtjiodkbbmhhccaaPFnEarFreex2
import Derived.Test.YtjiodkbbmhhccaaPFnEarFreex3
import Derived.Test.YtjiodkbbmhhccaaPFnEarFreex4
import Derived.Test.YtjiodkbbmhhccaaPFnEarFreex5
import Derived.Test.YtjiodkbbmhhccaaPFnEarFreex6
import Derived.Test.YtjiodkbbmhhccaaPFnEarFreex7
import Derived.Test.YtjiodkbbmhhccaaPFnEarFreex8
import Derived.Test.YtjiodkbbmhhccaaPFnEarFreex9
import Derived.Test.YtjiodkbbmhhccaaPFnEarFreex10
namespace Go.Proofs.Ytjiodkbbmhhccaa.PFnEarFree
open Go.RowKit Go.Proofs.YtjiodkbbmhhccaaW.PrintWords Go.Proofs.YtjiodkbbmhhccaaW.PrintLast Go.Proofs.YtjiodkbbmhhccaaW.PrintMore
attribute [local go_sem] max2_int min2_int max_two min_two max_three min_three max_four min_four   -- for this text's walks alone
set_option linter.unusedVariables false
set_option linter.unusedSimpArgs false

end Go.Proofs.Ytjiodkbbmhhccaa.PFnEarFree
