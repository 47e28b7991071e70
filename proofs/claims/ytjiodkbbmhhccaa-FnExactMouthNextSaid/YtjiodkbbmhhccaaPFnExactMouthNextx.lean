/- Printed by wip/xp/xprint.sh out of the translation, for this claim: what each function answers, as a plain function, and that the machine does just that. No condition. -/
import Derived.Test.YtjiodkbbmhhccaaPFnExactMouthNextx0
import Derived.Test.YtjiodkbbmhhccaaPFnExactMouthNextx1
import Derived.Test.YtjiodkbbmhhccaaPFnExactMouthNextx2
import Derived.Test.YtjiodkbbmhhccaaPFnExactMouthNextx3
import Derived.Test.YtjiodkbbmhhccaaPFnExactMouthNextx4
import Derived.Test.YtjiodkbbmhhccaaPFnExactMouthNextx5
import Derived.Test.YtjiodkbbmhhccaaPFnExactMouthNextx6
import Derived.Test.YtjiodkbbmhhccaaPFnExactMouthNextx7
namespace Go.Proofs.Ytjiodkbbmhhccaa.PFnExactMouthNext
open Go.RowKit Go.Proofs.YtjiodkbbmhhccaaW.PrintWords Go.Proofs.YtjiodkbbmhhccaaW.PrintLast Go.Proofs.YtjiodkbbmhhccaaW.PrintMore
attribute [local go_sem] max2_int min2_int max_two min_two max_three min_three max_four min_four   -- for this text's walks alone
set_option linter.unusedVariables false
set_option linter.unusedSimpArgs false

end Go.Proofs.Ytjiodkbbmhhccaa.PFnExactMouthNext
