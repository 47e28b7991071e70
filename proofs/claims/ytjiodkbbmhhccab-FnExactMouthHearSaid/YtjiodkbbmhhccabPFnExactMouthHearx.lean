/- Printed by wip/xp/xprint.sh out of the translation, for this claim: what each function answers, as a plain function, and that the machine does just that. No condition. -/
import Derived.Test.YtjiodkbbmhhccabPFnExactMouthHearx0
import Derived.Test.YtjiodkbbmhhccabPFnExactMouthHearx1
import Derived.Test.YtjiodkbbmhhccabPFnExactMouthHearx2
import Derived.Test.YtjiodkbbmhhccabPFnExactMouthHearx3
import Derived.Test.YtjiodkbbmhhccabPFnExactMouthHearx4
import Derived.Test.YtjiodkbbmhhccabPFnExactMouthHearx5
import Derived.Test.YtjiodkbbmhhccabPFnExactMouthHearx6
import Derived.Test.YtjiodkbbmhhccabPFnExactMouthHearx7
namespace Go.Proofs.Ytjiodkbbmhhccab.PFnExactMouthHear
open Go.RowKit Go.Proofs.YtjiodkbbmhhccabW.PrintWords Go.Proofs.YtjiodkbbmhhccabW.PrintLast Go.Proofs.YtjiodkbbmhhccabW.PrintMore
attribute [local go_sem] max2_int min2_int max_two min_two max_three min_three max_four min_four   -- for this text's walks alone
set_option linter.unusedVariables false
set_option linter.unusedSimpArgs false

end Go.Proofs.Ytjiodkbbmhhccab.PFnExactMouthHear
