/- Printed by wip/xp/xprint.sh out of the translation, for this claim: what each function answers, as a plain function, and that the machine does just that. No condition. -/
import Derived.Test.YtjiodkbbmhhccabPFnMouthWritex0
import Derived.Test.YtjiodkbbmhhccabPFnMouthWritex1
import Derived.Test.YtjiodkbbmhhccabPFnMouthWritex2
import Derived.Test.YtjiodkbbmhhccabPFnMouthWritex3
import Derived.Test.YtjiodkbbmhhccabPFnMouthWritex4
import Derived.Test.YtjiodkbbmhhccabPFnMouthWritex5
import Derived.Test.YtjiodkbbmhhccabPFnMouthWritex6
import Derived.Test.YtjiodkbbmhhccabPFnMouthWritex7
import Derived.Test.YtjiodkbbmhhccabPFnMouthWritex8
import Derived.Test.YtjiodkbbmhhccabPFnMouthWritex9
import Derived.Test.YtjiodkbbmhhccabPFnMouthWritex10
import Derived.Test.YtjiodkbbmhhccabPFnMouthWritex11
import Derived.Test.YtjiodkbbmhhccabPFnMouthWritex12
import Derived.Test.YtjiodkbbmhhccabPFnMouthWritex13
namespace Go.Proofs.Ytjiodkbbmhhccab.PFnMouthWrite
open Go.RowKit Go.Proofs.YtjiodkbbmhhccabW.PrintWords Go.Proofs.YtjiodkbbmhhccabW.PrintLast Go.Proofs.YtjiodkbbmhhccabW.PrintMore
attribute [local go_sem] max2_int min2_int max_two min_two max_three min_three max_four min_four   -- for this text's walks alone
set_option linter.unusedVariables false
set_option linter.unusedSimpArgs false

end Go.Proofs.Ytjiodkbbmhhccab.PFnMouthWrite
