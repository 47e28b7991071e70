/- Printed by wip/xp/xprint.sh out of the translation, for this claim: what each function answers, as a plain function, and that the machine does just that. No condition. -/
import Derived.Test.YtjiodkbbmhhccaaPFnEarReadx0
import Derived.Test.YtjiodkbbmhhccaaPFnEarReadx1
import Derived.Test.YtjiodkbbmhhccaaPFnEarReadx2
import Derived.Test.YtjiodkbbmhhccaaPFnEarReadx3
import Derived.Test.YtjiodkbbmhhccaaPFnEarReadx4
import Derived.Test.YtjiodkbbmhhccaaPFnEarReadx5
import Derived.Test.YtjiodkbbmhhccaaPFnEarReadx6
import Derived.Test.YtjiodkbbmhhccaaPFnEarReadx7
import Derived.Test.YtjiodkbbmhhccaaPFnEarReadx8
import Derived.Test.YtjiodkbbmhhccaaPFnEarReadx9
import Derived.Test.YtjiodkbbmhhccaaPFnEarReadx10
import Derived.Test.YtjiodkbbmhhccaaPFnEarReadx11
namespace Go.Proofs.Ytjiodkbbmhhccaa.PFnEarRead
open Go.RowKit Go.Proofs.YtjiodkbbmhhccaaW.PrintWords Go.Proofs.YtjiodkbbmhhccaaW.PrintLast Go.Proofs.YtjiodkbbmhhccaaW.PrintMore
attribute [local go_sem] max2_int min2_int max_two min_two max_three min_three max_four min_four   -- for this text's walks alone
set_option linter.unusedVariables false
set_option linter.unusedSimpArgs false

end Go.Proofs.Ytjiodkbbmhhccaa.PFnEarRead
