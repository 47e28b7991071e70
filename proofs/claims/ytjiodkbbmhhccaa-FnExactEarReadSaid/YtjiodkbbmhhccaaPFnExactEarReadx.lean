/- Printed by wip/xp/xprint.sh out of the translation, for this claim: what each function answers, as a plain function, and that the machine does just that. No condition. -/
import Derived.Test.YtjiodkbbmhhccaaPFnExactEarReadx0
import Derived.Test.YtjiodkbbmhhccaaPFnExactEarReadx1
import Derived.Test.YtjiodkbbmhhccaaPFnExactEarReadx2
import Derived.Test.YtjiodkbbmhhccaaPFnExactEarReadx3
import Derived.Test.YtjiodkbbmhhccaaPFnExactEarReadx4
import Derived.Test.YtjiodkbbmhhccaaPFnExactEarReadx5
import Derived.Test.YtjiodkbbmhhccaaPFnExactEarReadx6
import Derived.Test.YtjiodkbbmhhccaaPFnExactEarReadx7
import Derived.Test.YtjiodkbbmhhccaaPFnExactEarReadx8
import Derived.Test.YtjiodkbbmhhccaaPFnExactEarReadx9
namespace Go.Proofs.Ytjiodkbbmhhccaa.PFnExactEarRead
open Go.RowKit Go.Proofs.YtjiodkbbmhhccaaW.PrintWords Go.Proofs.YtjiodkbbmhhccaaW.PrintLast Go.Proofs.YtjiodkbbmhhccaaW.PrintMore
attribute [local go_sem] max2_int min2_int max_two min_two max_three min_three max_four min_four   -- for this text's walks alone
set_option linter.unusedVariables false
set_option linter.unusedSimpArgs false

end Go.Proofs.Ytjiodkbbmhhccaa.PFnExactEarRead
