/- Printed by wip/xp/xprint.sh out of the translation, for this claim: what each function answers, as a plain function, and that the machine does just that. No condition. -/
import Derived.Test.YtegchbdjbefdbaaPFnExactClientOverx0
import Derived.Test.YtegchbdjbefdbaaPFnExactClientOverx1
import Derived.Test.YtegchbdjbefdbaaPFnExactClientOverx2
import Derived.Test.YtegchbdjbefdbaaPFnExactClientOverx3
import Derived.Test.YtegchbdjbefdbaaPFnExactClientOverx4
import Derived.Test.YtegchbdjbefdbaaPFnExactClientOverx5
import Derived.Test.YtegchbdjbefdbaaPFnExactClientOverx6
namespace Go.Proofs.Ytegchbdjbefdbaa.PFnExactClientOver
open Go.RowKit Go.Proofs.YtegchbdjbefdbaaW.PrintWords Go.Proofs.YtegchbdjbefdbaaW.PrintLast Go.Proofs.YtegchbdjbefdbaaW.PrintMore
attribute [local go_sem] max2_int min2_int max_two min_two max_three min_three max_four min_four   -- for this text's walks alone
set_option linter.unusedVariables false
set_option linter.unusedSimpArgs false
end Go.Proofs.Ytegchbdjbefdbaa.PFnExactClientOver
