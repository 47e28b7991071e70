/- Printed by wip/xp/xprint.sh out of the translation, for this claim: what each function answers, as a plain function, and that the machine does just that. No condition. -/
import Derived.Test.YtegchbdjbefdbaaPFnExactClientAskx0
import Derived.Test.YtegchbdjbefdbaaPFnExactClientAskx1
import Derived.Test.YtegchbdjbefdbaaPFnExactClientAskx2
import Derived.Test.YtegchbdjbefdbaaPFnExactClientAskx3
import Derived.Test.YtegchbdjbefdbaaPFnExactClientAskx4
import Derived.Test.YtegchbdjbefdbaaPFnExactClientAskx5
import Derived.Test.YtegchbdjbefdbaaPFnExactClientAskx6
import Derived.Test.YtegchbdjbefdbaaPFnExactClientAskx7
import Derived.Test.YtegchbdjbefdbaaPFnExactClientAskx8
namespace Go.Proofs.Ytegchbdjbefdbaa.PFnExactClientAsk
open Go.RowKit Go.Proofs.YtegchbdjbefdbaaW.PrintWords Go.Proofs.YtegchbdjbefdbaaW.PrintLast Go.Proofs.YtegchbdjbefdbaaW.PrintMore
attribute [local go_sem] max2_int min2_int max_two min_two max_three min_three max_four min_four   -- for this text's walks alone
set_option linter.unusedVariables false
set_option linter.unusedSimpArgs false
end Go.Proofs.Ytegchbdjbefdbaa.PFnExactClientAsk
