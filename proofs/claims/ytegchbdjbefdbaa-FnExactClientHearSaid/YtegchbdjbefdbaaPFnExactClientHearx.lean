/- Printed by wip/xp/xprint.sh out of the translation, for this claim: what each function answers, as a plain function, and that the machine does just that. No condition. -/
import Derived.Test.YtegchbdjbefdbaaPFnExactClientHearx0
import Derived.Test.YtegchbdjbefdbaaPFnExactClientHearx1
import Derived.Test.YtegchbdjbefdbaaPFnExactClientHearx2
import Derived.Test.YtegchbdjbefdbaaPFnExactClientHearx3
import Derived.Test.YtegchbdjbefdbaaPFnExactClientHearx4
import Derived.Test.YtegchbdjbefdbaaPFnExactClientHearx5
import Derived.Test.YtegchbdjbefdbaaPFnExactClientHearx6
import Derived.Test.YtegchbdjbefdbaaPFnExactClientHearx7
import Derived.Test.YtegchbdjbefdbaaPFnExactClientHearx8
namespace Go.Proofs.Ytegchbdjbefdbaa.PFnExactClientHear
open Go.RowKit Go.Proofs.YtegchbdjbefdbaaW.PrintWords Go.Proofs.YtegchbdjbefdbaaW.PrintLast Go.Proofs.YtegchbdjbefdbaaW.PrintMore
attribute [local go_sem] max2_int min2_int max_two min_two max_three min_three max_four min_four   -- for this text's walks alone
set_option linter.unusedVariables false
set_option linter.unusedSimpArgs false
end Go.Proofs.Ytegchbdjbefdbaa.PFnExactClientHear
