/- Printed by wip/xp/xprint.sh out of the translation, for this claim: what each function answers, as a plain function, and that the machine does just that. No condition. -/
import Derived.Test.YtegchbdjbefdbaaPFnClientOverx0
import Derived.Test.YtegchbdjbefdbaaPFnClientOverx1
import Derived.Test.YtegchbdjbefdbaaPFnClientOverx2
import Derived.Test.YtegchbdjbefdbaaPFnClientOverx3
import Derived.Test.YtegchbdjbefdbaaPFnClientOverx4
import Derived.Test.YtegchbdjbefdbaaPFnClientOverx5
import Derived.Test.YtegchbdjbefdbaaPFnClientOverx6
import Derived.Test.YtegchbdjbefdbaaPFnClientOverx7
namespace Go.Proofs.Ytegchbdjbefdbaa.PFnClientOver
open Go.RowKit Go.Proofs.YtegchbdjbefdbaaW.PrintWords Go.Proofs.YtegchbdjbefdbaaW.PrintLast Go.Proofs.YtegchbdjbefdbaaW.PrintMore
attribute [local go_sem] max2_int min2_int max_two min_two max_three min_three max_four min_four   -- for this text's walks alone
set_option linter.unusedVariables false
set_option linter.unusedSimpArgs false
end Go.Proofs.Ytegchbdjbefdbaa.PFnClientOver
