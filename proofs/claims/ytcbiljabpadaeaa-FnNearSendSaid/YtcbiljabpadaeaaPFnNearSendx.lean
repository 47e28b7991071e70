/- Printed by wip/xp/xprint.sh out of the translation, for this claim: what each function answers, as a plain function, and that the machine does just that. No condition. -/
import Derived.Test.YtcbiljabpadaeaaPFnNearSendx0
import Derived.Test.YtcbiljabpadaeaaPFnNearSendx1
import Derived.Test.YtcbiljabpadaeaaPFnNearSendx2
import Derived.Test.YtcbiljabpadaeaaPFnNearSendx3
import Derived.Test.YtcbiljabpadaeaaPFnNearSendx4
import Derived.Test.YtcbiljabpadaeaaPFnNearSendx5
import Derived.Test.YtcbiljabpadaeaaPFnNearSendx6
import Derived.Test.YtcbiljabpadaeaaPFnNearSendx7
namespace Go.Proofs.Ytcbiljabpadaeaa.PFnNearSend
open Go.RowKit Go.Proofs.YtcbiljabpadaeaaW.PrintWords Go.Proofs.YtcbiljabpadaeaaW.PrintLast Go.Proofs.YtcbiljabpadaeaaW.PrintMore
attribute [local go_sem] max2_int min2_int max_two min_two max_three min_three max_four min_four   -- for this text's walks alone
set_option linter.unusedVariables false
set_option linter.unusedSimpArgs false
end Go.Proofs.Ytcbiljabpadaeaa.PFnNearSend
