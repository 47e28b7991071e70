/- Printed by wip/xp/xprint.sh out of the translation, for this claim: what each function answers, as a plain function, and that the machine does just that. No condition. -/
import Derived.Test.YtdoohdbfpnmndaaPFnNearHearx0
import Derived.Test.YtdoohdbfpnmndaaPFnNearHearx1
import Derived.Test.YtdoohdbfpnmndaaPFnNearHearx2
import Derived.Test.YtdoohdbfpnmndaaPFnNearHearx3
import Derived.Test.YtdoohdbfpnmndaaPFnNearHearx4
import Derived.Test.YtdoohdbfpnmndaaPFnNearHearx5
import Derived.Test.YtdoohdbfpnmndaaPFnNearHearx6
import Derived.Test.YtdoohdbfpnmndaaPFnNearHearx7
import Derived.Test.YtdoohdbfpnmndaaPFnNearHearx8
import Derived.Test.YtdoohdbfpnmndaaPFnNearHearx9
import Derived.Test.YtdoohdbfpnmndaaPFnNearHearx10
namespace Go.Proofs.Ytdoohdbfpnmndaa.PFnNearHear
open Go.RowKit Go.Proofs.YtdoohdbfpnmndaaW.PrintWords Go.Proofs.YtdoohdbfpnmndaaW.PrintLast Go.Proofs.YtdoohdbfpnmndaaW.PrintMore
attribute [local go_sem] max2_int min2_int max_two min_two max_three min_three max_four min_four   -- for this text's walks alone
set_option linter.unusedVariables false
set_option linter.unusedSimpArgs false
end Go.Proofs.Ytdoohdbfpnmndaa.PFnNearHear
