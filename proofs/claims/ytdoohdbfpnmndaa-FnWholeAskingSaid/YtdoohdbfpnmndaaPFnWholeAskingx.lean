/- Printed by wip/xp/xprint.sh out of the translation, for this claim: what each function answers, as a plain function, and that the machine does just that. No condition. -/
import Derived.Test.YtdoohdbfpnmndaaPFnWholeAskingx0
import Derived.Test.YtdoohdbfpnmndaaPFnWholeAskingx1
import Derived.Test.YtdoohdbfpnmndaaPFnWholeAskingx2
import Derived.Test.YtdoohdbfpnmndaaPFnWholeAskingx3
import Derived.Test.YtdoohdbfpnmndaaPFnWholeAskingx4
import Derived.Test.YtdoohdbfpnmndaaPFnWholeAskingx5
import Derived.Test.YtdoohdbfpnmndaaPFnWholeAskingx6
import Derived.Test.YtdoohdbfpnmndaaPFnWholeAskingx7
import Derived.Test.YtdoohdbfpnmndaaPFnWholeAskingx8
namespace Go.Proofs.Ytdoohdbfpnmndaa.PFnWholeAsking
open Go.RowKit Go.Proofs.YtdoohdbfpnmndaaW.PrintWords Go.Proofs.YtdoohdbfpnmndaaW.PrintLast Go.Proofs.YtdoohdbfpnmndaaW.PrintMore
attribute [local go_sem] max2_int min2_int max_two min_two max_three min_three max_four min_four   -- for this text's walks alone
set_option linter.unusedVariables false
set_option linter.unusedSimpArgs false
end Go.Proofs.Ytdoohdbfpnmndaa.PFnWholeAsking
