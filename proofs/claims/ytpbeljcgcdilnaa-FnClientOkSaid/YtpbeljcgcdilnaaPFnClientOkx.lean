/- Printed by wip/xp/xprint.sh out of the translation, for this claim: what each function answers, as a plain function, and that the machine does just that. No condition. -/
import Derived.Test.YtpbeljcgcdilnaaPFnClientOkx0
import Derived.Test.YtpbeljcgcdilnaaPFnClientOkx1
import Derived.Test.YtpbeljcgcdilnaaPFnClientOkx2
import Derived.Test.YtpbeljcgcdilnaaPFnClientOkx3
import Derived.Test.YtpbeljcgcdilnaaPFnClientOkx4
import Derived.Test.YtpbeljcgcdilnaaPFnClientOkx5
import Derived.Test.YtpbeljcgcdilnaaPFnClientOkx6
namespace Go.Proofs.Ytpbeljcgcdilnaa.PFnClientOk
open Go.RowKit Go.Proofs.YtpbeljcgcdilnaaW.PrintWords Go.Proofs.YtpbeljcgcdilnaaW.PrintLast Go.Proofs.YtpbeljcgcdilnaaW.PrintMore
attribute [local go_sem] max2_int min2_int max_two min_two max_three min_three max_four min_four   -- for this text's walks alone
set_option linter.unusedVariables false
set_option linter.unusedSimpArgs false
end Go.Proofs.Ytpbeljcgcdilnaa.PFnClientOk
