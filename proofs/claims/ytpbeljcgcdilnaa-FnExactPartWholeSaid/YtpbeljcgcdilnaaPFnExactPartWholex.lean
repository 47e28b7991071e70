/- Printed by wip/xp/xprint.sh out of the translation, for this claim: what each function answers, as a plain function, and that the machine does just that. No condition. -/
import Derived.Test.YtpbeljcgcdilnaaPFnExactPartWholex0
import Derived.Test.YtpbeljcgcdilnaaPFnExactPartWholex1
import Derived.Test.YtpbeljcgcdilnaaPFnExactPartWholex2
import Derived.Test.YtpbeljcgcdilnaaPFnExactPartWholex3
import Derived.Test.YtpbeljcgcdilnaaPFnExactPartWholex4
import Derived.Test.YtpbeljcgcdilnaaPFnExactPartWholex5
namespace Go.Proofs.Ytpbeljcgcdilnaa.PFnExactPartWhole
open Go.RowKit Go.Proofs.YtpbeljcgcdilnaaW.PrintWords Go.Proofs.YtpbeljcgcdilnaaW.PrintLast Go.Proofs.YtpbeljcgcdilnaaW.PrintMore
attribute [local go_sem] max2_int min2_int max_two min_two max_three min_three max_four min_four   -- for this text's walks alone
set_option linter.unusedVariables false
set_option linter.unusedSimpArgs false
end Go.Proofs.Ytpbeljcgcdilnaa.PFnExactPartWhole
