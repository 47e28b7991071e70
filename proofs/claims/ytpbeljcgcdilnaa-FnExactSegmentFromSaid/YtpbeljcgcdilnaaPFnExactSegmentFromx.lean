/- Printed by wip/xp/xprint.sh out of the translation, for this claim: what each function answers, as a plain function, and that the machine does just that. No condition. -/
import Derived.Test.YtpbeljcgcdilnaaPFnExactSegmentFromx0
import Derived.Test.YtpbeljcgcdilnaaPFnExactSegmentFromx1
import Derived.Test.YtpbeljcgcdilnaaPFnExactSegmentFromx2
import Derived.Test.YtpbeljcgcdilnaaPFnExactSegmentFromx3
import Derived.Test.YtpbeljcgcdilnaaPFnExactSegmentFromx4
import Derived.Test.YtpbeljcgcdilnaaPFnExactSegmentFromx5
import Derived.Test.YtpbeljcgcdilnaaPFnExactSegmentFromx6
import Derived.Test.YtpbeljcgcdilnaaPFnExactSegmentFromx7
import Derived.Test.YtpbeljcgcdilnaaPFnExactSegmentFromx8
namespace Go.Proofs.Ytpbeljcgcdilnaa.PFnExactSegmentFrom
open Go.RowKit Go.Proofs.YtpbeljcgcdilnaaW.PrintWords Go.Proofs.YtpbeljcgcdilnaaW.PrintLast Go.Proofs.YtpbeljcgcdilnaaW.PrintMore
attribute [local go_sem] max2_int min2_int max_two min_two max_three min_three max_four min_four   -- for this text's walks alone
set_option linter.unusedVariables false
set_option linter.unusedSimpArgs false
end Go.Proofs.Ytpbeljcgcdilnaa.PFnExactSegmentFrom
