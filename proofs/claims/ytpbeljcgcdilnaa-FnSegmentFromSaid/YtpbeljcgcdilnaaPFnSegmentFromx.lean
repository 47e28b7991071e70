/- Printed by wip/xp/xprint.sh out of the translation, for this claim: what each function answers, as a plain function, and that the machine does just that. No condition. -/
import Derived.Test.YtpbeljcgcdilnaaPFnSegmentFromx0
import Derived.Test.YtpbeljcgcdilnaaPFnSegmentFromx1
import Derived.Test.YtpbeljcgcdilnaaPFnSegmentFromx2
import Derived.Test.YtpbeljcgcdilnaaPFnSegmentFromx3
import Derived.Test.YtpbeljcgcdilnaaPFnSegmentFromx4
import Derived.Test.YtpbeljcgcdilnaaPFnSegmentFromx5
import Derived.Test.YtpbeljcgcdilnaaPFnSegmentFromx6
import Derived.Test.YtpbeljcgcdilnaaPFnSegmentFromx7
import Derived.Test.YtpbeljcgcdilnaaPFnSegmentFromx8
import Derived.Test.YtpbeljcgcdilnaaPFnSegmentFromx9
import Derived.Test.YtpbeljcgcdilnaaPFnSegmentFromx10
import Derived.Test.YtpbeljcgcdilnaaPFnSegmentFromx11
namespace Go.Proofs.Ytpbeljcgcdilnaa.PFnSegmentFrom
open Go.RowKit Go.Proofs.YtpbeljcgcdilnaaW.PrintWords Go.Proofs.YtpbeljcgcdilnaaW.PrintLast Go.Proofs.YtpbeljcgcdilnaaW.PrintMore
attribute [local go_sem] max2_int min2_int max_two min_two max_three min_three max_four min_four   -- for this text's walks alone
set_option linter.unusedVariables false
set_option linter.unusedSimpArgs false
end Go.Proofs.Ytpbeljcgcdilnaa.PFnSegmentFrom
