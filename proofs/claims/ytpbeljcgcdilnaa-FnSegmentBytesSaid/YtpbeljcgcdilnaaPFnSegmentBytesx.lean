/- Printed by wip/xp/xprint.sh out of the translation, for this claim: what each function answers, as a plain function, and that the machine does just that. No condition. -/
import Derived.Test.YtpbeljcgcdilnaaPFnSegmentBytesx0
import Derived.Test.YtpbeljcgcdilnaaPFnSegmentBytesx1
import Derived.Test.YtpbeljcgcdilnaaPFnSegmentBytesx2
import Derived.Test.YtpbeljcgcdilnaaPFnSegmentBytesx3
import Derived.Test.YtpbeljcgcdilnaaPFnSegmentBytesx4
import Derived.Test.YtpbeljcgcdilnaaPFnSegmentBytesx5
import Derived.Test.YtpbeljcgcdilnaaPFnSegmentBytesx6
import Derived.Test.YtpbeljcgcdilnaaPFnSegmentBytesx7
import Derived.Test.YtpbeljcgcdilnaaPFnSegmentBytesx8
import Derived.Test.YtpbeljcgcdilnaaPFnSegmentBytesx9
namespace Go.Proofs.Ytpbeljcgcdilnaa.PFnSegmentBytes
open Go.RowKit Go.Proofs.YtpbeljcgcdilnaaW.PrintWords Go.Proofs.YtpbeljcgcdilnaaW.PrintLast Go.Proofs.YtpbeljcgcdilnaaW.PrintMore
attribute [local go_sem] max2_int min2_int max_two min_two max_three min_three max_four min_four   -- for this text's walks alone
set_option linter.unusedVariables false
set_option linter.unusedSimpArgs false
end Go.Proofs.Ytpbeljcgcdilnaa.PFnSegmentBytes
