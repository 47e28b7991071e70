/- Printed by wip/xp/xprint.sh out of the translation, for this claim: what each function answers, as a plain function, and that the machine does just that. No condition. -/
import Derived.Test.YtbhofhdmbbipgaaPFnEarHearx0
import Derived.Test.YtbhofhdmbbipgaaPFnEarHearx1
import Derived.Test.YtbhofhdmbbipgaaPFnEarHearx2
import Derived.Test.YtbhofhdmbbipgaaPFnEarHearx3
import Derived.Test.YtbhofhdmbbipgaaPFnEarHearx4
import Derived.Test.YtbhofhdmbbipgaaPFnEarHearx5
import Derived.Test.YtbhofhdmbbipgaaPFnEarHearx6
import Derived.Test.YtbhofhdmbbipgaaPFnEarHearx7
import Derived.Test.YtbhofhdmbbipgaaPFnEarHearx8
import Derived.Test.YtbhofhdmbbipgaaPFnEarHearx9
namespace Go.Proofs.Ytbhofhdmbbipgaa.PFnEarHear
open Go.RowKit Go.Proofs.YtbhofhdmbbipgaaW.PrintWords Go.Proofs.YtbhofhdmbbipgaaW.PrintLast Go.Proofs.YtbhofhdmbbipgaaW.PrintMore
attribute [local go_sem] max2_int min2_int max_two min_two max_three min_three max_four min_four   -- for this text's walks alone
set_option linter.unusedVariables false
set_option linter.unusedSimpArgs false
end Go.Proofs.Ytbhofhdmbbipgaa.PFnEarHear
