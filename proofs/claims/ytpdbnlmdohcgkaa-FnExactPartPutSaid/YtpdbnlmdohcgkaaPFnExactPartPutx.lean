/- Printed by wip/xp/xprint.sh out of the translation, for this claim: what each function answers, as a plain function, and that the machine does just that. No condition. -/
import Derived.Test.YtpdbnlmdohcgkaaPFnExactPartPutx0
import Derived.Test.YtpdbnlmdohcgkaaPFnExactPartPutx1
import Derived.Test.YtpdbnlmdohcgkaaPFnExactPartPutx2
import Derived.Test.YtpdbnlmdohcgkaaPFnExactPartPutx3
import Derived.Test.YtpdbnlmdohcgkaaPFnExactPartPutx4
import Derived.Test.YtpdbnlmdohcgkaaPFnExactPartPutx5
import Derived.Test.YtpdbnlmdohcgkaaPFnExactPartPutx6
import Derived.Test.YtpdbnlmdohcgkaaPFnExactPartPutx7
import Derived.Test.YtpdbnlmdohcgkaaPFnExactPartPutx8
import Derived.Test.YtpdbnlmdohcgkaaPFnExactPartPutx9
import Derived.Test.YtpdbnlmdohcgkaaPFnExactPartPutx10
namespace Go.Proofs.Ytpdbnlmdohcgkaa.PFnExactPartPut
open Go.RowKit Go.Proofs.YtpdbnlmdohcgkaaW.PrintWords Go.Proofs.YtpdbnlmdohcgkaaW.PrintLast Go.Proofs.YtpdbnlmdohcgkaaW.PrintMore
attribute [local go_sem] max2_int min2_int max_two min_two max_three min_three max_four min_four   -- for this text's walks alone
set_option linter.unusedVariables false
set_option linter.unusedSimpArgs false
end Go.Proofs.Ytpdbnlmdohcgkaa.PFnExactPartPut
