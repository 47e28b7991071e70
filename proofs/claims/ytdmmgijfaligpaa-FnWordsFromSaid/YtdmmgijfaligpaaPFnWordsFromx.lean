/- Printed by wip/xp/xprint.sh out of the translation, for this claim: what each function answers, as a plain function, and that the machine does just that. No condition. -/
import Derived.Test.YtdmmgijfaligpaaPFnWordsFromx0
import Derived.Test.YtdmmgijfaligpaaPFnWordsFromx1
import Derived.Test.YtdmmgijfaligpaaPFnWordsFromx2
import Derived.Test.YtdmmgijfaligpaaPFnWordsFromx3
import Derived.Test.YtdmmgijfaligpaaPFnWordsFromx4
import Derived.Test.YtdmmgijfaligpaaPFnWordsFromx5
namespace Go.Proofs.Ytdmmgijfaligpaa.PFnWordsFrom
open Go.RowKit Go.Proofs.YtdmmgijfaligpaaW.PrintWords Go.Proofs.YtdmmgijfaligpaaW.PrintLast Go.Proofs.YtdmmgijfaligpaaW.PrintMore
attribute [local go_sem] max2_int min2_int max_two min_two max_three min_three max_four min_four   -- for this text's walks alone
set_option linter.unusedVariables false
set_option linter.unusedSimpArgs false

end Go.Proofs.Ytdmmgijfaligpaa.PFnWordsFrom
