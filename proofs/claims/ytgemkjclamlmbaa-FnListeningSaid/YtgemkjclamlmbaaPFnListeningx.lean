/- Printed by wip/xp/xprint.sh out of the translation, for this claim: what each function answers, as a plain function, and that the machine does just that. No condition. -/
import Derived.Test.YtgemkjclamlmbaaPFnListeningx0
import Derived.Test.YtgemkjclamlmbaaPFnListeningx1
import Derived.Test.YtgemkjclamlmbaaPFnListeningx2
import Derived.Test.YtgemkjclamlmbaaPFnListeningx3
import Derived.Test.YtgemkjclamlmbaaPFnListeningx4
import Derived.Test.YtgemkjclamlmbaaPFnListeningx5
import Derived.Test.YtgemkjclamlmbaaPFnListeningx6
import Derived.Test.YtgemkjclamlmbaaPFnListeningx7
import Derived.Test.YtgemkjclamlmbaaPFnListeningx8
namespace Go.Proofs.Ytgemkjclamlmbaa.PFnListening
open Go.RowKit Go.Proofs.YtgemkjclamlmbaaW.PrintWords Go.Proofs.YtgemkjclamlmbaaW.PrintLast Go.Proofs.YtgemkjclamlmbaaW.PrintMore
attribute [local go_sem] max2_int min2_int max_two min_two max_three min_three max_four min_four   -- for this text's walks alone
set_option linter.unusedVariables false
set_option linter.unusedSimpArgs false
end Go.Proofs.Ytgemkjclamlmbaa.PFnListening
