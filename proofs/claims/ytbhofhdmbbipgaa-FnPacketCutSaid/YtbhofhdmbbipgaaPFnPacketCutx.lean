/- Printed by wip/xp/xprint.sh out of the translation, for this claim: what each function answers, as a plain function, and that the machine does just that. No condition. -/
import Derived.Test.YtbhofhdmbbipgaaPFnPacketCutx0
import Derived.Test.YtbhofhdmbbipgaaPFnPacketCutx1
import Derived.Test.YtbhofhdmbbipgaaPFnPacketCutx2
import Derived.Test.YtbhofhdmbbipgaaPFnPacketCutx3
import Derived.Test.YtbhofhdmbbipgaaPFnPacketCutx4
import Derived.Test.YtbhofhdmbbipgaaPFnPacketCutx5
import Derived.Test.YtbhofhdmbbipgaaPFnPacketCutx6
namespace Go.Proofs.Ytbhofhdmbbipgaa.PFnPacketCut
open Go.RowKit Go.Proofs.YtbhofhdmbbipgaaW.PrintWords Go.Proofs.YtbhofhdmbbipgaaW.PrintLast Go.Proofs.YtbhofhdmbbipgaaW.PrintMore
attribute [local go_sem] max2_int min2_int max_two min_two max_three min_three max_four min_four   -- for this text's walks alone
set_option linter.unusedVariables false
set_option linter.unusedSimpArgs false
end Go.Proofs.Ytbhofhdmbbipgaa.PFnPacketCut
