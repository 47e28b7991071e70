/- Words for the proofs of this seat: what values lie where in memory, and what each step of the walk does to them. Laid by wip/xp/mkwords.py. No condition. -/
import Derived.Test.YtdoohdbfpnmndaaWInv
import Derived.Test.YtdoohdbfpnmndaaWFootNe
namespace Go.Proofs.YtdoohdbfpnmndaaW.PrintWords
open Go.RowKit
end Go.Proofs.YtdoohdbfpnmndaaW.PrintWords
namespace Go.Proofs.YtdoohdbfpnmndaaW.PrintLast
section
variable {ops : Array Oper} {a : Act} {o og : Oper} {g : Nat} {t : Tmp} {u : Bool}
end
end Go.Proofs.YtdoohdbfpnmndaaW.PrintLast
