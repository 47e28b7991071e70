/- Words for the proofs of this seat: what values lie where in memory, and what each step of the walk does to them. Laid by wip/xp/mkwords.py. No condition. -/
import Derived.Test.YtcbiljabpadaeaaWInv
import Derived.Test.YtcbiljabpadaeaaWFootNe
namespace Go.Proofs.YtcbiljabpadaeaaW.PrintWords
open Go.RowKit
end Go.Proofs.YtcbiljabpadaeaaW.PrintWords
namespace Go.Proofs.YtcbiljabpadaeaaW.PrintLast
section
variable {ops : Array Oper} {a : Act} {o og : Oper} {g : Nat} {t : Tmp} {u : Bool}
end
end Go.Proofs.YtcbiljabpadaeaaW.PrintLast
