/- Words for the proofs of this seat: what values lie where in memory, and what each step of the walk does to them. Laid by wip/xp/mkwords.py. No condition. -/
import Derived.Test.YtjiodkbbmhhccaaWInv
import Derived.Test.YtjiodkbbmhhccaaWFootNe
namespace Go.Proofs.YtjiodkbbmhhccaaW.PrintWords
open Go.RowKit
end Go.Proofs.YtjiodkbbmhhccaaW.PrintWords
namespace Go.Proofs.YtjiodkbbmhhccaaW.PrintLast
section
variable {ops : Array Oper} {a : Act} {o og : Oper} {g : Nat} {t : Tmp} {u : Bool}
end
end Go.Proofs.YtjiodkbbmhhccaaW.PrintLast
