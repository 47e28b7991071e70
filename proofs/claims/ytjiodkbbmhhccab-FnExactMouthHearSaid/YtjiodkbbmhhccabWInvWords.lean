/- Words for the proofs of this seat: what values lie where in memory, and what each step of the walk does to them. Laid by wip/xp/mkwords.py. No condition. -/
import Derived.Test.YtjiodkbbmhhccabWInv
import Derived.Test.YtjiodkbbmhhccabWFootNe
namespace Go.Proofs.YtjiodkbbmhhccabW.PrintWords
open Go.RowKit
end Go.Proofs.YtjiodkbbmhhccabW.PrintWords
namespace Go.Proofs.YtjiodkbbmhhccabW.PrintLast
section
variable {ops : Array Oper} {a : Act} {o og : Oper} {g : Nat} {t : Tmp} {u : Bool}
end
end Go.Proofs.YtjiodkbbmhhccabW.PrintLast
