/- Words for the proofs of this seat: what values lie where in memory, and what each step of the walk does to them. Laid by wip/xp/mkwords.py. No condition. -/
import Derived.Test.YtegchbdjbefdbaaWInv
import Derived.Test.YtegchbdjbefdbaaWFootNe
namespace Go.Proofs.YtegchbdjbefdbaaW.PrintWords
open Go.RowKit
end Go.Proofs.YtegchbdjbefdbaaW.PrintWords
namespace Go.Proofs.YtegchbdjbefdbaaW.PrintLast
section
variable {ops : Array Oper} {a : Act} {o og : Oper} {g : Nat} {t : Tmp} {u : Bool}
end
end Go.Proofs.YtegchbdjbefdbaaW.PrintLast
