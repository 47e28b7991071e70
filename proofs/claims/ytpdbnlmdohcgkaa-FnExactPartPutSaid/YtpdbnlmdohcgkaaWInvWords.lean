/- Words for the proofs of this seat: what values lie where in memory, and what each step of the walk does to them. Laid by wip/xp/mkwords.py. No condition. -/
import Derived.Test.YtpdbnlmdohcgkaaWInv
import Derived.Test.YtpdbnlmdohcgkaaWFootNe
namespace Go.Proofs.YtpdbnlmdohcgkaaW.PrintWords
open Go.RowKit
end Go.Proofs.YtpdbnlmdohcgkaaW.PrintWords
namespace Go.Proofs.YtpdbnlmdohcgkaaW.PrintLast
section
variable {ops : Array Oper} {a : Act} {o og : Oper} {g : Nat} {t : Tmp} {u : Bool}
end
end Go.Proofs.YtpdbnlmdohcgkaaW.PrintLast
