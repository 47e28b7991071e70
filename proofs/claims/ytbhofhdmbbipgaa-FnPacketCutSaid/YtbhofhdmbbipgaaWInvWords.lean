/- Words for the proofs of this seat: what values lie where in memory, and what each step of the walk does to them. Laid by wip/xp/mkwords.py. No condition. -/
import Derived.Test.YtbhofhdmbbipgaaWInv
import Derived.Test.YtbhofhdmbbipgaaWFootNe
namespace Go.Proofs.YtbhofhdmbbipgaaW.PrintWords
open Go.RowKit
end Go.Proofs.YtbhofhdmbbipgaaW.PrintWords
namespace Go.Proofs.YtbhofhdmbbipgaaW.PrintLast
section
variable {ops : Array Oper} {a : Act} {o og : Oper} {g : Nat} {t : Tmp} {u : Bool}
end
end Go.Proofs.YtbhofhdmbbipgaaW.PrintLast
