/- Words for the proofs of this seat: what values lie where in memory, and what each step of the walk does to them. Laid by wip/xp/mkwords.py. No condition. -/
import Derived.Test.YtgemkjclamlmbaaWInv
import Derived.Test.YtgemkjclamlmbaaWFootNe
namespace Go.Proofs.YtgemkjclamlmbaaW.PrintWords
open Go.RowKit
end Go.Proofs.YtgemkjclamlmbaaW.PrintWords
namespace Go.Proofs.YtgemkjclamlmbaaW.PrintLast
section
variable {ops : Array Oper} {a : Act} {o og : Oper} {g : Nat} {t : Tmp} {u : Bool}
end
end Go.Proofs.YtgemkjclamlmbaaW.PrintLast
