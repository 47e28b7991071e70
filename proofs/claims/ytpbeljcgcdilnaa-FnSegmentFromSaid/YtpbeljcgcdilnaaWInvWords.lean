/- Words for the proofs of this seat: what values lie where in memory, and what each step of the walk does to them. Laid by wip/xp/mkwords.py. No condition. -/
import Derived.Test.YtpbeljcgcdilnaaWInv
import Derived.Test.YtpbeljcgcdilnaaWFootNe
namespace Go.Proofs.YtpbeljcgcdilnaaW.PrintWords
open Go.RowKit
end Go.Proofs.YtpbeljcgcdilnaaW.PrintWords
namespace Go.Proofs.YtpbeljcgcdilnaaW.PrintLast
section
variable {ops : Array Oper} {a : Act} {o og : Oper} {g : Nat} {t : Tmp} {u : Bool}
end
end Go.Proofs.YtpbeljcgcdilnaaW.PrintLast
