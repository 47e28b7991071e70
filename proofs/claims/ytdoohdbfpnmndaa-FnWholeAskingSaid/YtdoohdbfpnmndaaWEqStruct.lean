/- Words for the proofs of this seat: what values lie where in memory, and what each step of the walk does to them. Laid by wip/xp/mkwords.py. No condition. -/
import Derived.Test.YtdoohdbfpnmndaaWWords
import Derived.Laws.StructEq
namespace Go.Proofs.YtdoohdbfpnmndaaW.PrintWords
open Go.RowKit
section
variable {P : Program} {d : Nat} {xs ys : Array Value} {f : Field} {fs : List Field} {a b : Value} {r s : Bool} {w : World}
end
end Go.Proofs.YtdoohdbfpnmndaaW.PrintWords
