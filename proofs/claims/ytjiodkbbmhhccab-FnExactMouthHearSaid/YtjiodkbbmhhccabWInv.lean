/- Words for the proofs of this seat: what values lie where in memory, and what each step of the walk does to them. Laid by wip/xp/mkwords.py. No condition. -/
import Derived.Test.YtjiodkbbmhhccabWTab
/-! ### 57. A region of open order by ONE relation over what is listed so far: each operation is shown once, whatever came up before it -/
namespace Go.Proofs.YtjiodkbbmhhccabW.PrintLast
section
variable {P : Program} {ops : Array Oper} {Q : Exit → Act → World → Prop} {md : Region.Mode} {T : Bool × List (List Nat × List Nat)} {B : List Nat} {O : List Nat} {b : Nat → Bool} {i j n : Nat}
/-! The frame: what is listed has its destination filled. -/
end
end Go.Proofs.YtjiodkbbmhhccabW.PrintLast
