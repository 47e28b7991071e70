/- Rows whose elements have inner rows, written element by element: a store into a field, an inner row handed over; what lies apart by when it was made. No condition: plain lemmas. -/
import Derived.Test.YtdoohdbfpnmndaaWCarry
namespace Go.Proofs.YtdoohdbfpnmndaaW.PrintWords
open Go.RowKit
namespace Kd
section
variable {α : Type} {d : Kd α} {e base g n cap : Nat} {W : World} {ok : Nat → Prop} {xs : List α} {i : Int} {y : α}
end
end Kd
section
variable {α : Type} {d : Kd α} {e base lo hi : Nat} {W W0 w2 : World} {ok : Nat → Prop} {v : Value} {xs : List α} {S0 : Nat → Prop} {a : Nat}
end
end Go.Proofs.YtdoohdbfpnmndaaW.PrintWords
