/- A row of the call's own, and a cell of it that lies behind its length. Calls of a function that stands in a variable. No condition: plain lemmas. -/
import Derived.Test.YtbhofhdmbbipgaaWCarry
import Derived.Lib.SliceRun
import Derived.Deep.RegionLaw
namespace Go.Proofs.YtbhofhdmbbipgaaW.PrintWords
open Go.RowKit
namespace Kd
end Kd
class HasBase (p : Prop) (v : outParam Value) (base : outParam Nat) : Prop where
  out : p → ∀ k, v.ownBlock = some k → base ≤ k
section
variable {α : Type} {d : Kd α} {e base : Nat} {w : World} {ok : Nat → Prop} {v : Value} {xs : List α}
instance : HasBase (d.R e w base ok v xs) v base := ⟨Kd.R_base⟩
instance : HasBase (d.S e w base ok v xs) v base := ⟨Kd.S_base⟩
instance : HasBase (d.N e w base ok v xs) v base := ⟨Kd.N_base⟩
theorem Kd.base_ {p : Prop} {v : Value} {base : Nat} [i : HasBase p v base] (h : p) : ∀ k, v.ownBlock = some k → base ≤ k := i.out h
end
section
variable {P : Program} {ops : Array Oper} {Q : Exit → Act → World → Prop}
end
end Go.Proofs.YtbhofhdmbbipgaaW.PrintWords
