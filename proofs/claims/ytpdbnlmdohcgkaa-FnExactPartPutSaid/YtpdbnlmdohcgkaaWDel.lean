/- A row of the call's own, and a cell of it that lies behind its length. Calls of a function that stands in a variable. No condition: plain lemmas. -/
import Derived.Test.YtpdbnlmdohcgkaaWCarry
import Derived.Lib.SliceRun
import Derived.Deep.RegionLaw
namespace Go.Proofs.YtpdbnlmdohcgkaaW.PrintWords
open Go.RowKit
namespace Kd
end Kd
class HasBase (p : Prop) (v : outParam Value) (base : outParam Nat) : Prop where
  out : p → ∀ k, v.ownBlock = some k → base ≤ k
section
variable {α : Type} {d : Kd α} {e base : Nat} {w : World} {ok : Nat → Prop} {v : Value} {xs : List α}
instance : HasBase (d.R e w base ok v xs) v base := ⟨Kd.R_base⟩
instance : HasBase (d.S e w base ok v xs) v base := ⟨Kd.S_base⟩
instance : HasBase (d.N e w base ok v xs) v base := ⟨Kd.N_base⟩
end
section
variable {P : Program} {ops : Array Oper} {Q : Exit → Act → World → Prop}
theorem gateT_ {o : Oper} {rest : List Oper} {a : Act} {W : World} {u : Tmp} {as : Array Operand} {ts : Array TypeId} (_ho : o.op = .call { callee := .value (.tmp u), args := as, argTypes := ts }) (h : wpList P ops Q (o :: rest) a W) : wpList P ops Q (o :: rest) a W := h
theorem goesB_ {rest : List Oper} {oi : Oper} {a : Act} {w : World} {u : Tmp} (N : Option Tmp) (hd : oi.dst = N) (hg : oi.guard = none) {f : FuncId} {fn : Func} {ars : Array Operand} {ts : Array TypeId} (hf : P.funcs[f]? = some fn) (hname : (fn.name == "runtime.NumGoroutine") = false) (hb : fn.body.isSome = true) (args lb : Array Value)
    (hop : oi.op = .call { callee := .value (.tmp u), args := ars, argTypes := ts }) (hev : a.eval (.tmp u) = .func (.func f) #[] lb) (hargs : ars.map a.eval = args)
    (h : Calls P f (args ++ lb) w fun e w' => ∃ v, e = .returned v ∧ wpList P ops Q rest (a.put N v) w') : wpList P ops Q (oi :: rest) a w := by
  refine wpList_plain hg fun K hK => ?_
  have he := PrintLast.enters_ hf hname hb (args ++ lb) w
  have hrun : (execOp a.eval oi).run P w = .ok (.enter f (args ++ lb)) w := by
    unfold execOp
    simp [hop, hev, resolve, Deferred.ofValue, invoke, hargs, he]
  unfold Oper.wp
  rw [hrun, Oper.upon_enter]
  refine h.mono fun e w'' hh => ?_
  obtain ⟨v, rfl, hk⟩ := hh
  subst hd
  exact hK _ _ hk
end
end Go.Proofs.YtpdbnlmdohcgkaaW.PrintWords
