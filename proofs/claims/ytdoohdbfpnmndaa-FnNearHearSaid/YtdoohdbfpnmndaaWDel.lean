/- A row of the call's own, and a cell of it that lies behind its length. Calls of a function that stands in a variable. No condition: plain lemmas. -/
import Derived.Test.YtdoohdbfpnmndaaWCarry
import Derived.Lib.SliceRun
import Derived.Deep.RegionLaw
namespace Go.Proofs.YtdoohdbfpnmndaaW.PrintWords
open Go.RowKit
namespace Kd
theorem R_capmax {α : Type} {d : Kd α} {W : World} {e base g n c : Nat} {ok : Nat → Prop} {xs : List α} (HO : d.R e W base ok (.slice (some ⟨g, 0, none⟩) n c) xs) : c ≤ 9223372036854775807 := by
  obtain ⟨hok, inner, hown, hr⟩ := HO
  rcases hown.2 with ⟨hv, _⟩ | ⟨g', cap', cur, hv, hb, hh, hlc, hcm, hcs, htake⟩
  · cases hv
  injection hv with ha _ hc'
  subst hc'
  exact hcm
end Kd
class HasBase (p : Prop) (v : outParam Value) (base : outParam Nat) : Prop where
  out : p → ∀ k, v.ownBlock = some k → base ≤ k
section
variable {α : Type} {d : Kd α} {e base : Nat} {w : World} {ok : Nat → Prop} {v : Value} {xs : List α}
instance : HasBase (d.R e w base ok v xs) v base := ⟨Kd.R_base⟩
instance : HasBase (d.S e w base ok v xs) v base := ⟨Kd.S_base⟩
instance : HasBase (d.N e w base ok v xs) v base := ⟨Kd.N_base⟩
theorem Kd.base_ {p : Prop} {v : Value} {base : Nat} [i : HasBase p v base] (h : p) : ∀ k, v.ownBlock = some k → base ≤ k := i.out h
end
section
variable {P : Program} {ops : Array Oper} {Q : Exit → Act → World → Prop}
theorem gateT_ {o : Oper} {rest : List Oper} {a : Act} {W : World} {u : Tmp} {as : Array Operand} {ts : Array TypeId} (_ho : o.op = .call { callee := .value (.tmp u), args := as, argTypes := ts }) (h : wpList P ops Q (o :: rest) a W) : wpList P ops Q (o :: rest) a W := h
theorem goesT_ {rest : List Oper} {oi : Oper} {a : Act} {w : World} {u : Tmp} (N : Option Tmp) (hd : oi.dst = N) (hg : oi.guard = none) {f : FuncId} {fn : Func} {as : Array Operand} {ts : Array TypeId} (hf : P.funcs[f]? = some fn) (hname : (fn.name == "runtime.NumGoroutine") = false) (hb : fn.body.isSome = true) (args : Array Value)
    (hop : oi.op = .call { callee := .value (.tmp u), args := as, argTypes := ts }) (hev : a.eval (.tmp u) = .func (.func f) #[] #[]) (hargs : as.map a.eval = args)
    (h : Calls P f args w fun e w' => ∃ v, e = .returned v ∧ wpList P ops Q rest (a.put N v) w') : wpList P ops Q (oi :: rest) a w := by
  refine wpList_plain hg fun K hK => ?_
  have he := PrintLast.enters_ hf hname hb args w
  have hrun : (execOp a.eval oi).run P w = .ok (.enter f args) w := by
    unfold execOp
    simp [hop, hev, resolve, Deferred.ofValue, invoke, hargs, he]
  unfold Oper.wp
  rw [hrun, Oper.upon_enter]
  refine h.mono fun e w'' hh => ?_
  obtain ⟨v, rfl, hk⟩ := hh
  subst hd
  exact hK _ _ hk
theorem goesB_ {rest : List Oper} {oi : Oper} {a : Act} {w : World} {u : Tmp} (N : Option Tmp) (hd : oi.dst = N) (hg : oi.guard = none) {f : FuncId} {fn : Func} {ars : Array Operand} {ts : Array TypeId} (hf : P.funcs[f]? = some fn) (hname : (fn.name == "runtime.NumGoroutine") = false) (hb : fn.body.isSome = true) (args lb : Array Value)
    (hop : oi.op = .call { callee := .value (.tmp u), args := ars, argTypes := ts }) (hev : a.eval (.tmp u) = .func (.func f) #[] lb) (hargs : ars.map a.eval = args)
    (h : Calls P f (args ++ lb) w fun e w' => ∃ v, e = .returned v ∧ wpList P ops Q rest (a.put N v) w') : wpList P ops Q (oi :: rest) a w := by
  refine wpList_plain hg fun K hK => ?_
  have he := PrintLast.enters_ hf hname hb (args ++ lb) w
  have hrun : (execOp a.eval oi).run P w = .ok (.enter f (args ++ lb)) w := by
    unfold execOp
    simp [hop, hev, resolve, Deferred.ofValue, invoke, hargs, he]
  unfold Oper.wp
  rw [hrun, Oper.upon_enter]
  refine h.mono fun e w'' hh => ?_
  obtain ⟨v, rfl, hk⟩ := hh
  subst hd
  exact hK _ _ hk
end
end Go.Proofs.YtdoohdbfpnmndaaW.PrintWords
