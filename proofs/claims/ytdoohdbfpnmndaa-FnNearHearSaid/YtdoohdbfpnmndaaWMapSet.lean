/- A set of whole numbers that the call itself keeps in a map to bool: what is in it. No condition: plain lemmas. -/
import Derived.Test.YtdoohdbfpnmndaaWCarry
import Derived.Maps.OwnSet
namespace Go.Proofs.YtdoohdbfpnmndaaW.PrintWords
open Go.RowKit Go.Maps
def MSet (P : Program) (k e : TypeId) (w : World) (b : Nat) (s : List Int) : Prop :=
  ∃ n D, w.ownsMap (H := Unit) P k (plainElem P e) b n D ∧ n ≤ s.length ∧ IsMap D ∧ ∀ x, D.atKey (.int .i64 x) (.lit (.bool false)) = .lit (.bool (s.contains x))
section
variable {P : Program} {k e t : TypeId} {w w1 : World} {b : Nat} {s : List Int}
theorem MSet.drewN (h : MSet P k e w b s) (n : Nat) : MSet P k e (w.drewN n) b s := h
theorem MSet.drew (h : MSet P k e w b s) : MSet P k e w.drew b s := h
theorem MSet.alloc (h : MSet P k e w b s) (o : Obj) : MSet P k e (w.alloc o) b s := by
  obtain ⟨n, D, h1, h2⟩ := h
  exact ⟨n, D, h1.alloc o, h2⟩
theorem MSet.map (h : MSet P k e w b s) : ∃ es c, w.heap[b]? = some (.map es c) := by
  obtain ⟨n, D, ⟨es, c, hb, _⟩, _⟩ := h
  exact ⟨es, c, hb⟩
theorem MSet.ne_blk (h : MSet P k e w b s) {g : Nat} {cs : Array Value} {ty : TypeId} {fr : Nat × Nat} (hb : w.heap[g]? = some (.cells cs ty fr)) : some g ≠ some b := by
  obtain ⟨es, c, h1⟩ := h.map
  intro e_
  injection e_ with e_
  subst e_
  rw [hb] at h1
  injection h1 with h1
  cases h1
end
end Go.Proofs.YtdoohdbfpnmndaaW.PrintWords
