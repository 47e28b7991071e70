/- A set of whole numbers that the call itself keeps in a map to bool: what is in it. No condition: plain lemmas. -/
import Derived.Test.YtegchbdjbefdbaaWCarry
import Derived.Maps.OwnSet
namespace Go.Proofs.YtegchbdjbefdbaaW.PrintWords
open Go.RowKit Go.Maps
def MSet (P : Program) (k e : TypeId) (w : World) (b : Nat) (s : List Int) : Prop :=
  ∃ n D, w.ownsMap (H := Unit) P k (plainElem P e) b n D ∧ n ≤ s.length ∧ IsMap D ∧ ∀ x, D.atKey (.int .i64 x) (.lit (.bool false)) = .lit (.bool (s.contains x))
section
variable {P : Program} {k e t : TypeId} {w w1 : World} {b : Nat} {s : List Int}
theorem MSet.made (w : World) (P : Program) (k e : TypeId) : MSet P k e (w.alloc (.map #[] 0)) w.heap.size [] :=
  ⟨0, .map [], World.ownsMap_made w P k _, Nat.le_refl _, isMap_empty, fun _ => rfl⟩
theorem MSet.drewN (h : MSet P k e w b s) (n : Nat) : MSet P k e (w.drewN n) b s := h
theorem MSet.drew (h : MSet P k e w b s) : MSet P k e w.drew b s := h
theorem MSet.alloc (h : MSet P k e w b s) (o : Obj) : MSet P k e (w.alloc o) b s := by
  obtain ⟨n, D, h1, h2⟩ := h
  exact ⟨n, D, h1.alloc o, h2⟩
theorem MSet.map (h : MSet P k e w b s) : ∃ es c, w.heap[b]? = some (.map es c) := by
  obtain ⟨n, D, ⟨es, c, hb, _⟩, _⟩ := h
  exact ⟨es, c, hb⟩
theorem MSet.ne_blk (h : MSet P k e w b s) {g : Nat} {cs : Array Value} {ty : TypeId} {fr : Nat × Nat} (hb : w.heap[g]? = some (.cells cs ty fr)) : some g ≠ some b := by
  obtain ⟨es, c, h1⟩ := h.map
  intro e_
  injection e_ with e_
  subst e_
  rw [hb] at h1
  injection h1 with h1
  cases h1
theorem MSet.ne_row {α : Type} {d : Kd α} {ty : Nat} {base : Nat} {ok : Nat → Prop} {v : Value} {xs : List α} (h : MSet P k e w b s) (hr : d.R ty w base ok v xs) : some b ≠ v.ownBlock := by
  obtain ⟨inner, ho⟩ := Kd.R_own hr
  obtain ⟨_, ⟨rfl, _⟩ | ⟨g, cap, cur, rfl, _, hg, _⟩⟩ := ho
  · simp [Value.ownBlock]
  · intro e_
    have := h.ne_blk hg
    simp [Value.ownBlock] at e_
    exact this (by rw [e_])
theorem MSet.look (h : MSet P k e w b s) (hk : P.underlying k = some (.int .i64)) (he : P.underlying e = some .bool) (ht : P.underlying t = some (.map k e)) (hz : (zeroValue e).run P w = .ok (.bool false) w) {x : Int} (hx : (Lit.int .i64 x).wf = true) :
    (Instr.lookup t (.map (some b)) (.int .i64 x) false).run P w = .ok (.bool (s.contains x)) w := by
  obtain ⟨n, D, h1, _, _, h4⟩ := h
  obtain ⟨v, ps, hrun, hv⟩ := h1.lookup (int_keyed hk) ht hz (plainElem_bool he false) (keyOf_int_mk hk hx)
  rw [h4 x] at hv
  rw [hrun]
  unfold plainElem at hv
  rw [he] at hv
  cases v <;> simp at hv
  rw [hv.1]; simp
end
theorem wpList_mapUpdate_set {P : Program} (w : World) {ops : Array Oper} {rest : List Oper} {o : Oper} {a : Act} {Q : Exit → Act → World → Prop}
    (hg : o.guard = none) (m x : Operand) (t k e : TypeId) (hop : o.op = Op.mapUpdate t m x (.const (.bool true))) (hk : P.underlying k = some (.int .i64)) (he : P.underlying e = some .bool) (ht : P.underlying t = some (.map k e)) (b : Nat) (s : List Int)
    (hm : a.eval m = .map (some b)) (h : MSet P k e w b s) (hn : s.length < maxLen) (y : Int) (hx : a.eval x = .int .i64 y) (hy : (Lit.int .i64 y).wf = true)
    (hK : ∀ w', MSet P k e w' b (y :: s) → w.grownBy w' (some b) → wpList P ops Q rest (a.put o.dst undef) w') :
    wpList P ops Q (o :: rest) a w := by
  obtain ⟨n, D, h1, h2, h3, h4⟩ := h
  refine wpList_mapUpdate_own w hg m x _ t hop k e (int_keyed hk) ht (plainElem P e) b n D hm h1 (Nat.lt_of_le_of_lt h2 hn) (.int .i64 y) (.bool true) (.int .i64 y) hx rfl (keyOf_int_mk hk hy) (.lit (.bool true)) [] (plainElem_bool he true) (fun w' hw hgr => hK w' ⟨n + 1, _, hw, by simp; omega, hw.isMap, fun z => ?_⟩ hgr)
  by_cases hz : z = y
  · subst hz
    rw [atKey_put_same h3 (by trivial)]
    simp
  · rw [atKey_put_other (fun e_ => hz (by injection e_)), h4 z]
    simp [hz]
end Go.Proofs.YtegchbdjbefdbaaW.PrintWords
