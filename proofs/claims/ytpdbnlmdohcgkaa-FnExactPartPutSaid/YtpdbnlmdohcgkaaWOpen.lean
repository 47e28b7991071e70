/- What came in and can be read is of some kind: its cells say some value, whose numbers are in range. No condition: plain lemmas. -/
import Derived.Test.YtpdbnlmdohcgkaaWWords
import Derived.Deep.Slices
import Derived.ChangeArms
import Derived.DataReads
namespace Go.Proofs.YtpdbnlmdohcgkaaW.PrintWords
open Go.RowKit Go.ChangeShapes Go.WideShapes Go.Deep
def Opens {α : Type} (P : Program) (t : TypeId) (d : Kd α) (wf : α → Prop) : Prop :=
  ∀ (H : Type) (enc : TypeId × Value → H) (w : World) (base : Nat) (spare : Nat → Bool) (held : Bool) (fuel : Nat) (cs : List Value) (x : DataW H × List MemPlace),
    DataW.trod enc P w base spare held fuel t cs = some x → ∃ a, d.K w a cs ∧ wf a
section
variable {P : Program} {t : TypeId}
theorem Opens.int {k : IntKind} (ht : P.underlying t = some (.int k)) : Opens P t (Kd.int k) (fun n => (Lit.int k n).wf = true) := by
  intro H enc w base spare held fuel cs x h
  obtain ⟨n, rfl, _, hw⟩ := DataW.trod_int ht h
  exact ⟨n, rfl, hw⟩
theorem Opens.bool (ht : P.underlying t = some .bool) : Opens P t Kd.bool (fun _ => True) := by
  intro H enc w base spare held fuel cs x h
  obtain ⟨b, rfl, _⟩ := DataW.trod_bool ht h
  exact ⟨b, rfl, trivial⟩
theorem rows_of {α : Type} {d : Kd α} {wf : α → Prop} {w : World} {ad : Addr} (size : Nat) (len : Nat)
    (h : ∀ i, i < len → ∃ (a : α) (c : List Value), c.length = size ∧ d.K w a c ∧ wf a ∧ ∀ j u, c[j]? = some u → w.cell? (ad.add (i * size + j)) = some u) :
    ∃ l : List α, l.length = len ∧ (∀ y ∈ l, wf y) ∧ ∀ j p, l[j]? = some p → ∃ c, c.length = size ∧ d.K w p c ∧ ∀ i u, c[i]? = some u → w.cell? (ad.add (j * size + i)) = some u := by
  induction len with
  | zero => exact ⟨[], rfl, by simp, by simp⟩
  | succ n ih =>
    obtain ⟨l, hl, hw, hr⟩ := ih (fun i hi => h i (by omega))
    obtain ⟨a, c, hc, hk, hwa, hcell⟩ := h n (by omega)
    refine ⟨l ++ [a], by simp [hl], ?_, ?_⟩
    · intro y hy
      rcases List.mem_append.1 hy with hy | hy
      · exact hw y hy
      · rw [List.mem_singleton.1 hy]; exact hwa
    · intro j p hj
      by_cases hjn : j < n
      · rw [List.getElem?_append_left (by omega)] at hj
        exact hr j p hj
      · have hj2 : j = n := by
          have := (List.getElem?_eq_some_iff.1 hj).1
          simp [hl] at this; omega
        subst hj2
        rw [List.getElem?_append_right (by omega)] at hj
        simp [hl] at hj
        subst hj
        exact ⟨c, hc, hk, hcell⟩
theorem add_add_ (a : Addr) (i j : Nat) : (a.add i).add j = a.add (i + j) := by
  unfold Addr.add
  by_cases hi : i = 0 <;> by_cases hj : j = 0 <;> simp [hi, hj, Nat.add_assoc]
theorem Opens.slice {α : Type} {d : Kd α} {wf : α → Prop} {e : TypeId} (ht : P.underlying t = some (.slice e)) (he : Opens P e d wf) (hc : P.cellsOf e = d.sz) :
    Opens P t (Kd.slice e d) (fun l => l.length ≤ maxLen ∧ ∀ y ∈ l, wf y) := by
  intro H enc w base spare held fuel cs x h
  rcases open_slice ht h with ⟨rfl, _⟩ | ⟨a, len, cap, m, n, D, Pl, rfl, hb, hl, hm, hmm, _, hi⟩
  · exact ⟨[], ⟨none, 0, rfl, Nat.le_refl _, rfl, by simp, fun h0 => absurd h0 (by simp)⟩, by simp [maxLen], by simp⟩
  · have hlm : len ≤ m := by rw [hmm]; split <;> omega
    obtain ⟨l, hll, hw, hr⟩ := rows_of (d := d) (wf := wf) (w := w) (ad := a) d.sz len (fun i hi2 => by
      obtain ⟨cs', hcs, htr⟩ := hi i (by omega)
      obtain ⟨y, hK, hy⟩ := he _ _ _ _ _ _ _ _ _ htr
      obtain ⟨_, hlen, hat⟩ := World.cells?_some hcs
      refine ⟨y, cs', d.K_len hK, hK, hy, fun j u hj => ?_⟩
      have hjl := (List.getElem?_eq_some_iff.1 hj).1
      have := hat j (by omega)
      rw [hc, add_add_] at this
      rw [this, hj])
    subst hll
    simp only [maxLen] at hm
    exact ⟨l, ⟨some a, cap, rfl, hl, rfl, by omega, fun _ => ⟨a, rfl, hr⟩⟩, by simp only [maxLen]; omega, hw⟩
theorem Opens.field {α : Type} {d : Kd α} {wf : α → Prop} (he : Opens P t d wf) {H : Type} {enc : TypeId × Value → H} {w : World} {base : Nat} {spare : Nat → Bool} {held : Bool} {fuel o s n i : Nat} {cs : List Value} {xs : List (DataW H × List MemPlace)}
    (h : DataW.trod enc P w base spare held fuel t ((cs.drop o).take n) = xs[i]?) (hn : n = s) (hi : i < xs.length) : ∃ a, d.K w a ((cs.drop o).take s) ∧ wf a := by
  subst hn
  rw [List.getElem?_eq_getElem hi] at h
  exact he _ _ _ _ _ _ _ _ _ h
theorem cut_at (cs : List Value) (o s p : Nat) (h : o + s = p) : cs.drop o = (cs.drop o).take s ++ cs.drop p := by
  subst h
  rw [← List.drop_drop, List.take_append_drop]
theorem cut_last (cs : List Value) (o s n : Nat) (h : cs.length = n) (hn : n = o + s) : (cs.drop o).take s = cs.drop o := by
  apply List.take_of_length_le
  rw [List.length_drop]; omega
end
end Go.Proofs.YtpdbnlmdohcgkaaW.PrintWords
