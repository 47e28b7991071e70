/- A row of the call's own, and a cell of it that lies behind its length. Calls of a function that stands in a variable. No condition: plain lemmas. -/
import Derived.Test.YtegchbdjbefdbaaWCarry
import Derived.Lib.SliceRun
import Derived.Deep.RegionLaw
namespace Go.Proofs.YtegchbdjbefdbaaW.PrintWords
open Go.RowKit
namespace Kd
theorem R_past {α : Type} (d : Kd α) (hs : d.sz = 1) {W : World} {e base g n c q : Nat} {ok : Nat → Prop} {xs : List α} (v : Value) (HO : d.R e W base ok (.slice (some ⟨g, 0, none⟩) n c) xs) (hq : n ≤ q) (hc : q < c) :
    d.R e (W.setCells g q [v]) base ok (.slice (some ⟨g, 0, none⟩) n c) xs ∧ W.grownBy (W.setCells g q [v]) (some g) ∧ (W.cell? ⟨g, q, none⟩).isSome = true ∧ W.frozen? ⟨g, q, none⟩ = false := by
  obtain ⟨hn, hnc, _⟩ := R_reads' HO
  obtain ⟨hok, inner, hown, hr⟩ := HO
  have hin : inner.length = n * d.sz := by rw [hr.1, hn]
  rcases hown.2 with ⟨hv, _⟩ | ⟨g', cap', cur, hv, hb, hh, hlc, hcm, hcs, htake⟩
  · cases hv
  injection hv with ha _ hc'
  injection ha with ha
  injection ha with hg
  subst hg; subst hc'
  rw [← hn] at htake
  rw [hs] at hcs hin htake
  have hqs : q < cur.size := by omega
  obtain ⟨cur', h3, h4, h5⟩ := setCells_row [v] q W cur hh (by simp; omega)
  obtain ⟨s1, s2, s3, s4⟩ := setCells_same g [v] q W
  have hfar : ∀ k', k' ≠ g → (W.setCells g q [v]).heap[k']? = W.heap[k']? := fun k' hk' => setCells_far [v] _ k' hk'
  refine ⟨⟨hok, inner, ⟨hown.1, .inr ⟨g, c, cur', by rw [hn], hb, h3, hlc, hcm, by rw [h4, hs]; exact hcs, ?_⟩⟩, hr.imp_ (fun p z hp => ?_)⟩, ⟨s1, s2, s3, by rw [s4]; exact Nat.le_refl _, fun k' _ hk' => hfar k' (fun he => hk' (by rw [he]))⟩, ?_, blk_frozen hh _⟩
  · rw [← hn, h5, hs]
    rw [List.append_assoc, List.take_append_of_le_length (by rw [List.length_take, Array.length_toList]; omega), List.take_take, Nat.min_eq_left (by omega)]
    exact htake
  · exact d.M_move (fun k' hk' => hfar k' (fun he => hk'.2 (by rw [he]; simp [Value.ownBlock]))) hp
  · rw [cell_of_row W g _ cur e (0, 0) hh, Array.getElem?_eq_getElem hqs]; rfl
theorem R_capmax {α : Type} {d : Kd α} {W : World} {e base g n c : Nat} {ok : Nat → Prop} {xs : List α} (HO : d.R e W base ok (.slice (some ⟨g, 0, none⟩) n c) xs) : c ≤ 9223372036854775807 := by
  obtain ⟨hok, inner, hown, hr⟩ := HO
  rcases hown.2 with ⟨hv, _⟩ | ⟨g', cap', cur, hv, hb, hh, hlc, hcm, hcs, htake⟩
  · cases hv
  injection hv with ha _ hc'
  subst hc'
  exact hcm
end Kd
class HasBase (p : Prop) (v : outParam Value) (base : outParam Nat) : Prop where
  out : p → ∀ k, v.ownBlock = some k → base ≤ k
section
variable {α : Type} {d : Kd α} {e base : Nat} {w : World} {ok : Nat → Prop} {v : Value} {xs : List α}
instance : HasBase (d.R e w base ok v xs) v base := ⟨Kd.R_base⟩
instance : HasBase (d.S e w base ok v xs) v base := ⟨Kd.S_base⟩
instance : HasBase (d.N e w base ok v xs) v base := ⟨Kd.N_base⟩
theorem Kd.base_ {p : Prop} {v : Value} {base : Nat} [i : HasBase p v base] (h : p) : ∀ k, v.ownBlock = some k → base ≤ k := i.out h
end
section
variable {P : Program} {ops : Array Oper} {Q : Exit → Act → World → Prop}
end
end Go.Proofs.YtegchbdjbefdbaaW.PrintWords
