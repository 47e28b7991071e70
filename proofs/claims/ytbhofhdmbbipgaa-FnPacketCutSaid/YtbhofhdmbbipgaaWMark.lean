/- Rows whose elements have inner rows, written element by element: a store into a field, an inner row handed over; what lies apart by when it was made. No condition: plain lemmas. -/
import Derived.Test.YtbhofhdmbbipgaaWCarry
namespace Go.Proofs.YtbhofhdmbbipgaaW.PrintWords
open Go.RowKit
theorem set_getD_self {α : Type} (xs : List α) (i : Nat) (z : α) : xs.set i (xs.getD i z) = xs := by
  apply List.ext_getElem?
  intro j
  rw [List.getElem?_set]
  split
  · rename_i h; subst h
    split
    · rename_i h2; rw [List.getD_eq_getElem?_getD, List.getElem?_eq_getElem h2]; rfl
    · rename_i h2; exact (List.getElem?_eq_none (by omega)).symm
  · rfl
theorem getD_set_self {α : Type} (xs : List α) (i : Nat) (y z : α) (h : i < xs.length) : (xs.set i y).getD i z = y := by
  rw [List.getD_eq_getElem?_getD, List.getElem?_set_self h]; rfl
namespace Kd
section
variable {α : Type} {d : Kd α} {e base g n cap : Nat} {W : World} {ok : Nat → Prop} {xs : List α} {i : Int} {y : α}
theorem S_setlen (h : S d e W base ok (.slice (some ⟨g, 0, none⟩) n cap) (xs.set i.toNat y)) (h0 : 0 ≤ i) (h1 : i < n) : i.toNat < xs.length := by
  have h2 := (S_reads' h).1
  rw [List.length_set] at h2
  omega
theorem S_put1 (h : S d e W base ok (.slice (some ⟨g, 0, none⟩) n cap) (xs.set i.toNat y)) (h0 : 0 ≤ i) (h1 : i < n) (j : Nat) (u : Value) (hj : j + 1 ≤ d.sz) (y' : α)
    (hM : ∀ {W : World} {okp : Nat → Prop} {c : List Value}, d.M W base okp y c → d.M W base okp y' (c.take j ++ [u] ++ c.drop (j + 1))) :
    S d e (W.setCell ⟨g, i.toNat * d.sz + j, none⟩ u) base ok (.slice (some ⟨g, 0, none⟩) n cap) (xs.set i.toNat y') ∧ W.grownBy (W.setCell ⟨g, i.toNat * d.sz + j, none⟩ u) (some g) := by
  have hl := S_setlen h h0 h1
  obtain ⟨oki, c, hcl, hM0, hcc, hfr, hoki, hH⟩ := S_elem (S_mono h (ok' := fun k => ok k ∧ ¬ (fun _ => False) k) (fun k hk => ⟨hk, fun f => f⟩)) y i h0 h1
  rw [getD_set_self _ _ _ _ hl] at hM0
  have hS := S_seg (okg := fun _ => False) hH h0 h1 (seg := [u]) (j := j) hj (x' := y') (hM hM0) (fun k hk => Or.inl hk) (fun _ hk => hk.elim)
  rw [List.set_set] at hS
  exact hS
theorem S_cells (h : S d e W base ok (.slice (some ⟨g, 0, none⟩) n cap) (xs.set i.toNat y)) (h0 : 0 ≤ i) (h1 : i < n) :
    ∃ (okp : Nat → Prop) (c : List Value), d.M W base okp y c ∧ (∀ j u, c[j]? = some u → W.cell? ⟨g, i.toNat * d.sz + j, none⟩ = some u) ∧ (∀ j, W.frozen? ⟨g, i.toNat * d.sz + j, none⟩ = false) ∧ (∀ k, okp k → ok k ∧ k ≠ g) ∧
      ∀ {w1 : World} {S0 : Nat → Prop} {y' : α}, Kept W w1 S0 → (∀ k, S0 k → okp k) → d.M w1 base okp y' c → S d e w1 base ok (.slice (some ⟨g, 0, none⟩) n cap) (xs.set i.toNat y') := by
  have hl := S_setlen h h0 h1
  obtain ⟨oki, c, hcl, hM0, hcc, hfr, hoki, hH⟩ := S_elem h y i h0 h1
  rw [getD_set_self _ _ _ _ hl] at hM0
  refine ⟨oki, c, hM0, hcc, hfr, hoki, fun hk hs hM1 => ?_⟩
  have hS := H_back (H_step hH (fun k hk1 hn hlt => hk.2 k hlt (fun h2 => hn (hs k h2)))) hM1 (fun k hk1 => hk1)
  rw [List.set_set] at hS
  exact hS
theorem S_start (h : S d e W base ok (.slice (some ⟨g, 0, none⟩) n cap) xs) (z : α) (i : Int) : S d e W base ok (.slice (some ⟨g, 0, none⟩) n cap) (xs.set i.toNat (xs.getD i.toNat z)) := by rw [set_getD_self]; exact h
end
end Kd
section
variable {α : Type} {d : Kd α} {e base lo hi : Nat} {W W0 w2 : World} {ok : Nat → Prop} {v : Value} {xs : List α} {S0 : Nat → Prop} {a : Nat}
end
end Go.Proofs.YtbhofhdmbbipgaaW.PrintWords
