/- Rows whose elements have inner rows, written element by element: a store into a field, an inner row handed over; what lies apart by when it was made. No condition: plain lemmas. -/
import Derived.Test.YtpdbnlmdohcgkaaWCarry
namespace Go.Proofs.YtpdbnlmdohcgkaaW.PrintWords
open Go.RowKit
theorem set_getD_self {α : Type} (xs : List α) (i : Nat) (z : α) : xs.set i (xs.getD i z) = xs := by
  apply List.ext_getElem?
  intro j
  rw [List.getElem?_set]
  split
  · rename_i h; subst h
    split
    · rename_i h2; rw [List.getD_eq_getElem?_getD, List.getElem?_eq_getElem h2]; rfl
    · rename_i h2; exact (List.getElem?_eq_none (by omega)).symm
  · rfl
theorem getD_set_self {α : Type} (xs : List α) (i : Nat) (y z : α) (h : i < xs.length) : (xs.set i y).getD i z = y := by
  rw [List.getD_eq_getElem?_getD, List.getElem?_set_self h]; rfl
namespace Kd
section
variable {α : Type} {d : Kd α} {e base g n cap : Nat} {W : World} {ok : Nat → Prop} {xs : List α} {i : Int} {y : α}
theorem S_setlen (h : S d e W base ok (.slice (some ⟨g, 0, none⟩) n cap) (xs.set i.toNat y)) (h0 : 0 ≤ i) (h1 : i < n) : i.toNat < xs.length := by
  have h2 := (S_reads' h).1
  rw [List.length_set] at h2
  omega
theorem S_put1 (h : S d e W base ok (.slice (some ⟨g, 0, none⟩) n cap) (xs.set i.toNat y)) (h0 : 0 ≤ i) (h1 : i < n) (j : Nat) (u : Value) (hj : j + 1 ≤ d.sz) (y' : α)
    (hM : ∀ {W : World} {okp : Nat → Prop} {c : List Value}, d.M W base okp y c → d.M W base okp y' (c.take j ++ [u] ++ c.drop (j + 1))) :
    S d e (W.setCell ⟨g, i.toNat * d.sz + j, none⟩ u) base ok (.slice (some ⟨g, 0, none⟩) n cap) (xs.set i.toNat y') ∧ W.grownBy (W.setCell ⟨g, i.toNat * d.sz + j, none⟩ u) (some g) := by
  have hl := S_setlen h h0 h1
  obtain ⟨oki, c, hcl, hM0, hcc, hfr, hoki, hH⟩ := S_elem (S_mono h (ok' := fun k => ok k ∧ ¬ (fun _ => False) k) (fun k hk => ⟨hk, fun f => f⟩)) y i h0 h1
  rw [getD_set_self _ _ _ _ hl] at hM0
  have hS := S_seg (okg := fun _ => False) hH h0 h1 (seg := [u]) (j := j) hj (x' := y') (hM hM0) (fun k hk => Or.inl hk) (fun _ hk => hk.elim)
  rw [List.set_set] at hS
  exact hS
theorem S_cells (h : S d e W base ok (.slice (some ⟨g, 0, none⟩) n cap) (xs.set i.toNat y)) (h0 : 0 ≤ i) (h1 : i < n) :
    ∃ (okp : Nat → Prop) (c : List Value), d.M W base okp y c ∧ (∀ j u, c[j]? = some u → W.cell? ⟨g, i.toNat * d.sz + j, none⟩ = some u) ∧ (∀ j, W.frozen? ⟨g, i.toNat * d.sz + j, none⟩ = false) ∧ (∀ k, okp k → ok k ∧ k ≠ g) ∧
      ∀ {w1 : World} {S0 : Nat → Prop} {y' : α}, Kept W w1 S0 → (∀ k, S0 k → okp k) → d.M w1 base okp y' c → S d e w1 base ok (.slice (some ⟨g, 0, none⟩) n cap) (xs.set i.toNat y') := by
  have hl := S_setlen h h0 h1
  obtain ⟨oki, c, hcl, hM0, hcc, hfr, hoki, hH⟩ := S_elem h y i h0 h1
  rw [getD_set_self _ _ _ _ hl] at hM0
  refine ⟨oki, c, hM0, hcc, hfr, hoki, fun hk hs hM1 => ?_⟩
  have hS := H_back (H_step hH (fun k hk1 hn hlt => hk.2 k hlt (fun h2 => hn (hs k h2)))) hM1 (fun k hk1 => hk1)
  rw [List.set_set] at hS
  exact hS
theorem S_start (h : S d e W base ok (.slice (some ⟨g, 0, none⟩) n cap) xs) (z : α) (i : Int) : S d e W base ok (.slice (some ⟨g, 0, none⟩) n cap) (xs.set i.toNat (xs.getD i.toNat z)) := by rw [set_getD_self]; exact h
end
end Kd
theorem blk_keptT {W W1 : World} {g t : Nat} {cs : Array Value} {P : Nat → Prop} {b' : Nat} {L : List Nat} (hb : W.heap[g]? = some (.cells cs t (0, 0))) (hk : Kept W W1 (fun k => P k ∧ b' ≤ k ∧ k < W.heap.size ∧ ∃ q, q ∈ L ∧ ∃ cells, W.heap[k]? = some (.cells cells q (0, 0)))) (ht : t ∉ L) : W1.heap[g]? = some (.cells cs t (0, 0)) :=
  blk_kept hb hk (fun h2 => by
    obtain ⟨_, _, _, q', hq', cs', hc'⟩ := h2
    rw [hb] at hc'
    injection hc' with hc'
    injection hc' with _ hc'
    subst hc'
    exact ht hq')
section
variable {α : Type} {d : Kd α} {e base lo hi : Nat} {W W0 w2 : World} {ok : Nat → Prop} {v : Value} {xs : List α} {S0 : Nat → Prop} {a : Nat}
theorem gr_open (hb : Below W.heap.size W w2) : ∃ lo hi, Aside0 (lo = W.heap.size) ∧ Aside0 (hi = w2.heap.size) := ⟨_, _, ⟨rfl⟩, ⟨rfl⟩⟩
theorem gr_R (elo : Aside0 (lo = W.heap.size)) (ehi : Aside0 (hi = w2.heap.size)) (h : d.R e w2 W.heap.size ok v xs) : d.R e w2 W.heap.size (fun k => ok k ∧ lo ≤ k ∧ k < hi) v xs := Kd.R_mono (Kd.R_bound h) (fun k hk => ⟨hk.1, elo.out ▸ hk.2.1, ehi.out ▸ hk.2.2.1⟩)
theorem gr_S (elo : Aside0 (lo = W.heap.size)) (ehi : Aside0 (hi = w2.heap.size)) (h : Kd.S d e w2 W.heap.size ok v xs) : Kd.S d e w2 W.heap.size (fun k => ok k ∧ lo ≤ k ∧ k < hi) v xs := Kd.S_mono (Kd.S_bound h) (fun k hk => ⟨hk.1, elo.out ▸ hk.2.1, ehi.out ▸ hk.2.2.1⟩)
theorem sz_open (W : World) : ∃ n, Aside0 (n = W.heap.size) := ⟨_, ⟨rfl⟩⟩
theorem gl_R (h : d.R e w2 W.heap.size ok v xs) (hz : lo ≤ W.heap.size) : d.R e w2 W.heap.size (fun k => ok k ∧ lo ≤ k) v xs := Kd.R_mono (Kd.R_bound h) (fun k hk => ⟨hk.1, Nat.le_trans hz hk.2.1⟩)
theorem gl_S (h : Kd.S d e w2 W.heap.size ok v xs) (hz : lo ≤ W.heap.size) : Kd.S d e w2 W.heap.size (fun k => ok k ∧ lo ≤ k) v xs := Kd.S_mono (Kd.S_bound h) (fun k hk => ⟨hk.1, Nat.le_trans hz hk.2.1⟩)
theorem gu_R (h : d.R e W base (fun k => ok k ∧ lo ≤ k) v xs) : d.R e W base (fun k => ok k ∧ lo ≤ k ∧ k < W.heap.size) v xs := Kd.R_mono (Kd.R_bound h) (fun k hk => ⟨hk.1.1, hk.1.2, hk.2.2.1⟩)
theorem gu_S (h : Kd.S d e W base (fun k => ok k ∧ lo ≤ k) v xs) : Kd.S d e W base (fun k => ok k ∧ lo ≤ k ∧ k < W.heap.size) v xs := Kd.S_mono (Kd.S_bound h) (fun k hk => ⟨hk.1.1, hk.1.2, hk.2.2.1⟩)
theorem gj_R (ehi : Aside0 (hi = W.heap.size)) (h : d.R e W base (fun k => ok k ∧ lo ≤ k ∧ k < W.heap.size) v xs) : d.R e W base (fun k => ok k ∧ lo ≤ k ∧ k < hi) v xs := Kd.R_mono h (fun k hk => ⟨hk.1, hk.2.1, ehi.out ▸ hk.2.2⟩)
theorem gj_S (ehi : Aside0 (hi = W.heap.size)) (h : Kd.S d e W base (fun k => ok k ∧ lo ≤ k ∧ k < W.heap.size) v xs) : Kd.S d e W base (fun k => ok k ∧ lo ≤ k ∧ k < hi) v xs := Kd.S_mono h (fun k hk => ⟨hk.1, hk.2.1, ehi.out ▸ hk.2.2⟩)
theorem zj_ (ehi : Aside0 (hi = W.heap.size)) (HZ : Aside0 (a ≤ W.heap.size)) : a ≤ hi := ehi.out ▸ HZ.out
theorem zu_ {g : Nat} {o : Obj} (ehi : Aside0 (hi = W.heap.size)) (h : W.heap[g]? = some o) : g < hi := ehi.out ▸ blk_lt h
theorem gk_R (hk : Kept W w2 S0) (h : d.R e W base ok v xs) (hd : ∀ k, ok k → ¬ S0 k) : d.R e w2 base ok v xs := Kd.R_step h (fun k h1 hlt => hk.2 k hlt (hd k h1))
theorem gk_S (hk : Kept W w2 S0) (h : Kd.S d e W base ok v xs) (hd : ∀ k, ok k → ¬ S0 k) : Kd.S d e w2 base ok v xs := Kd.S_step h (fun k h1 hlt => hk.2 k hlt (hd k h1))
theorem gkR_ (HO : Aside0 (d.R e W0 base ok v xs)) (hk : Kept W w2 S0) (hd : ∀ k, ok k → ¬ S0 k) (t : d.R e W0 base ok v xs → d.R e W base ok v xs := by intro q_; (with_reducible repeat (first | apply Kd.R_alloc | apply Kd.R_drewN | apply Kd.R_drew)); exact q_) : d.R e w2 base ok v xs := gk_R hk (t HO.out) hd
theorem gkS_ (HO : Aside0 (Kd.S d e W0 base ok v xs)) (hk : Kept W w2 S0) (hd : ∀ k, ok k → ¬ S0 k) (t : Kd.S d e W0 base ok v xs → Kd.S d e W base ok v xs := by intro q_; (with_reducible repeat (first | apply Kd.S_alloc | apply Kd.S_drewN | apply Kd.S_drew)); exact q_) : Kd.S d e w2 base ok v xs := gk_S hk (t HO.out) hd
theorem gk_mono (h : Kept W w2 S0) (hs : ∀ k, S0 k → lo ≤ k ∧ k < hi) : Kept W w2 (fun k => lo ≤ k ∧ k < hi) := Kept.mono h hs
theorem z_alloc (o : Obj) (h : a ≤ W.heap.size) : a ≤ (W.alloc o).heap.size := Nat.le_trans h (below_alloc (Below.refl _ W) o).size
theorem z_drewN (m : Nat) (h : a ≤ W.heap.size) : a ≤ (W.drewN m).heap.size := Nat.le_trans h (pw_below_drewN (Below.refl W.heap.size W) m).size
theorem z_drew (h : a ≤ W.heap.size) : a ≤ W.drew.heap.size := Nat.le_trans h (below_drew (Below.refl W.heap.size W)).size
theorem z_set {p : Addr} {u : Value} (h : a ≤ W.heap.size) : a ≤ (W.setCell p u).heap.size := by simpa [World.setCell] using h
theorem zs_ (HZ : Aside0 (a ≤ W0.heap.size)) (hb : Below W.heap.size W w2) (t : a ≤ W0.heap.size → a ≤ W.heap.size := by intro q_; repeat (first | (with_reducible first | exact q_ | refine z_alloc _ ?_ | refine z_drewN _ ?_ | refine z_drew ?_ | refine z_set ?_) | exact q_)) : a ≤ w2.heap.size := Nat.le_trans (t HZ.out) hb.size
theorem hz_ (HZ : Aside0 (a ≤ W0.heap.size)) (t : a ≤ W0.heap.size → a ≤ W.heap.size := by intro q_; repeat (first | (with_reducible first | exact q_ | refine z_alloc _ ?_ | refine z_drewN _ ?_ | refine z_drew ?_ | refine z_set ?_) | exact q_)) : a ≤ W.heap.size := t HZ.out
theorem zl_ (HZ : Aside0 (a ≤ W0.heap.size)) (elo : Aside0 (lo = W.heap.size)) (t : a ≤ W0.heap.size → a ≤ W.heap.size := by intro q_; repeat (first | (with_reducible first | exact q_ | refine z_alloc _ ?_ | refine z_drewN _ ?_ | refine z_drew ?_ | refine z_set ?_) | exact q_)) : a ≤ lo := elo.out ▸ t HZ.out
theorem zk_ (HZ : Aside0 (a ≤ W0.heap.size)) (hk : Kept W w2 S0) (t : a ≤ W0.heap.size → a ≤ W.heap.size := by intro q_; repeat (first | (with_reducible first | exact q_ | refine z_alloc _ ?_ | refine z_drewN _ ?_ | refine z_drew ?_ | refine z_set ?_) | exact q_)) : a ≤ w2.heap.size := Nat.le_trans (t HZ.out) hk.1
theorem zle_ (elo : Aside0 (lo = W.heap.size)) (ehi : Aside0 (hi = w2.heap.size)) (hb : Below W.heap.size W w2) : lo ≤ hi := elo.out ▸ ehi.out ▸ hb.size
theorem zd_ (HZ : Aside0 (a ≤ W.heap.size)) : a ≤ W.drew.heap.size := z_drew HZ.out
end
theorem rng_ne {a b c d k : Nat} (h : a ≤ k ∧ k < b) (hd : b ≤ c ∨ d ≤ a) : ¬ (c ≤ k ∧ k < d) := by omega
theorem rng_box {a b g k : Nat} (h : a ≤ k ∧ k < b) (hd : b ≤ g ∨ g + 1 ≤ a) : k ≠ g := by omega
end Go.Proofs.YtpdbnlmdohcgkaaW.PrintWords
