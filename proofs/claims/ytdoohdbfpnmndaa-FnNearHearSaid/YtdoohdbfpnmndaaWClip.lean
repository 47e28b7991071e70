/- A row of the call's own stays one when its capacity is cut down. No condition: plain lemmas. -/
import Derived.Test.YtdoohdbfpnmndaaWWords
import Derived.Test.YtdoohdbfpnmndaaWApart
import Derived.Test.YtdoohdbfpnmndaaWN
import Derived.Test.YtdoohdbfpnmndaaWMore
import Derived.Test.YtdoohdbfpnmndaaWTab
import Derived.KernelRfl
import Derived.Tactics
namespace Go.Proofs.YtdoohdbfpnmndaaW.PrintWords
open Go.RowKit
namespace Kd
section
variable {α : Type} {d : Kd α} {e : Nat} {w : World} {base : Nat} {ok : Nat → Prop} {A : Option Addr} {c : Nat} {xs : List α} {n m : Nat}
theorem R_clip (h : d.R e w base ok (.slice A n c) xs) (h1 : n ≤ m) (h2 : m ≤ c) : d.R e w base ok (.slice A n m) xs := by
  have hn : n = xs.length := (R_reads' h).1
  obtain ⟨h0, inner, ho, hr⟩ := h
  subst hn
  have hb : (Value.slice A xs.length m).ownBlock = (Value.slice A xs.length c).ownBlock := by cases A <;> rfl
  refine ⟨fun k hk => h0 k (by rw [← hb]; exact hk), inner, ho.clip h1 h2, ?_⟩
  rw [hb]; exact hr
theorem S_clip (h : S d e w base ok (.slice A n c) xs) (h1 : n ≤ m) (h2 : m ≤ c) : S d e w base ok (.slice A n m) xs := by
  obtain ⟨f, hf⟩ := h
  exact ⟨f, R_clip hf h1 h2⟩
end
end Kd
theorem kR_ {P Q : Prop} (q : Q) (h : Q → P := by intro q_; (with_reducible repeat (first | apply Kd.R_alloc | apply Kd.R_drewN | apply Kd.R_drew)); first | exact q_ | exact Kd.R_mono q_ (fun _ _ => trivial) | exact Kd.R_mono q_ (fun _ hk_ => hk_.1)) : P := h q
theorem kS_ {P Q : Prop} (q : Q) (h : Q → P := by intro q_; (with_reducible repeat (first | apply Kd.S_alloc | apply Kd.S_drewN | apply Kd.S_drew)); exact q_) : P := h q
theorem kb_ {P Q : Prop} (q : Q) (h : Q → P := by intro q_; (with_reducible repeat (first | refine blk_drewN ?_ _ | refine blk_drew ?_ | refine blk_alloc ?_ _)); exact q_) : P := h q
theorem kC_ {P Q : Prop} (q : Q) (h : Q → P := by intro q_; repeat (first | exact q_ | (with_reducible refine Kd.C_alloc ?_ _) | (with_reducible refine Kd.C_drewN ?_ _) | (with_reducible refine Kd.C_drew ?_))) : P := h q
theorem op1_ {A B C : Prop} (h : A ∧ B) (g : A → C := by intro h_; first | exact h_ | ((repeat' apply And.intro) <;> simp only [h_, ne_eq, not_false_eq_true, and_self])) : C := g h.1
theorem op2_ {A C : Prop} (h : A) (g : A → C := by intro h_; (repeat' apply And.intro) <;> first | trivial | simp only [h_, ne_eq, not_false_eq_true, and_self]) : C := g h
theorem hb0_ {P Q : Prop} (q : Q) (h : Q → P := by intro q_; repeat (first | (with_reducible first | exact q_ | apply below_alloc | apply pw_below_drewN | apply below_drew1) | exact q_)) : P := h q
theorem ar_ {P : Prop} (h : P := by (try simp only [List.map_toArray, List.map_cons, List.map_nil]); first | done | rfl | (simp only [List.length_drop, List.length_take]; rfl)) : P := h
namespace Kd
section
variable {α : Type} {d : Kd α} {e : Nat} {w : World} {base : Nat} {ok : Nat → Prop} {v : Value} {xs : List α}
theorem R_f (g i : Nat) (u : Value) (h : d.R e w base (fun k => ok k ∧ k ≠ g) v xs) : d.R e (w.setCell ⟨g, i, none⟩ u) base (fun k => ok k ∧ k ≠ g) v xs := R_far (p := ⟨g, i, none⟩) h (fun _ hk => hk.2) u
end
end Kd
end Go.Proofs.YtdoohdbfpnmndaaW.PrintWords
namespace Go.Proofs.YtdoohdbfpnmndaaW.PrintWords
theorem cz2 {w : World} {g : Nat} {t : TypeId} {v0 v1 : Value} (h : w.heap[g]? = some (.cells #[v0, v1] t (0, 0))) : w.cell? ⟨g, 0, none⟩ = some v0 ∧ w.cell? ⟨g, 1, none⟩ = some v1 := ⟨(blk_cell h 0).trans rfl, (blk_cell h 1).trans rfl⟩
theorem cz4 {w : World} {g : Nat} {t : TypeId} {v0 v1 v2 v3 : Value} (h : w.heap[g]? = some (.cells #[v0, v1, v2, v3] t (0, 0))) : w.cell? ⟨g, 0, none⟩ = some v0 ∧ w.cell? ⟨g, 1, none⟩ = some v1 ∧ w.cell? ⟨g, 2, none⟩ = some v2 ∧ w.cell? ⟨g, 3, none⟩ = some v3 := ⟨(blk_cell h 0).trans rfl, (blk_cell h 1).trans rfl, (blk_cell h 2).trans rfl, (blk_cell h 3).trans rfl⟩
theorem pz2 {w : World} {g : Nat} {t : TypeId} {cs : Array Value} {v0 v1 : Value} (h : w.heap[g]? = some (.cells cs t (0, 0))) (hs : cs.size = 2 := by rfl) : ((w.setCell ⟨g, 0, none⟩ v0).setCell ⟨g, 1, none⟩ v1).heap[g]? = some (.cells #[v0, v1] t (0, 0)) := by
  obtain ⟨l⟩ := cs
  match l, hs, h with
  | [c0, c1], _, h => exact (blk_put (cs' := #[v0, v1]) (blk_put (cs' := #[v0, c1]) h 0 v0 rfl) 1 v1 rfl)
theorem pz3 {w : World} {g : Nat} {t : TypeId} {cs : Array Value} {v0 v1 v2 : Value} (h : w.heap[g]? = some (.cells cs t (0, 0))) (hs : cs.size = 3 := by rfl) : (((w.setCell ⟨g, 0, none⟩ v0).setCell ⟨g, 1, none⟩ v1).setCell ⟨g, 2, none⟩ v2).heap[g]? = some (.cells #[v0, v1, v2] t (0, 0)) := by
  obtain ⟨l⟩ := cs
  match l, hs, h with
  | [c0, c1, c2], _, h => exact (blk_put (cs' := #[v0, v1, v2]) (blk_put (cs' := #[v0, v1, c2]) (blk_put (cs' := #[v0, c1, c2]) h 0 v0 rfl) 1 v1 rfl) 2 v2 rfl)
theorem pz4 {w : World} {g : Nat} {t : TypeId} {cs : Array Value} {v0 v1 v2 v3 : Value} (h : w.heap[g]? = some (.cells cs t (0, 0))) (hs : cs.size = 4 := by rfl) : ((((w.setCell ⟨g, 0, none⟩ v0).setCell ⟨g, 1, none⟩ v1).setCell ⟨g, 2, none⟩ v2).setCell ⟨g, 3, none⟩ v3).heap[g]? = some (.cells #[v0, v1, v2, v3] t (0, 0)) := by
  obtain ⟨l⟩ := cs
  match l, hs, h with
  | [c0, c1, c2, c3], _, h => exact (blk_put (cs' := #[v0, v1, v2, v3]) (blk_put (cs' := #[v0, v1, v2, c3]) (blk_put (cs' := #[v0, v1, c2, c3]) (blk_put (cs' := #[v0, c1, c2, c3]) h 0 v0 rfl) 1 v1 rfl) 2 v2 rfl) 3 v3 rfl)
end Go.Proofs.YtdoohdbfpnmndaaW.PrintWords
namespace Go.Proofs.YtdoohdbfpnmndaaW.PrintLast
open Go.Proofs.YtdoohdbfpnmndaaW.PrintWords
section
variable {P : Program} {ops : Array Oper} {Q : Exit → Act → World → Prop} {md : Region.Mode} {S : World → Prop} {ds : List Nat} {T : Bool × List (List Nat × List Nat)} {B : List Nat} {fuel : Nat} {l : Array Bool} {a : Act} {w : World}
theorem pu_ {i : Nat} {N : Option Tmp} {oi : Oper} {v : Value} {a' : Act} (hT : Aside0 (rtab md ops = T)) (h : wpAnyLast P md ops Q S ds fuel (l.setIfInBounds i true) a' w) (hi : ops[i]? = some oi := by rfl) (hN : oi.dst = N := by rfl)
    (hc : anyT T l.toList (l.setIfInBounds i true).toList i = true := by kernel_rfl) (hQ : ∀ c a w, Q (.panic c) (a.put oi.dst v) w → Q (.panic c) a w := by intro _ _ _ h_; exact h_) (hw : Region.wanted oi (yielded ops a.tmps) = true := by rfl)
    (hy : ∀ w', (execOp a.eval oi).run P w' = .ok (.value v) w' := by intro w'; go_simp; with_reducible rfl) (ha : a.put N v = a' := by simp only [Act.put, List.setIfInBounds_toArray, List.set_cons_zero, List.set_cons_succ, i64_w, i32_w]; rfl) :
    wpAnyLast P md ops Q S ds (fuel + 1) l a w := pure_ _ hi hN (any_of hT.out hc) hQ (Or.inl ⟨hw, hy⟩) ha h
theorem pn_ {i : Nat} {N : Option Tmp} {oi : Oper} {a' : Act} (hT : Aside0 (rtab md ops = T)) (h : wpAnyLast P md ops Q S ds fuel (l.setIfInBounds i true) a' w) (hi : ops[i]? = some oi := by rfl) (hN : oi.dst = N := by rfl)
    (hc : anyT T l.toList (l.setIfInBounds i true).toList i = true := by kernel_rfl) (hQ : ∀ c a w, Q (.panic c) (a.put oi.dst undef) w → Q (.panic c) a w := by intro _ _ _ h_; exact h_) (hw : Region.wanted oi (yielded ops a.tmps) = false := by rfl)
    (ha : a.put N undef = a' := by simp only [Act.put, List.setIfInBounds_toArray, List.set_cons_zero, List.set_cons_succ, i64_w, i32_w]; rfl) :
    wpAnyLast P md ops Q S ds (fuel + 1) l a w := pure_ _ hi hN (any_of hT.out hc) hQ (Or.inr ⟨hw, rfl⟩) ha h
theorem tk_ {i : Nat} {N : Option Tmp} {oi : Oper} {v : Value} {a' : Act} (hT : Aside0 (rtab md ops = T)) (hB : Aside0 (waitsOk T.2 B = true)) (hS : S w) (h : wpAnyLast P md ops Q S ds fuel (l.setIfInBounds i true) a' w) (hi : ops[i]? = some oi := by rfl) (hN : oi.dst = N := by rfl)
    (hc : takeW T B ds l.toList (l.setIfInBounds i true).toList i = true := by kernel_rfl) (hQ : ∀ c a w, Q (.panic c) (a.put oi.dst v) w → Q (.panic c) a w := by intro _ _ _ h_; exact h_) (hw : Region.wanted oi (yielded ops a.tmps) = true := by rfl)
    (hy : ∀ w', S w' → (execOp a.eval oi).run P w' = .ok (.value v) w' := by intro w' s_; (try dsimp only at s_); (repeat (have s0_ := s_.1; replace s_ := s_.2)); go_simp; with_reducible rfl) (ha : a.put N v = a' := by simp only [Act.put, List.setIfInBounds_toArray, List.set_cons_zero, List.set_cons_succ, i64_w, i32_w]; rfl) :
    wpAnyLast P md ops Q S ds (fuel + 1) l a w := take_ _ hi hN (take_ofW hT.out hB.out hc) hQ (Or.inl ⟨hw, hy⟩) hS ha h
theorem on_ {i : Nat} {N : Option Tmp} {oi : Oper} (hT : Aside0 (rtab md ops = T)) (h : ∀ K : Act → World → Prop, Shut (∀ a' w', S w' → (S w' → wpAnyLast P md ops Q S ds fuel (l.setIfInBounds i true) a' w') → K a' w') → if Region.wanted oi (yielded ops a.tmps) = true then Oper.wp P oi a w K Q else K (a.put N undef) w)
    (hi : ops[i]? = some oi := by rfl) (hN : oi.dst = N := by rfl) (hc : (readyT T.2 l.toList == [i] && l.toList.set i true == (l.setIfInBounds i true).toList) = true := by kernel_rfl) (hd : i ∉ ds := by decide) :
    wpAnyLast P md ops Q S ds (fuel + 1) l a w := one_ _ hi hN (one_of hT.out hc) hd h
theorem nm_ (d : Tmp) {v : Value} {a' : Act} (h : wpAnyLast P md ops Q S ds fuel l a' w) (ha : Act.put a (some d) v = a' := by simp only [Act.put, List.setIfInBounds_toArray, List.set_cons_zero, List.set_cons_succ, i64_w, i32_w]; rfl) :
    wpAnyLast P md ops Q S ds fuel l (Act.put a (some d) v) w := norm_ ha h
end
end Go.Proofs.YtdoohdbfpnmndaaW.PrintLast
