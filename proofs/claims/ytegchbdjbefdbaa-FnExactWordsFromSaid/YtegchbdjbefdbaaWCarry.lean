/- What holds of a variable, a row, or a state in memory is carried over a step by words that work out the way by themselves. No condition: plain lemmas. -/
import Derived.Test.YtegchbdjbefdbaaWClip
namespace Go.Proofs.YtegchbdjbefdbaaW.PrintWords
open Go.RowKit
theorem hbA_ {P Q : Prop} (q : Q) (h : Q → P := by intro q_; repeat (first | (with_reducible first | exact q_ | apply below_alloc | apply pw_below_drewN | apply below_drew1 | refine below_set ?_ (Aside0.out (by assumption))) | exact q_)) : P := h q
section
variable {w0 w1 w2 w W W0 W2 : World} {g g' g2 : Nat} {o : Obj}
theorem bbA_ (h : Aside0 (w0.heap[g]? = some o)) (hb : Below w1.heap.size w1 w2) (t : w0.heap[g]? = some o → w1.heap[g]? = some o := by intro q_; (with_reducible repeat (first | refine blk_drewN ?_ _ | refine blk_drew ?_ | refine blk_alloc ?_ _)); exact q_) : Aside0 (w2.heap[g]? = some o) := ⟨blk_below (t h.out) hb⟩
theorem ge_ (hg : g = W.heap.size) (HB : Aside0 (Below w.heap.size w W0)) (t : Below w.heap.size w W0 → Below w.heap.size w W := by intro q_; repeat (first | (with_reducible first | exact q_ | apply below_alloc | apply pw_below_drewN | apply below_drew1 | refine below_set ?_ (Aside0.out (by assumption))) | exact q_)) : Aside0 (w.heap.size ≤ g) := ⟨hg ▸ below_size (t HB.out)⟩
theorem nl_ (hg : g2 = W.heap.size) (h : Aside0 (w0.heap[g]? = some o)) (t : w0.heap[g]? = some o → W.heap[g]? = some o := by intro q_; (with_reducible repeat (first | refine blk_drewN ?_ _ | refine blk_drew ?_ | refine blk_alloc ?_ _)); exact q_) : Aside0 (g ≠ g2) := ⟨hg ▸ Nat.ne_of_lt (blk_lt (t h.out))⟩
theorem ng_ (hg : g2 = W.heap.size) (h : Aside0 (w0.heap[g]? = some o)) (t : w0.heap[g]? = some o → W.heap[g]? = some o := by intro q_; (with_reducible repeat (first | refine blk_drewN ?_ _ | refine blk_drew ?_ | refine blk_alloc ?_ _)); exact q_) : Aside0 (g2 ≠ g) := ⟨hg ▸ Nat.ne_of_gt (blk_lt (t h.out))⟩
theorem cc_ {a : Addr} {v : Value} (HB : Aside0 (Below w.heap.size w W)) (h : w.cell? a = some v) : W.cell? a = some v := (HB.out.cell (World.block_lt_of_cell? w _ h)).trans h
theorem bc_ {t : TypeId} {cs : Array Value} {v : Value} (h : Aside0 (w.heap[g]? = some (.cells cs t (0, 0)))) (i : Nat) (e : cs[i]? = some v := by rfl) : w.cell? ⟨g, i, none⟩ = some v := (blk_cell h.out i).trans e
theorem bs_ (HB : Aside0 (Below w.heap.size w W0)) (hb : Below W.heap.size W W2) (t : Below w.heap.size w W0 → Below w.heap.size w W := by intro q_; repeat (first | (with_reducible first | exact q_ | apply below_alloc | apply pw_below_drewN | apply below_drew1 | refine below_set ?_ (Aside0.out (by assumption))) | exact q_)) : Aside0 (Below w.heap.size w W2) := ⟨below_step (t HB.out) hb⟩
theorem bd_ {B : Nat} (HB : Aside0 (Below B w W)) : Aside0 (Below B w W.drew) := ⟨below_drew1 HB.out⟩
theorem zz2 {t : TypeId} {v0 v1 : Value} (h : Aside0 (w.heap[g]? = some (.cells #[v0, v1] t (0, 0)))) : w.cell? ⟨g, 0, none⟩ = some v0 ∧ w.cell? ⟨g, 1, none⟩ = some v1 ∧ w.frozen? ⟨g, 0, none⟩ = false ∧ w.frozen? ⟨g, 1, none⟩ = false := ⟨bc_ h 0, bc_ h 1, blk_frozen h.out 0, blk_frozen h.out 1⟩
theorem sb_ {α β : Type} {y E : α} {f : α → Option β} {r : Option β} (hy : y = E) (H : (some E).bind f = r) : f y = r := by subst hy; exact H
variable {P : Program} {ops : Array Oper} {rest : List Oper} {oo : Oper} {a : Act} {Q : Exit → Act → World → Prop}
theorem box_ {N : Tmp} {cs : Array Value} {t : TypeId}
    (h : ∀ g, g = W.heap.size → ∀ w1, w1.heap[g]? = some (.cells cs t (0, 0)) → Below W.heap.size W w1 → wpList P ops Q rest (a.put oo.dst (.pointer (some ⟨g, 0, none⟩))) w1)
    (hgd : oo.guard = none := by rfl) (hd : oo.dst = some N := by rfl)
    (hrun : (execOp a.eval oo).run P W = .ok (.value (.pointer (some ⟨W.heap.size, 0, none⟩))) (W.alloc (.cells cs t (0, 0))) := by first | (go_simp; done) | (go_simp; rfl)) : wpList P ops Q (oo :: rest) a W := box_event hgd hd hrun h
end
end Go.Proofs.YtegchbdjbefdbaaW.PrintWords
