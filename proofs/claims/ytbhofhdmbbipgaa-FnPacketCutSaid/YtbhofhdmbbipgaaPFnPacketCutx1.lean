/- Printed by wip/xp/xprint.sh out of the translation, for this claim: what each function answers, as a plain function, and that the machine does just that. No condition. -/
import Derived.Test.YtbhofhdmbbipgaaPFnPacketCutx0
namespace Go.Proofs.Ytbhofhdmbbipgaa.PFnPacketCut
open Go.RowKit Go.Proofs.YtbhofhdmbbipgaaW.PrintWords Go.Proofs.YtbhofhdmbbipgaaW.PrintLast Go.Proofs.YtbhofhdmbbipgaaW.PrintMore
attribute [local go_sem] max2_int min2_int max_two min_two max_three min_three max_four min_four   -- for this text's walks alone
set_option linter.unusedVariables false
set_option linter.unusedSimpArgs false
def IsS113 (w0 W : World) (g : Nat) (f0 : List Int) (f1 : Int) : Prop := ∃ A0 c0, W.heap[g]? = some (.cells #[.slice A0 f0.length c0, .int .i64 f1] 113 (0, 0)) ∧ w0.heap.size ≤ g ∧ Kd.C (Kd.int .u8) w0 A0 f0.length f0
theorem IsS113.grown {w0 W : World} {g : Nat} {f0 : List Int} {f1 : Int} {W1 : World} {row : Option Nat} (h : IsS113 w0 W g f0 f1) (hw : W.grownBy W1 row) (hne : some g ≠ row) : IsS113 w0 W1 g f0 f1 := by
 obtain ⟨A0, c0, hb, hg, hr0⟩ := h
 exact ⟨A0, c0, blk_grown hb hw hne, hg, hr0⟩
theorem IsS113.kept {w0 W : World} {g : Nat} {f0 : List Int} {f1 : Int} {W1 : World} {S : Nat → Prop} (h : IsS113 w0 W g f0 f1) (hk : Kept W W1 S) (hne : ¬ S g) : IsS113 w0 W1 g f0 f1 := by
 obtain ⟨A0, c0, hb, hg, hr0⟩ := h
 exact ⟨A0, c0, blk_kept hb hk hne, hg, hr0⟩
theorem IsS113.below {w0 W : World} {g : Nat} {f0 : List Int} {f1 : Int} {W1 : World} (h : IsS113 w0 W g f0 f1) (hw : Below W.heap.size W W1) : IsS113 w0 W1 g f0 f1 := h.grown (grown_of_below hw none) (by simp)
theorem IsS113.alloc {w0 W : World} {g : Nat} {f0 : List Int} {f1 : Int} (h : IsS113 w0 W g f0 f1) (o : Obj) : IsS113 w0 (W.alloc o) g f0 f1 := h.below (below_alloc (Below.refl _ _) o)
theorem IsS113.drewN {w0 W : World} {g : Nat} {f0 : List Int} {f1 : Int} (h : IsS113 w0 W g f0 f1) (m : Nat) : IsS113 w0 (W.drewN m) g f0 f1 := h
theorem IsS113.drew {w0 W : World} {g : Nat} {f0 : List Int} {f1 : Int} (h : IsS113 w0 W g f0 f1) : IsS113 w0 W.drew g f0 f1 := h
theorem IsS113.at_ {w0 W : World} {g : Nat} {f0 : List Int} {f1 : Int} {w' : World} {m : Nat} (hq : W.drewN m = w') (h : IsS113 w0 W g f0 f1) : IsS113 w0 w' g f0 f1 := by subst hq; exact IsS113.drewN h m
theorem IsS113.apart {w0 W : World} {g : Nat} {f0 : List Int} {f1 : Int} {α : Type} {d : Kd α} {e : Nat} {base : Nat} {ok : Nat → Prop} {v : Value} {xs : List α} (h : IsS113 w0 W g f0 f1) (ho : d.R e W base ok v xs) (ht : ∀ q, q ∈ e :: d.E → q ≠ 113) : d.R e W base (fun k => ok k ∧ k ≠ g) v xs := by
 obtain ⟨A0, c0, hb, hg, hr0⟩ := h
 exact Kd.R_types ho hb ht
theorem IsS113.own_ne {w0 W : World} {g : Nat} {f0 : List Int} {f1 : Int} {α : Type} {d : Kd α} {e : Nat} {base : Nat} {ok : Nat → Prop} {v : Value} {xs : List α} (h : IsS113 w0 W g f0 f1) (ho : d.R e W base ok v xs) (ht : e ≠ 113) : some g ≠ v.ownBlock := by
 obtain ⟨A0, c0, hb, hg, hr0⟩ := h
 exact Kd.R_ne ho hb ht
theorem IsS113.lt {w0 W : World} {g : Nat} {f0 : List Int} {f1 : Int} (h : IsS113 w0 W g f0 f1) : g < W.heap.size := by
 obtain ⟨A0, c0, hb, hg, hr0⟩ := h
 exact blk_lt hb
theorem IsS113.ge {w0 W : World} {g : Nat} {f0 : List Int} {f1 : Int} (h : IsS113 w0 W g f0 f1) : w0.heap.size ≤ g := by
 obtain ⟨A0, c0, hb, hg, hr0⟩ := h
 exact hg
theorem IsS113.ne_blk {w0 W : World} {g : Nat} {f0 : List Int} {f1 : Int} {a : Nat} {cs : Array Value} {t : TypeId} {fr : Nat × Nat} (h : IsS113 w0 W g f0 f1) (hb2 : W.heap[a]? = some (.cells cs t fr)) (ht : t ≠ 113) : g ≠ a := by
 obtain ⟨A0, c0, hb, hg, hr0⟩ := h
 rintro rfl
 rw [hb] at hb2
 injection hb2 with hb2
 injection hb2 with _ ht2
 exact ht ht2.symm
theorem IsS113.far {w0 W : World} {g : Nat} {f0 : List Int} {f1 : Int} {p : Addr} (h : IsS113 w0 W g f0 f1) (hne : g ≠ p.block) (u : Value) : IsS113 w0 (W.setCell p u) g f0 f1 := by
 obtain ⟨A0, c0, hb, hg, hr0⟩ := h
 exact ⟨A0, c0, blk_far hb hne u, hg, hr0⟩
theorem cellS113_0 {W : World} {g : Nat} {A0 : Option Addr} {c0 : Nat} {f0 : List Int} {f1 : Int} (h : W.heap[g]? = some (.cells #[.slice A0 f0.length c0, .int .i64 f1] 113 (0, 0))) : W.cell? ⟨g, 0, none⟩ = some (.slice A0 f0.length c0) := (blk_cell h 0).trans rfl
theorem cellS113_1 {W : World} {g : Nat} {A0 : Option Addr} {c0 : Nat} {f0 : List Int} {f1 : Int} (h : W.heap[g]? = some (.cells #[.slice A0 f0.length c0, .int .i64 f1] 113 (0, 0))) : W.cell? ⟨g, 1, none⟩ = some (.int .i64 f1) := (blk_cell h 1).trans rfl
theorem IsS113.set_1 {w0 W : World} {g : Nat} {f0 : List Int} {f1 : Int} (h : IsS113 w0 W g f0 f1) (x : Int) : IsS113 w0 (W.setCell ⟨g, 1, none⟩ (.int .i64 x)) g f0 x := by
 obtain ⟨A0, c0, hb, hg, hr0⟩ := h
 exact ⟨A0, c0, by simpa using blk_set hb 1 (.int .i64 x), hg, hr0⟩
theorem is113_ {P Q : Prop} (q : Q) (h : Q → P := by intro q_; repeat (first | (with_reducible first | exact q_ | apply IsS113.alloc | apply IsS113.drewN | apply IsS113.drew | apply IsS113.set_1 | refine IsS113.far ?_ (Aside0.out (by assumption)) _) | exact q_)) : P := h q
theorem hb113_ {P Q : Prop} (q : Q) (h : Q → P := by intro q_; repeat (first | (with_reducible first | exact q_ | apply below_alloc | apply pw_below_drewN | apply below_drew1 | refine below_set ?_ (Aside0.out (by assumption)) | refine below_set ?_ (IsS113.ge (Aside0.out (by assumption)))) | exact q_)) : P := h q
theorem ge113_ {w W W0 : World} {g : Nat} (hg : g = W.heap.size) (HB : Aside0 (Below w.heap.size w W0)) (t : Below w.heap.size w W0 → Below w.heap.size w W := by intro q_; repeat (first | (with_reducible first | exact q_ | apply below_alloc | apply pw_below_drewN | apply below_drew1 | refine below_set ?_ (Aside0.out (by assumption)) | refine below_set ?_ (IsS113.ge (Aside0.out (by assumption)))) | exact q_)) : Aside0 (w.heap.size ≤ g) := ⟨hg ▸ below_size (t HB.out)⟩
theorem bs113_ {w W W0 W2 : World} (HB : Aside0 (Below w.heap.size w W0)) (hb : Below W.heap.size W W2) (t : Below w.heap.size w W0 → Below w.heap.size w W := by intro q_; repeat (first | (with_reducible first | exact q_ | apply below_alloc | apply pw_below_drewN | apply below_drew1 | refine below_set ?_ (Aside0.out (by assumption)) | refine below_set ?_ (IsS113.ge (Aside0.out (by assumption)))) | exact q_)) : Aside0 (Below w.heap.size w W2) := ⟨below_step (t HB.out) hb⟩
theorem nl113_ {w0 W W0 : World} {g g2 : Nat} {f0 : List Int} {f1 : Int} {g0 : List Int} {g1 : Int} (hg : g2 = W.heap.size) (h : Aside0 (IsS113 w0 W0 g f0 f1)) (t : IsS113 w0 W0 g f0 f1 → IsS113 w0 W g g0 g1 := by intro q_; repeat (first | (with_reducible first | exact q_ | apply IsS113.alloc | apply IsS113.drewN | apply IsS113.drew | apply IsS113.set_1 | refine IsS113.far ?_ (Aside0.out (by assumption)) _) | exact q_)) : Aside0 (g ≠ g2) := ⟨hg ▸ Nat.ne_of_lt (IsS113.lt (t h.out))⟩
theorem ng113_ {w0 W W0 : World} {g g2 : Nat} {f0 : List Int} {f1 : Int} {g0 : List Int} {g1 : Int} (hg : g2 = W.heap.size) (h : Aside0 (IsS113 w0 W0 g f0 f1)) (t : IsS113 w0 W0 g f0 f1 → IsS113 w0 W g g0 g1 := by intro q_; repeat (first | (with_reducible first | exact q_ | apply IsS113.alloc | apply IsS113.drewN | apply IsS113.drew | apply IsS113.set_1 | refine IsS113.far ?_ (Aside0.out (by assumption)) _) | exact q_)) : Aside0 (g2 ≠ g) := ⟨hg ▸ Nat.ne_of_gt (IsS113.lt (t h.out))⟩
theorem ib113_ {w0 W W0 W2 : World} {g : Nat} {f0 : List Int} {f1 : Int} {g0 : List Int} {g1 : Int} (h : Aside0 (IsS113 w0 W0 g f0 f1)) (hb : Below W.heap.size W W2) (t : IsS113 w0 W0 g f0 f1 → IsS113 w0 W g g0 g1 := by intro q_; repeat (first | (with_reducible first | exact q_ | apply IsS113.alloc | apply IsS113.drewN | apply IsS113.drew | apply IsS113.set_1 | refine IsS113.far ?_ (Aside0.out (by assumption)) _) | exact q_)) : Aside0 (IsS113 w0 W2 g g0 g1) := ⟨IsS113.below (t h.out) hb⟩
theorem rk113_ {w0 W0 W1 W W2 : World} {g : Nat} {f0 : List Int} {f1 : Int} {g0 : List Int} {g1 : Int} {α : Type} {d : Kd α} {e : Nat} {base : Nat} {ok : Nat → Prop} {v : Value} {xs : List α} (h : Aside0 (IsS113 w0 W0 g f0 f1)) (ho : Aside0 (d.R e W1 base ok v xs)) (hk : KeepBut W W2 g none) (t : IsS113 w0 W0 g f0 f1 → IsS113 w0 W g g0 g1 := by intro q_; repeat (first | (with_reducible first | exact q_ | apply IsS113.alloc | apply IsS113.drewN | apply IsS113.drew | apply IsS113.set_1 | refine IsS113.far ?_ (Aside0.out (by assumption)) _) | exact q_)) (s : d.R e W1 base ok v xs → d.R e W base ok v xs := by intro q_; (with_reducible repeat (first | apply Kd.R_alloc | apply Kd.R_drewN | apply Kd.R_drew)); exact q_) (ht : ∀ q, q ∈ e :: d.E → q ≠ 113 := by decide) : Aside0 (d.R e W2 base ok v xs) := ⟨Kd.R_mono (Kd.R_keep (IsS113.apart (t h.out) (s ho.out) ht) hk (fun _ h => h.2)) (fun _ h => h.1)⟩
def spec_l20Open.f (l0 : List Int) : Option (List Int × Int) := if (l0.length : Int) > 2000 then (if 2000 ≤ (l0.length : Int) then (some (l0.take 2000, 0)) else (none)) else (some (l0, 0))
set_option maxHeartbeats 8000000 in
set_option maxRecDepth 100000 in
theorem spec_l20Open.calls (A0 : Option Addr) (c0 : Nat) (l0 : List Int) (r1 : List Int) (r2 : Int) (w0 w : World) (hB : Below w0.heap.size w0 w) (hr0 : Kd.C (Kd.int .u8) w0 A0 l0.length l0) (hc0 : l0.length ≤ c0) (h : spec_l20Open.f l0 = some (r1, r2)) :
  Calls Try.prog 52 #[.slice A0 l0.length c0] w fun e w' => ∃ g_ : Nat, e = .returned (.pointer (some ⟨g_, 0, none⟩)) ∧ IsS113 w0 w' g_ r1 r2 ∧ Below w0.heap.size w0 w' ∧ Below w.heap.size w w' := by
 have hu113 := Try.underlying113; have HR0 := Aside0.mk hr0; have HC0 := Aside0.mk hc0; clear hr0 hc0
 have HBW := Aside0.mk (Below.refl w.heap.size w)
 have HW0 := Aside0.mk hB.size; have HB := Aside0.mk hB; clear hB
 have H : (if (l0.length : Int) > 2000 then (if 2000 ≤ (l0.length : Int) then (some (l0.take 2000, 0)) else (none)) else (some (l0, 0))) = some (r1, r2) := h
 clear h
 by_cases c2 : (l0.length : Int) > 2000
 ·rw [if_pos c2] at H
  have c2b0 : decide (2000 < (l0.length : Int)) = true := decide_eq_true c2
  have c2b1 : decide (2000 < l0.length) = true := decide_eq_true (by omega)
  clear c2
  by_cases c3 : 2000 ≤ (l0.length : Int)
  ·rw [if_pos c3] at H
   have c3b0 := eq_true c3
   have c3b1 : decide (2000 ≤ (l0.length : Int)) = true := decide_eq_true c3
   clear c3
   simp only [Option.some.injEq, Prod.mk.injEq] at H
   obtain ⟨rfl, rfl⟩ := H
   obtain ⟨i04, hi04, _, hsz4, _⟩ := info_parts info5
   obtain ⟨hcut4, hA4, hC4⟩ := print_take_of (P := Try.prog) (Value.int .u8) 0 22 5 .i64 Try.underlying22 hi04 hsz4 A0 c0 l0 2000 (by omega) (of_decide_eq_true (by first | (with_reducible assumption) | assumption)) HC0.out
   have HR101 := Aside0.mk (Kd.C_of_reads (h1 := fun _ => rfl) (hA4 _ (Kd.reads_of_C HR0.out)))
   have HC101 := Aside0.mk hC4; clear hA4 hC4 hi04 hsz4
   go_enter Try.func52, Try.ntmps52
   go_wp2_with (first | ((with_reducible refine gate_dst (N := 10) rfl ?_); refine box_ (N := 10) (cs := #[.slice A0 (l0.take 2000).length c0, .int .i64 0]) (t := 113) (fun gb102 hg w5 hbox hb => ?_); replace HB := (bs_ HB hb); have BK102 := Aside0.mk (hbox); have GW102 := Aside0.mk ((by rw [hg]; exact (below_size (hb0_ HBW.out)) : w.heap.size ≤ gb102)); have GE102 := Aside0.mk ((Nat.le_trans HW0.out (by rw [hg]; exact (below_size (hb0_ HBW.out)) : w.heap.size ≤ gb102) : w0.heap.size ≤ gb102)); replace HBW := Aside0.mk (below_step HBW.out hb); clear hb hbox hg))
   go_ret
   exact ⟨_, rfl, (show IsS113 w0 _ gb102 (l0.take 2000) 0 from ⟨_, _, by refine kb_ ?_; exact BK102.out, GE102.out, HR101.out⟩), hbA_ HB.out, by repeat (first | (with_reducible first | exact HBW.out | apply below_alloc | apply pw_below_drewN | apply below_drew1 | refine below_set ?_ GW102.out) | exact HBW.out)⟩
  ·rw [if_neg c3] at H
   exact absurd H (by simp)
 ·rw [if_neg c2] at H
  have c2b0 : decide (2000 < (l0.length : Int)) = false := decide_eq_false c2
  have c2b1 : decide (2000 < l0.length) = false := decide_eq_false (by omega)
  clear c2
  simp only [Option.some.injEq, Prod.mk.injEq] at H
  obtain ⟨rfl, rfl⟩ := H
  go_enter Try.func52, Try.ntmps52
  go_wp2_with (first | ((with_reducible refine gate_dst (N := 10) rfl ?_); refine box_ (N := 10) (cs := #[.slice A0 l0.length c0, .int .i64 0]) (t := 113) (fun gb103 hg w6 hbox hb => ?_); replace HB := (bs_ HB hb); have BK103 := Aside0.mk (hbox); have GW103 := Aside0.mk ((by rw [hg]; exact (below_size (hb0_ HBW.out)) : w.heap.size ≤ gb103)); have GE103 := Aside0.mk ((Nat.le_trans HW0.out (by rw [hg]; exact (below_size (hb0_ HBW.out)) : w.heap.size ≤ gb103) : w0.heap.size ≤ gb103)); replace HBW := Aside0.mk (below_step HBW.out hb); clear hb hbox hg))
  go_ret
  exact ⟨_, rfl, (show IsS113 w0 _ gb103 l0 0 from ⟨_, _, by refine kb_ ?_; exact BK103.out, GE103.out, HR0.out⟩), hbA_ HB.out, by repeat (first | (with_reducible first | exact HBW.out | apply below_alloc | apply pw_below_drewN | apply below_drew1 | refine below_set ?_ GW103.out) | exact HBW.out)⟩
def spec_l20Rd_pick.j0 : Nat → Int → Bool → List Int → Int → Option (Int × Int)
 | 0, _, _, _, _ => none
 | k + 1, x1, x24, x1000, x1001 => if x24 = true then (some (0, x1001)) else (if (wrap64 (x1001 - 1)) < (x1000.length : Int) then (if 0 ≤ (wrap64 (x1001 - 1)) then (if x1 = 0 then (none) else (some (Int.tmod (wrap64 (rd x1000 (wrap64 (x1001 - 1)))) x1, x1001))) else (none)) else (if (x1000.length : Int) = 0 then (none) else (if 0 ≤ (Int.tmod (wrap64 (x1001 - 1)) (x1000.length : Int)) then (if (Int.tmod (wrap64 (x1001 - 1)) (x1000.length : Int)) < (x1000.length : Int) then (if 0 ≤ (Int.tmod (wrap64 ((wrap64 ((wrap64 (x1001 - 1)) * 7)) + 3)) (x1000.length : Int)) then (if (Int.tmod (wrap64 ((wrap64 ((wrap64 (x1001 - 1)) * 7)) + 3)) (x1000.length : Int)) < (x1000.length : Int) then (if x1 = 0 then (none) else (some (Int.tmod (Go.bits .xor .i64 (wrap64 ((wrap64 ((wrap64 ((wrap64 ((wrap64 (rd x1000 (Int.tmod (wrap64 (x1001 - 1)) (x1000.length : Int)))) * 131)) + (wrap64 ((wrap64 (rd x1000 (Int.tmod (wrap64 ((wrap64 ((wrap64 (x1001 - 1)) * 7)) + 3)) (x1000.length : Int)))) * 1117)))) + (wrap64 ((wrap64 (x1001 - 1)) * 29)))) + (wrap64 ((wrap64 (Int.tdiv (wrap64 (x1001 - 1)) (x1000.length : Int))) * 53)))) (wrap64 (Int.tdiv (wrap64 ((wrap64 ((wrap64 ((wrap64 ((wrap64 (rd x1000 (Int.tmod (wrap64 (x1001 - 1)) (x1000.length : Int)))) * 131)) + (wrap64 ((wrap64 (rd x1000 (Int.tmod (wrap64 ((wrap64 ((wrap64 (x1001 - 1)) * 7)) + 3)) (x1000.length : Int)))) * 1117)))) + (wrap64 ((wrap64 (x1001 - 1)) * 29)))) + (wrap64 ((wrap64 (Int.tdiv (wrap64 (x1001 - 1)) (x1000.length : Int))) * 53)))) 64))) x1, x1001))) else (none)) else (none)) else (none)) else (none))))
def spec_l20Rd_pick.f (k : Nat) (s0_0 : List Int) (s0_1 : Int) (a1 : Int) : Option (Int × Int) := if a1 < 1 then (spec_l20Rd_pick.j0 k a1 true s0_0 (wrap64 (s0_1 + 1))) else (spec_l20Rd_pick.j0 k a1 ((s0_0.length : Int) == 0) s0_0 (wrap64 (s0_1 + 1)))
theorem spec_l20Rd_pick.mono_l : ∀ k, (∀ y0 y1 y2 y3, LeO (spec_l20Rd_pick.j0 k y0 y1 y2 y3) (spec_l20Rd_pick.j0 (k + 1) y0 y1 y2 y3))
 | 0 => fun _ _ _ _ r h => by simp [spec_l20Rd_pick.j0] at h
 | k + 1 => by
  have ih0 := spec_l20Rd_pick.mono_l k
  ·intro y0 y1 y2 y3
   unfold spec_l20Rd_pick.j0
   repeat' first | (with_reducible first | apply ih0 | exact LeO.refl _ | exact LeO.none _ | refine LeO.ite ?_ ?_ | refine LeO.bind ?_ fun _ => ?_) | apply ih0 | exact LeO.none _ | refine LeO.ite ?_ ?_ | refine LeO.bind ?_ fun _ => ?_
theorem spec_l20Rd_pick.mono : ∀ a0 a1 a2 k, LeO (spec_l20Rd_pick.f k a0 a1 a2) (spec_l20Rd_pick.f (k + 1) a0 a1 a2) := by
 intro a0 a1 a2 k
 have ih0 := spec_l20Rd_pick.mono_l k
 unfold spec_l20Rd_pick.f
 repeat' first | (with_reducible first | apply ih0 | exact LeO.refl _ | exact LeO.none _ | refine LeO.ite ?_ ?_ | refine LeO.bind ?_ fun _ => ?_) | apply ih0 | exact LeO.none _ | refine LeO.ite ?_ ?_ | refine LeO.bind ?_ fun _ => ?_
set_option maxHeartbeats 8000000 in
set_option maxRecDepth 100000 in
theorem spec_l20Rd_pick.calls (k : Nat) (g : Nat) (s0_0 : List Int) (s0_1 : Int) (a1 : Int) (r1 : Int) (r2 : Int) (w0 w : World) (hI : IsS113 w0 w g s0_0 s0_1) (hB : Below w0.heap.size w0 w) (h : spec_l20Rd_pick.f k s0_0 s0_1 a1 = some (r1, r2)) :
  Calls Try.prog 54 #[.pointer (some ⟨g, 0, none⟩), .int .i64 a1] w fun e w' => e = .returned (.int .i64 r1) ∧ IsS113 w0 w' g s0_0 r2 ∧ Below w0.heap.size w0 w' ∧ KeepBut w w' g none := by
 have HI0 := Aside0.mk hI
 have HK := Aside0.mk (KeepBut.refl w g none)
 have HL := Aside0.mk hB.size; clear hI; have HW0 := Aside0.mk hB.size; have HB := Aside0.mk hB; clear hB
 have H : (if a1 < 1 then (spec_l20Rd_pick.j0 k a1 true s0_0 (wrap64 (s0_1 + 1))) else (spec_l20Rd_pick.j0 k a1 ((s0_0.length : Int) == 0) s0_0 (wrap64 (s0_1 + 1)))) = some (r1, r2) := h
 clear h; have HC3 := Aside0.mk H; clear H
 obtain ⟨ASz4_0, cSz4_0, HGz4, hgz4, HSz4_0⟩ := HI0.out
 have hcz4_0 := cellS113_0 HGz4
 have hcz4_1 := cellS113_1 HGz4
 have hfz4_1 := blk_frozen HGz4 1; clear HGz4 hgz4
 go_enter Try.func54, Try.ntmps54
 go_upto_region 2 with (fail)
 repeat (go_quiet (fail); go_upto_region 2 with (fail))
 go_cut [24] (fun v24 wc => ∃ (kq : Nat) (x24_2 : Bool), v24 = .bool x24_2 ∧ Aside0 (spec_l20Rd_pick.j0 kq a1 x24_2 s0_0 (wrap64 (s0_1 + 1)) = some (r1, r2)) ∧ Aside0 (kq ≤ k) ∧ Aside0 (IsS113 w0 wc g s0_0 (wrap64 (s0_1 + 1))) ∧ Aside0 (KeepBut w wc g none) ∧ Aside0 (Below w0.heap.size w0 wc))
 case first =>
  have H := HC3.out; clear HC3
  by_cases c5 : a1 < 1
  ·rw [if_pos c5] at H
   have c5b0 : decide (a1 < 1) = true := decide_eq_true c5
   clear c5
   (first | rw [c5b0] | (simp only [i64_w, i32_w]; rw [c5b0]) | skip)
   have H' := Aside0.mk H
   clear H
   go_wp2
   repeat (go_quiet (fail); try go_wp2)
   go_meet
   case rel => exact ⟨_, (true), (by first | rfl | (simp; done) | (simp [*]; done)), H', ⟨by first | omega | exact Nat.le_refl _⟩, ⟨is113_ HI0.out⟩, ⟨hkA_ HK.out⟩, ⟨hb113_ HB.out⟩⟩
  ·rw [if_neg c5] at H
   have c5b0 : decide (a1 < 1) = false := decide_eq_false c5
   clear c5
   (first | rw [c5b0] | (simp only [i64_w, i32_w]; rw [c5b0]) | skip)
   have H' := Aside0.mk H
   clear H
   obtain ⟨ASz6_0, cSz6_0, HGz6, hgz6, HSz6_0⟩ := HI0.out
   have hcz6_0 := cellS113_0 HGz6
   have hcz6_1 := cellS113_1 HGz6
   have hfz6_1 := blk_frozen HGz6 1; clear HGz6 hgz6
   go_wp2
   repeat (go_quiet (fail); try go_wp2)
   go_meet
   case rel => exact ⟨_, (((s0_0.length : Int) == 0)), (by first | rfl | (simp; done) | (simp [*]; done)), H', ⟨by first | omega | exact Nat.le_refl _⟩, ⟨is113_ HI0.out⟩, ⟨hkA_ HK.out⟩, ⟨hb113_ HB.out⟩⟩
 case rest =>
  clear HC3; (try clear p2); (try clear c5); (try clear c5b0); (try clear p6); (try clear hcz4_0); (try clear hcz4_1); (try clear hcz6_0); (try clear hcz6_1); (try clear hfz4_1); (try clear hfz6_1)
  obtain ⟨kq, x24_2, rfl, HA, HJ2, HI0, HK, HB⟩ := hcut
  cases kq with
  | zero => exact absurd HA.out (by simp [spec_l20Rd_pick.j0])
  | succ kj2 =>
   have H := HA.out; clear HA
   simp only [spec_l20Rd_pick.j0] at H
   by_cases c7 : x24_2 = true
   ·subst c7
    rw [if_pos rfl] at H
    simp only [Option.some.injEq, Prod.mk.injEq] at H
    obtain ⟨rfl, rfl⟩ := H
    go_wp2
    repeat (go_quiet (fail); try go_wp2)
    go_ret
    exact ⟨by first | rfl | (simp [errW_none, errW_some] <;> rfl) | (simp [*, errW_none, errW_some] <;> rfl), is113_ HI0.out, hb113_ HB.out, hkA_ HK.out⟩
   ·replace c7 := Bool.eq_false_iff.mpr c7
    subst c7
    rw [if_neg (show ¬ (false = true) by decide)] at H
    by_cases c8 : (wrap64 ((wrap64 (s0_1 + 1)) - 1)) < (s0_0.length : Int)
    ·rw [if_pos c8] at H
     have c8b0 : decide ((wrap64 ((wrap64 (s0_1 + 1)) - 1)) < (s0_0.length : Int)) = true := decide_eq_true c8
     clear c8
     obtain ⟨ji9, hji9⟩ : ∃ j_ : Int, (wrap64 ((wrap64 (s0_1 + 1)) - 1)) = j_ := ⟨_, rfl⟩
     (first | rw [hji9] at H | simp only [hji9] at H)
     (try rw [hji9] at c8b0)
     have hji9w : (IntKind.i64.wrap ((wrap64 (s0_1 + 1)) - 1)) = ji9 := (i64_w _).trans hji9
     by_cases c10 : 0 ≤ (ji9)
     ·rw [if_pos c10] at H
      have c10b0 : decide (0 ≤ (ji9)) = true := decide_eq_true c10
      clear c10
      by_cases c11 : a1 = 0
      ·rw [if_pos c11] at H
       exact absurd H (by simp)
      ·rw [if_neg c11] at H
       have c11b0 : (a1 == 0) = false := beq_eq_false_iff_ne.mpr c11
       have c11b1 : (a1 != 0) = true := bne_iff_ne.mpr c11
       simp only [Option.some.injEq, Prod.mk.injEq] at H
       obtain ⟨rfl, rfl⟩ := H
       obtain ⟨ASz12_0, cSz12_0, HGz12, hgz12, HSz12_0⟩ := HI0.out
       have hcz12_0 := cellS113_0 HGz12
       have hcz12_1 := cellS113_1 HGz12
       have hfz12_1 := blk_frozen HGz12 1; clear HGz12 hgz12
       have p104 : 0 ≤ ((ji9) : Int) := of_decide_eq_true (by first | (with_reducible assumption) | assumption)
       have q104 : (ji9) < (s0_0.length : Int) := of_decide_eq_true (by first | (with_reducible assumption) | assumption)
       obtain ⟨ad104, e104, hx104_0⟩ := Kd.at_int HSz12_0 (ji9) p104 q104
       cases e104
       replace hx104_0 := pw_cell_below HB.out hx104_0
       replace p104 := eq_true p104
       replace q104 := eq_true q104
       go_wp2
       repeat (go_quiet (fail); try go_wp2)
       go_ret
       exact ⟨by first | rfl | (simp [errW_none, errW_some] <;> rfl) | (simp only [← hji9]; first | rfl | (simp [errW_none, errW_some] <;> rfl)) | (simp [*, errW_none, errW_some] <;> rfl), is113_ HI0.out, hb113_ HB.out, hkA_ HK.out⟩
     ·rw [if_neg c10] at H
      exact absurd H (by simp)
    ·rw [if_neg c8] at H
     have c8b0 : decide ((wrap64 ((wrap64 (s0_1 + 1)) - 1)) < (s0_0.length : Int)) = false := decide_eq_false c8
     clear c8
     by_cases c13 : (s0_0.length : Int) = 0
     ·rw [if_pos c13] at H
      exact absurd H (by simp)
     ·rw [if_neg c13] at H
      have c13b0 : ((s0_0.length : Int) == 0) = false := beq_eq_false_iff_ne.mpr c13
      have c13b1 : ((s0_0.length : Int) != 0) = true := bne_iff_ne.mpr c13
      have c13b2 : ¬ (s0_0 = []) := fun h_ => c13 (by rw [h_]; rfl)
      obtain ⟨ji14, hji14⟩ : ∃ j_ : Int, (Int.tmod (wrap64 ((wrap64 (s0_1 + 1)) - 1)) (s0_0.length : Int)) = j_ := ⟨_, rfl⟩
      (first | rw [hji14] at H | simp only [hji14] at H)
      by_cases c15 : 0 ≤ (ji14)
      ·rw [if_pos c15] at H
       have c15b0 : decide (0 ≤ (ji14)) = true := decide_eq_true c15
       clear c15
       by_cases c16 : (ji14) < (s0_0.length : Int)
       ·rw [if_pos c16] at H
        have c16b0 : decide ((ji14) < (s0_0.length : Int)) = true := decide_eq_true c16
        clear c16
        obtain ⟨ji17, hji17⟩ : ∃ j_ : Int, (Int.tmod (wrap64 ((wrap64 ((wrap64 ((wrap64 (s0_1 + 1)) - 1)) * 7)) + 3)) (s0_0.length : Int)) = j_ := ⟨_, rfl⟩
        (first | rw [hji17] at H | simp only [hji17] at H)
        by_cases c18 : 0 ≤ (ji17)
        ·rw [if_pos c18] at H
         have c18b0 : decide (0 ≤ (ji17)) = true := decide_eq_true c18
         clear c18
         by_cases c19 : (ji17) < (s0_0.length : Int)
         ·rw [if_pos c19] at H
          have c19b0 : decide ((ji17) < (s0_0.length : Int)) = true := decide_eq_true c19
          clear c19
          by_cases c20 : a1 = 0
          ·rw [if_pos c20] at H
           exact absurd H (by simp)
          ·rw [if_neg c20] at H
           have c20b0 : (a1 == 0) = false := beq_eq_false_iff_ne.mpr c20
           have c20b1 : (a1 != 0) = true := bne_iff_ne.mpr c20
           simp only [Option.some.injEq, Prod.mk.injEq] at H
           obtain ⟨rfl, rfl⟩ := H
           obtain ⟨ASz21_0, cSz21_0, HGz21, hgz21, HSz21_0⟩ := HI0.out
           have hcz21_0 := cellS113_0 HGz21
           have hcz21_1 := cellS113_1 HGz21
           have hfz21_1 := blk_frozen HGz21 1; clear HGz21 hgz21
           have p105 : 0 ≤ ((ji14) : Int) := of_decide_eq_true (by first | (with_reducible assumption) | assumption)
           have q105 : (ji14) < (s0_0.length : Int) := of_decide_eq_true (by first | (with_reducible assumption) | assumption)
           obtain ⟨ad105, e105, hx105_0⟩ := Kd.at_int HSz21_0 (ji14) p105 q105
           cases e105
           replace hx105_0 := pw_cell_below HB.out hx105_0
           replace p105 := eq_true p105
           replace q105 := eq_true q105
           have p106 : 0 ≤ ((ji17) : Int) := of_decide_eq_true (by first | (with_reducible assumption) | assumption)
           have q106 : (ji17) < (s0_0.length : Int) := of_decide_eq_true (by first | (with_reducible assumption) | assumption)
           obtain ⟨ad106, e106, hx106_0⟩ := Kd.at_int HSz21_0 (ji17) p106 q106
           obtain rfl : ad105 = ad106 := (by injection e106)
           replace hx106_0 := pw_cell_below HB.out hx106_0
           replace p106 := eq_true p106
           replace q106 := eq_true q106
           go_wp2
           repeat (go_quiet (fail); try go_wp2)
           go_ret
           exact ⟨by first | rfl | (simp [errW_none, errW_some] <;> rfl) | (simp only [← hji14, ← hji17]; first | rfl | (simp [errW_none, errW_some] <;> rfl)) | (simp [*, errW_none, errW_some] <;> rfl), is113_ HI0.out, hb113_ HB.out, hkA_ HK.out⟩
         ·rw [if_neg c19] at H
          exact absurd H (by simp)
        ·rw [if_neg c18] at H
         exact absurd H (by simp)
       ·rw [if_neg c16] at H
        exact absurd H (by simp)
      ·rw [if_neg c15] at H
       exact absurd H (by simp)
def spec_l20Rd_bytes.l0 : Nat → Int → List Int → List Int → Int → Option (List Int × Int)
 | 0, _, _, _, _ => none
 | k + 1, x1, x5, x1000, x1001 => if x1 > 0 then ((spec_l20Rd_pick.f k x1000 x1001 3).bind fun bt110 => (if bt110.1 = 0 then ((spec_l20Rd_pick.f k x1000 bt110.2 256).bind fun bt112 => (if x5.length < 140737488355328 then (spec_l20Rd_bytes.l0 k (wrap64 (x1 - 1)) (x5 ++ [(bt112.1) % 256]) x1000 bt112.2) else (none))) else ((spec_l20Rd_pick.f k x1000 bt110.2 3).bind fun bt117 => (if x5.length < 140737488355328 then (spec_l20Rd_bytes.l0 k (wrap64 (x1 - 1)) (x5 ++ [(wrap64 (bt117.1 + 97)) % 256]) x1000 bt117.2) else (none))))) else (some (x5, x1001))
def spec_l20Rd_bytes.f (k : Nat) (s0_0 : List Int) (s0_1 : Int) (a1 : Int) : Option (List Int × Int) := spec_l20Rd_bytes.l0 k a1 (([] : List Int)) s0_0 s0_1
theorem spec_l20Rd_bytes.mono_l : ∀ k, (∀ y0 y1 y2 y3, LeO (spec_l20Rd_bytes.l0 k y0 y1 y2 y3) (spec_l20Rd_bytes.l0 (k + 1) y0 y1 y2 y3))
 | 0 => fun _ _ _ _ r h => by simp [spec_l20Rd_bytes.l0] at h
 | k + 1 => by
  have ih0 := spec_l20Rd_bytes.mono_l k
  ·intro y0 y1 y2 y3
   unfold spec_l20Rd_bytes.l0
   repeat' first | (with_reducible first | apply ih0 | apply spec_l20Rd_pick.mono | exact LeO.refl _ | exact LeO.none _ | refine LeO.ite ?_ ?_ | refine LeO.bind ?_ fun _ => ?_) | apply ih0 | apply spec_l20Rd_pick.mono | exact LeO.none _ | refine LeO.ite ?_ ?_ | refine LeO.bind ?_ fun _ => ?_
theorem spec_l20Rd_bytes.mono : ∀ a0 a1 a2 k, LeO (spec_l20Rd_bytes.f k a0 a1 a2) (spec_l20Rd_bytes.f (k + 1) a0 a1 a2) := by
 intro a0 a1 a2 k
 have ih0 := spec_l20Rd_bytes.mono_l k
 unfold spec_l20Rd_bytes.f
 repeat' first | (with_reducible first | apply ih0 | apply spec_l20Rd_pick.mono | exact LeO.refl _ | exact LeO.none _ | refine LeO.ite ?_ ?_ | refine LeO.bind ?_ fun _ => ?_) | apply ih0 | apply spec_l20Rd_pick.mono | exact LeO.none _ | refine LeO.ite ?_ ?_ | refine LeO.bind ?_ fun _ => ?_
set_option maxHeartbeats 8000000 in
set_option maxRecDepth 100000 in
theorem spec_l20Rd_bytes.calls (k : Nat) (g : Nat) (s0_0 : List Int) (s0_1 : Int) (a1 : Int) (r1 : List Int) (r2 : Int) (w0 w : World) (hI : IsS113 w0 w g s0_0 s0_1) (hB : Below w0.heap.size w0 w) (h : spec_l20Rd_bytes.f k s0_0 s0_1 a1 = some (r1, r2)) :
  Calls Try.prog 75 #[.pointer (some ⟨g, 0, none⟩), .int .i64 a1] w fun e w' => ∃ v0_ : Value, e = .returned (v0_) ∧ Kd.R (Kd.int .u8) 5 w' w.heap.size (fun _ => True) v0_ r1 ∧ IsS113 w0 w' g s0_0 r2 ∧ Below w0.heap.size w0 w' ∧ KeepBut w w' g none := by
 have HI0 := Aside0.mk hI
 have HK := Aside0.mk (KeepBut.refl w g none)
 have HL := Aside0.mk hB.size; clear hI; have HW0 := Aside0.mk hB.size; have HB := Aside0.mk hB; clear hB
 have H : (spec_l20Rd_bytes.l0 k a1 (([] : List Int)) s0_0 s0_1) = some (r1, r2) := h
 clear h
 obtain ⟨y107, hy107⟩ : ∃ y_ : List Int, y_ = (([] : List Int)) := ⟨_, rfl⟩
 (first | replace H := sb_ hy107 H | rw [← hy107] at H)
 have Ny107 := Aside0.mk hy107; clear hy107
 have H' := Aside0.mk H
 clear H
 go_enter Try.func75, Try.ntmps75
 go_wp2_with (first | ((with_reducible refine gate_dst (N := 6) rfl ?_); refine Kd.R_lit (Kd.int .u8) _ 5 ?hg (N := 6) ?hd (xs := ([] : List Int)) (inner := []) (ok := fun _ => True) (okp := fun _ => True) ?hr ?hp (fun _ hk => hk) trivial (Below.refl _ _) (Nat.le_refl _) (by simp) ?_; (case hd => rfl); (case hg => rfl); (case hr => first | (go_simp; done) | (go_simp; rfl)); (case hp => exact (Reps.none _ _)); intro v108 w3 ho4 hb hg_ hnew_; clear hg_ hnew_; (first | rw [← Ny107.out] at ho4 | (simp only [Int.reduceToNat] at ho4; rw [← Ny107.out] at ho4)); have HO109 := Aside0.mk (Kd.R_lower ho4 (keep_size (w := w) (g := g) (row := none) (hkA_ HK.out))); replace HI0 := (ib113_ HI0 hb); replace HK := (kw_ HK hb); replace HB := (bs113_ HB hb); clear hb ho4))
 go_loopg [1, 5] k (fun kq v1 v5 w' => ∃ (x1_1 : Int) (x5_1 : List Int) (x1001_1 : Int), v1 = .int .i64 x1_1 ∧ Aside0 (spec_l20Rd_bytes.l0 kq x1_1 x5_1 s0_0 x1001_1 = some (r1, r2)) ∧ Aside0 (kq ≤ k) ∧ Aside0 (Kd.R (Kd.int .u8) 5 w' w.heap.size (fun _ => True) v5 x5_1) ∧ Aside0 (IsS113 w0 w' g s0_0 x1001_1) ∧ Aside0 (KeepBut w w' g none) ∧ Aside0 (Below w0.heap.size w0 w'))
 case atStart => exact ⟨(a1), (y107), (s0_1), (by first | rfl | (simp; done) | (simp [*]; done)), H', ⟨Nat.le_refl _⟩, ⟨kR_ HO109.out⟩, ⟨is113_ HI0.out⟩, ⟨hkA_ HK.out⟩, ⟨hb113_ HB.out⟩⟩
 case round =>
  clear H'; (try clear p2)
  obtain ⟨x1_1, x5_1, x1001_1, rfl, HA, HK1, HO_5, HI0, HK, HB⟩ := hrel
  cases gk with
  | zero => exact absurd HA.out (by simp [spec_l20Rd_bytes.l0])
  | succ k1 =>
   have H := HA.out; clear HA
   simp only [spec_l20Rd_bytes.l0] at H
   by_cases c5 : x1_1 > 0
   ·rw [if_pos c5] at H
    have c5b0 : decide (0 < x1_1) = true := decide_eq_true c5
    clear c5
    replace H := Option.bind_eq_some_iff.mp H
    obtain ⟨⟨t110, t111⟩, A60, H⟩ := H
    (try dsimp only at H)
    have A6 := Aside0.mk A60; clear A60
    by_cases c7 : t110 = 0
    ·rw [if_pos c7] at H
     have c7b0 : (t110 == 0) = true := beq_iff_eq.mpr c7
     have c7b1 : (t110 != 0) = false := bne_eq_false_iff_eq.mpr c7
     clear c7
     replace H := Option.bind_eq_some_iff.mp H
     obtain ⟨⟨t112, t113⟩, A80, H⟩ := H
     (try dsimp only at H)
     have A8 := Aside0.mk A80; clear A80
     by_cases c9 : x5_1.length < 140737488355328
     ·rw [if_pos c9] at H
      have LMc9 := Aside0.mk c9; clear c9
      obtain ⟨y114, hy114⟩ : ∃ y_ : List Int, y_ = (x5_1 ++ [(t112) % 256]) := ⟨_, rfl⟩
      (first | replace H := sb_ hy114 H | rw [← hy114] at H)
      have Ny114 := Aside0.mk hy114; clear hy114
      have H' := Aside0.mk H
      clear H
      go_wp2_with (first | ((with_reducible refine gate_callee (f := 54) rfl ?_); refine goesL_ (some 12) rfl rfl Try.func54 (by kernel_rfl) rfl #[.pointer (some ⟨g, 0, none⟩), .int .i64 3] rfl ar_ ?_; (with_reducible refine (spec_l20Rd_pick.calls k1 g s0_0 x1001_1 3 t110 t111 w0 _ ?side1 ?side2 A6.out).mono ?_); (case side1 => exact is113_ HI0.out); (case side2 => exact hb113_ HB.out); rintro e w10 ⟨rfl, hi, hb, hk⟩; refine ⟨_, rfl, ?_⟩; replace HO_5 := (rk113_ HI0 HO_5 hk); replace HK := (kk_ HK hk); replace HB := Aside0.mk (hb); replace HI0 := Aside0.mk (hi); (try clear hb); (try clear hb2); (try clear hk); (try clear hi)) | ((with_reducible refine gate_callee (f := 54) rfl ?_); refine goesL_ (some 16) rfl rfl Try.func54 (by kernel_rfl) rfl #[.pointer (some ⟨g, 0, none⟩), .int .i64 256] rfl ar_ ?_; (with_reducible refine (spec_l20Rd_pick.calls k1 g s0_0 t111 256 t112 t113 w0 _ ?side1 ?side2 A8.out).mono ?_); (case side1 => exact is113_ HI0.out); (case side2 => exact hb113_ HB.out); rintro e w11 ⟨rfl, hi, hb, hk⟩; refine ⟨_, rfl, ?_⟩; replace HO_5 := (rk113_ HI0 HO_5 hk); replace HK := (kk_ HK hk); replace HB := Aside0.mk (hb); replace HI0 := Aside0.mk (hi); (try clear hb); (try clear hb2); (try clear hk); (try clear hi)) | ((with_reducible refine gate_builtin (b := .append) (xs := #[.tmp 14, .tmp 18]) rfl ?_); at_builtin; refine Kd.R_append (Kd.int .u8) w.heap.size rfl (.tmp 14) (.tmp 18) 22 5 (.int .u8 0) 1 rfl Try.underlying22 info5 rfl (by decide) (by omega) u5 x5_1 ((t112) % 256) [.int .u8 ((t112) % 256)] (fun _ => True) (fun _ => False) rfl rfl ?aP (fun _ hk => hk.elim) ?aF ?aO (Below.refl _ _) ?aS ?aL ?_; (case aP => exact rfl); (case aF => exact (fun _ _ => trivial)); (case aO => exact (kR_ HO_5.out)); (case aS => exact (keep_size (w := w) (g := g) (row := none) (hkA_ HK.out))); (case aL => have := LMc9.out; omega); intro v115 w12 ho hb hg hat; rw [← Ny114.out] at ho; replace HI0 := Aside0.mk (IsS113.grown (is113_ HI0.out) hg (IsS113.own_ne HI0.out HO_5.out (by decide))); replace HB := Aside0.mk (below_weaken (hb113_ HB.out) HL.out hb); replace HK := Aside0.mk (KeepBut.trans (hkA_ HK.out) (KeepBut.of_grown hg g) (Kd.R_base2 HO_5.out)); have HO116 := Aside0.mk (ho); clear HO_5; clear ho hb hg hat))
      go_roundg k1
      case measure => have := HK1.out; omega
      case rel => exact ⟨(wrap64 (x1_1 - 1)), (y114), (t113), (by first | rfl | (simp; done) | (simp [*]; done)), H', ⟨by have := HK1.out; omega⟩, ⟨kR_ HO116.out⟩, ⟨is113_ HI0.out⟩, ⟨hkA_ HK.out⟩, ⟨hb113_ HB.out⟩⟩
     ·rw [if_neg c9] at H
      exact absurd H (by simp)
    ·rw [if_neg c7] at H
     have c7b0 : (t110 == 0) = false := beq_eq_false_iff_ne.mpr c7
     have c7b1 : (t110 != 0) = true := bne_iff_ne.mpr c7
     replace H := Option.bind_eq_some_iff.mp H
     obtain ⟨⟨t117, t118⟩, A130, H⟩ := H
     (try dsimp only at H)
     have A13 := Aside0.mk A130; clear A130
     by_cases c14 : x5_1.length < 140737488355328
     ·rw [if_pos c14] at H
      have LMc14 := Aside0.mk c14; clear c14
      obtain ⟨y119, hy119⟩ : ∃ y_ : List Int, y_ = (x5_1 ++ [(wrap64 (t117 + 97)) % 256]) := ⟨_, rfl⟩
      (first | replace H := sb_ hy119 H | rw [← hy119] at H)
      have Ny119 := Aside0.mk hy119; clear hy119
      have H' := Aside0.mk H
      clear H
      go_wp2_with (first | ((with_reducible refine gate_callee (f := 54) rfl ?_); refine goesL_ (some 12) rfl rfl Try.func54 (by kernel_rfl) rfl #[.pointer (some ⟨g, 0, none⟩), .int .i64 3] rfl ar_ ?_; (with_reducible refine (spec_l20Rd_pick.calls k1 g s0_0 x1001_1 3 t110 t111 w0 _ ?side1 ?side2 A6.out).mono ?_); (case side1 => exact is113_ HI0.out); (case side2 => exact hb113_ HB.out); rintro e w15 ⟨rfl, hi, hb, hk⟩; refine ⟨_, rfl, ?_⟩; replace HO_5 := (rk113_ HI0 HO_5 hk); replace HK := (kk_ HK hk); replace HB := Aside0.mk (hb); replace HI0 := Aside0.mk (hi); (try clear hb); (try clear hb2); (try clear hk); (try clear hi)) | ((with_reducible refine gate_callee (f := 54) rfl ?_); refine goesL_ (some 22) rfl rfl Try.func54 (by kernel_rfl) rfl #[.pointer (some ⟨g, 0, none⟩), .int .i64 3] rfl ar_ ?_; (with_reducible refine (spec_l20Rd_pick.calls k1 g s0_0 t111 3 t117 t118 w0 _ ?side1 ?side2 A13.out).mono ?_); (case side1 => exact is113_ HI0.out); (case side2 => exact hb113_ HB.out); rintro e w16 ⟨rfl, hi, hb, hk⟩; refine ⟨_, rfl, ?_⟩; replace HO_5 := (rk113_ HI0 HO_5 hk); replace HK := (kk_ HK hk); replace HB := Aside0.mk (hb); replace HI0 := Aside0.mk (hi); (try clear hb); (try clear hb2); (try clear hk); (try clear hi)) | ((with_reducible refine gate_builtin (b := .append) (xs := #[.tmp 20, .tmp 25]) rfl ?_); at_builtin; refine Kd.R_append (Kd.int .u8) w.heap.size rfl (.tmp 20) (.tmp 25) 22 5 (.int .u8 0) 1 rfl Try.underlying22 info5 rfl (by decide) (by omega) u5 x5_1 ((wrap64 (t117 + 97)) % 256) [.int .u8 ((wrap64 (t117 + 97)) % 256)] (fun _ => True) (fun _ => False) rfl rfl ?aP (fun _ hk => hk.elim) ?aF ?aO (Below.refl _ _) ?aS ?aL ?_; (case aP => exact rfl); (case aF => exact (fun _ _ => trivial)); (case aO => exact (kR_ HO_5.out)); (case aS => exact (keep_size (w := w) (g := g) (row := none) (hkA_ HK.out))); (case aL => have := LMc14.out; omega); intro v120 w17 ho hb hg hat; rw [← Ny119.out] at ho; replace HI0 := Aside0.mk (IsS113.grown (is113_ HI0.out) hg (IsS113.own_ne HI0.out HO_5.out (by decide))); replace HB := Aside0.mk (below_weaken (hb113_ HB.out) HL.out hb); replace HK := Aside0.mk (KeepBut.trans (hkA_ HK.out) (KeepBut.of_grown hg g) (Kd.R_base2 HO_5.out)); have HO121 := Aside0.mk (ho); clear HO_5; clear ho hb hg hat))
      go_roundg k1
      case measure => have := HK1.out; omega
      case rel => exact ⟨(wrap64 (x1_1 - 1)), (y119), (t118), (by first | rfl | (simp; done) | (simp [*]; done)), H', ⟨by have := HK1.out; omega⟩, ⟨kR_ HO121.out⟩, ⟨is113_ HI0.out⟩, ⟨hkA_ HK.out⟩, ⟨hb113_ HB.out⟩⟩
     ·rw [if_neg c14] at H
      exact absurd H (by simp)
   ·rw [if_neg c5] at H
    have c5b0 : decide (0 < x1_1) = false := decide_eq_false c5
    clear c5
    simp only [Option.some.injEq, Prod.mk.injEq] at H
    obtain ⟨rfl, rfl⟩ := H
    go_wp2
    go_ret
    exact ⟨_, by first | rfl | (simp [errW_none, errW_some] <;> rfl) | (simp [*, errW_none, errW_some] <;> rfl), kR_ HO_5.out, is113_ HI0.out, hb113_ HB.out, hkA_ HK.out⟩
def spec_l20Rd_odd.f (k : Nat) (s0_0 : List Int) (s0_1 : Int) (a1 : Int) : Option (Bool × Int) := if a1 > 0 then ((spec_l20Rd_pick.f k s0_0 s0_1 a1).bind fun bt122 => (some ((bt122.1 == (wrap64 (a1 - 1))), bt122.2))) else (some (false, s0_1))
theorem spec_l20Rd_odd.mono : ∀ a0 a1 a2 k, LeO (spec_l20Rd_odd.f k a0 a1 a2) (spec_l20Rd_odd.f (k + 1) a0 a1 a2) := by
 intro a0 a1 a2 k
 unfold spec_l20Rd_odd.f
 repeat' first | (with_reducible first | apply spec_l20Rd_pick.mono | exact LeO.refl _ | exact LeO.none _ | refine LeO.ite ?_ ?_ | refine LeO.bind ?_ fun _ => ?_) | apply spec_l20Rd_pick.mono | exact LeO.none _ | refine LeO.ite ?_ ?_ | refine LeO.bind ?_ fun _ => ?_
set_option maxHeartbeats 8000000 in
set_option maxRecDepth 100000 in
theorem spec_l20Rd_odd.calls (k : Nat) (g : Nat) (s0_0 : List Int) (s0_1 : Int) (a1 : Int) (r1 : Bool) (r2 : Int) (w0 w : World) (hI : IsS113 w0 w g s0_0 s0_1) (hB : Below w0.heap.size w0 w) (h : spec_l20Rd_odd.f k s0_0 s0_1 a1 = some (r1, r2)) :
  Calls Try.prog 90 #[.pointer (some ⟨g, 0, none⟩), .int .i64 a1] w fun e w' => e = .returned (.bool r1) ∧ IsS113 w0 w' g s0_0 r2 ∧ Below w0.heap.size w0 w' ∧ KeepBut w w' g none := by
 have HI0 := Aside0.mk hI
 have HK := Aside0.mk (KeepBut.refl w g none)
 have HL := Aside0.mk hB.size; clear hI; have HW0 := Aside0.mk hB.size; have HB := Aside0.mk hB; clear hB
 have H : (if a1 > 0 then ((spec_l20Rd_pick.f k s0_0 s0_1 a1).bind fun bt122 => (some ((bt122.1 == (wrap64 (a1 - 1))), bt122.2))) else (some (false, s0_1))) = some (r1, r2) := h
 clear h
 by_cases c3 : a1 > 0
 ·rw [if_pos c3] at H
  have c3b0 : decide (0 < a1) = true := decide_eq_true c3
  clear c3
  replace H := Option.bind_eq_some_iff.mp H
  obtain ⟨⟨t122, t123⟩, A40, H⟩ := H
  (try dsimp only at H)
  have A4 := Aside0.mk A40; clear A40
  simp only [Option.some.injEq, Prod.mk.injEq] at H
  obtain ⟨rfl, rfl⟩ := H
  go_enter Try.func90, Try.ntmps90
  go_wp2_with (first | (go_at_call 54; (with_reducible refine (spec_l20Rd_pick.calls k g s0_0 s0_1 a1 t122 t123 w0 _ ?side1 ?side2 A4.out).mono ?_); (case side1 => exact is113_ HI0.out); (case side2 => exact hb113_ HB.out); rintro e w5 ⟨rfl, hi, hb, hk⟩; replace HK := (kk_ HK hk); replace HB := Aside0.mk (hb); replace HI0 := Aside0.mk (hi); (try clear hb); (try clear hb2); (try clear hk); (try clear hi)))
  go_ret
  exact ⟨by first | rfl | (simp [errW_none, errW_some] <;> rfl) | (simp [*, errW_none, errW_some] <;> rfl), is113_ HI0.out, hb113_ HB.out, hkA_ HK.out⟩
 ·rw [if_neg c3] at H
  have c3b0 : decide (0 < a1) = false := decide_eq_false c3
  clear c3
  simp only [Option.some.injEq, Prod.mk.injEq] at H
  obtain ⟨rfl, rfl⟩ := H
  go_enter Try.func90, Try.ntmps90
  go_wp2
  go_ret
  exact ⟨by first | rfl | (simp [errW_none, errW_some] <;> rfl) | (simp [*, errW_none, errW_some] <;> rfl), is113_ HI0.out, hb113_ HB.out, hkA_ HK.out⟩
def spec_l20Packet.j0 : Nat → Int → List Int → Int → Int → Int → Int → Int → Int → Int → Bool → Bool → List Int → Option (Int × Int × Int × Int × Int × Int × Bool × Bool × List Int × Int)
 | 0, _, _, _, _, _, _, _, _, _, _, _, _ => none
 | k + 1, x1, x1000, x1001, x142000, x142001, x142002, x142003, x142004, x142005, x142006, x142007, x142008 => (spec_l20Rd_odd.f k x1000 x1001 x1).bind fun bt148 => (if bt148.1 = true then ((spec_l20Rd_pick.f k x1000 bt148.2 5).bind fun bt150 => (if bt150.1 = 0 then ((spec_l20Rd_pick.f k x1000 bt150.2 2).bind fun bt152 => (some (x142000, wrap64 (65536 - (wrap64 (bt152.1 * 65540))), x142002, x142003, x142004, x142005, x142006, x142007, x142008, bt152.2))) else (if bt150.1 = 1 then ((spec_l20Rd_pick.f k x1000 bt150.2 2).bind fun bt154 => (some (x142000, x142001, x142002, wrap64 (256 - (wrap64 (bt154.1 * 300))), x142004, x142005, x142006, x142007, x142008, bt154.2))) else (if bt150.1 = 2 then (if 49 ≤ 281474976710656 then (some (x142000, x142001, x142002, x142003, x142004, x142005, x142006, x142007, (List.replicate 49 0), bt150.2)) else (none)) else (if bt150.1 = 3 then (some (x142000, x142001, x142002, x142003, x142004, x142005, true, x142007, ([] : List Int), bt150.2)) else (some (x142000, x142001, x142002, x142003, x142004, 3, x142006, true, x142008, bt150.2))))))) else (some (x142000, x142001, x142002, x142003, x142004, x142005, x142006, x142007, x142008, bt148.2)))
def spec_l20Packet.f (k : Nat) (s0_0 : List Int) (s0_1 : Int) (a1 : Int) : Option (Int × Int × Int × Int × Int × Int × Bool × Bool × List Int × Int) := (spec_l20Rd_pick.f k s0_0 s0_1 5).bind fun bt125 => ((spec_l20Rd_pick.f k s0_0 bt125.2 5).bind fun bt127 => ((spec_l20Rd_pick.f k s0_0 bt127.2 4).bind fun bt129 => ((spec_l20Rd_pick.f k s0_0 bt129.2 6).bind fun bt131 => ((spec_l20Rd_pick.f k s0_0 bt131.2 4).bind fun bt133 => ((spec_l20Rd_pick.f k s0_0 bt133.2 12).bind fun bt135 => ((spec_l20Rd_bytes.f k s0_0 bt135.2 bt135.1).bind fun bt137 => ((spec_l20Rd_pick.f k s0_0 bt137.2 4).bind fun bt142 => (if bt142.1 = 0 then (spec_l20Packet.j0 k a1 s0_0 bt142.2 bt125.1 bt127.1 bt129.1 bt131.1 bt133.1 0 false true bt137.1) else (if bt142.1 = 1 then ((spec_l20Rd_pick.f k s0_0 bt142.2 20).bind fun bt144 => (if (bt137.1.length : Int) > 0 then ((spec_l20Rd_pick.f k s0_0 bt144.2 2).bind fun bt146 => (spec_l20Packet.j0 k a1 s0_0 bt146.2 bt125.1 bt127.1 bt129.1 bt131.1 bt133.1 bt144.1 (bt146.1 == 0) false bt137.1)) else (spec_l20Packet.j0 k a1 s0_0 bt144.2 bt125.1 bt127.1 bt129.1 bt131.1 bt133.1 bt144.1 false false bt137.1))) else (spec_l20Packet.j0 k a1 s0_0 bt142.2 bt125.1 bt127.1 bt129.1 bt131.1 bt133.1 0 false false bt137.1))))))))))
theorem spec_l20Packet.mono_l : ∀ k, (∀ y0 y1 y2 y3 y4 y5 y6 y7 y8 y9 y10 y11, LeO (spec_l20Packet.j0 k y0 y1 y2 y3 y4 y5 y6 y7 y8 y9 y10 y11) (spec_l20Packet.j0 (k + 1) y0 y1 y2 y3 y4 y5 y6 y7 y8 y9 y10 y11))
 | 0 => fun _ _ _ _ _ _ _ _ _ _ _ _ r h => by simp [spec_l20Packet.j0] at h
 | k + 1 => by
  have ih0 := spec_l20Packet.mono_l k
  ·intro y0 y1 y2 y3 y4 y5 y6 y7 y8 y9 y10 y11
   unfold spec_l20Packet.j0
   repeat' first | (with_reducible first | apply ih0 | apply spec_l20Rd_bytes.mono | apply spec_l20Rd_odd.mono | apply spec_l20Rd_pick.mono | exact LeO.refl _ | exact LeO.none _ | refine LeO.ite ?_ ?_ | refine LeO.bind ?_ fun _ => ?_) | apply ih0 | apply spec_l20Rd_bytes.mono | apply spec_l20Rd_odd.mono | apply spec_l20Rd_pick.mono | exact LeO.none _ | refine LeO.ite ?_ ?_ | refine LeO.bind ?_ fun _ => ?_
theorem spec_l20Packet.mono : ∀ a0 a1 a2 k, LeO (spec_l20Packet.f k a0 a1 a2) (spec_l20Packet.f (k + 1) a0 a1 a2) := by
 intro a0 a1 a2 k
 have ih0 := spec_l20Packet.mono_l k
 unfold spec_l20Packet.f
 repeat' first | (with_reducible first | apply ih0 | apply spec_l20Rd_bytes.mono | apply spec_l20Rd_odd.mono | apply spec_l20Rd_pick.mono | exact LeO.refl _ | exact LeO.none _ | refine LeO.ite ?_ ?_ | refine LeO.bind ?_ fun _ => ?_) | apply ih0 | apply spec_l20Rd_bytes.mono | apply spec_l20Rd_odd.mono | apply spec_l20Rd_pick.mono | exact LeO.none _ | refine LeO.ite ?_ ?_ | refine LeO.bind ?_ fun _ => ?_
set_option maxHeartbeats 8000000 in
set_option maxRecDepth 100000 in
theorem spec_l20Packet.calls (k : Nat) (g : Nat) (s0_0 : List Int) (s0_1 : Int) (a1 : Int) (r1 : Int) (r2 : Int) (r3 : Int) (r4 : Int) (r5 : Int) (r6 : Int) (r7 : Bool) (r8 : Bool) (r9 : List Int) (r10 : Int) (w0 w : World) (hI : IsS113 w0 w g s0_0 s0_1) (hB : Below w0.heap.size w0 w) (h : spec_l20Packet.f k s0_0 s0_1 a1 = some (r1, r2, r3, r4, r5, r6, r7, r8, r9, r10)) :
  Calls Try.prog 53 #[.pointer (some ⟨g, 0, none⟩), .int .i64 a1] w fun e w' => ∃ v8_ : Value, e = .returned (.agg #[.int .i64 r1, .int .i64 r2, .int .i64 r3, .int .i64 r4, .int .i64 r5, .int .i64 r6, .bool r7, .bool r8, v8_]) ∧ Kd.R (Kd.int .u8) 5 w' w.heap.size (fun _ => True) v8_ r9 ∧ IsS113 w0 w' g s0_0 r10 ∧ Below w0.heap.size w0 w' ∧ KeepBut w w' g none := by
 have hu24 := Try.underlying24; have HI0 := Aside0.mk hI
 have HK := Aside0.mk (KeepBut.refl w g none)
 have HL := Aside0.mk hB.size; clear hI; have HW0 := Aside0.mk hB.size; have HB := Aside0.mk hB; clear hB
 have H : ((spec_l20Rd_pick.f k s0_0 s0_1 5).bind fun bt125 => ((spec_l20Rd_pick.f k s0_0 bt125.2 5).bind fun bt127 => ((spec_l20Rd_pick.f k s0_0 bt127.2 4).bind fun bt129 => ((spec_l20Rd_pick.f k s0_0 bt129.2 6).bind fun bt131 => ((spec_l20Rd_pick.f k s0_0 bt131.2 4).bind fun bt133 => ((spec_l20Rd_pick.f k s0_0 bt133.2 12).bind fun bt135 => ((spec_l20Rd_bytes.f k s0_0 bt135.2 bt135.1).bind fun bt137 => ((spec_l20Rd_pick.f k s0_0 bt137.2 4).bind fun bt142 => (if bt142.1 = 0 then (spec_l20Packet.j0 k a1 s0_0 bt142.2 bt125.1 bt127.1 bt129.1 bt131.1 bt133.1 0 false true bt137.1) else (if bt142.1 = 1 then ((spec_l20Rd_pick.f k s0_0 bt142.2 20).bind fun bt144 => (if (bt137.1.length : Int) > 0 then ((spec_l20Rd_pick.f k s0_0 bt144.2 2).bind fun bt146 => (spec_l20Packet.j0 k a1 s0_0 bt146.2 bt125.1 bt127.1 bt129.1 bt131.1 bt133.1 bt144.1 (bt146.1 == 0) false bt137.1)) else (spec_l20Packet.j0 k a1 s0_0 bt144.2 bt125.1 bt127.1 bt129.1 bt131.1 bt133.1 bt144.1 false false bt137.1))) else (spec_l20Packet.j0 k a1 s0_0 bt142.2 bt125.1 bt127.1 bt129.1 bt131.1 bt133.1 0 false false bt137.1))))))))))) = some (r1, r2, r3, r4, r5, r6, r7, r8, r9, r10) := h
 clear h
 replace H := Option.bind_eq_some_iff.mp H
 obtain ⟨⟨t125, t126⟩, A30, H⟩ := H
 (try dsimp only at H)
 have A3 := Aside0.mk A30; clear A30
 replace H := Option.bind_eq_some_iff.mp H
 obtain ⟨⟨t127, t128⟩, A40, H⟩ := H
 (try dsimp only at H)
 have A4 := Aside0.mk A40; clear A40
 replace H := Option.bind_eq_some_iff.mp H
 obtain ⟨⟨t129, t130⟩, A50, H⟩ := H
 (try dsimp only at H)
 have A5 := Aside0.mk A50; clear A50
 replace H := Option.bind_eq_some_iff.mp H
 obtain ⟨⟨t131, t132⟩, A60, H⟩ := H
 (try dsimp only at H)
 have A6 := Aside0.mk A60; clear A60
 replace H := Option.bind_eq_some_iff.mp H
 obtain ⟨⟨t133, t134⟩, A70, H⟩ := H
 (try dsimp only at H)
 have A7 := Aside0.mk A70; clear A70
 replace H := Option.bind_eq_some_iff.mp H
 obtain ⟨⟨t135, t136⟩, A80, H⟩ := H
 (try dsimp only at H)
 have A8 := Aside0.mk A80; clear A80
 replace H := Option.bind_eq_some_iff.mp H
 obtain ⟨⟨t137, t140⟩, A90, H⟩ := H
 (try dsimp only at H)
 have A9 := Aside0.mk A90; clear A90
 replace H := Option.bind_eq_some_iff.mp H
 obtain ⟨⟨t142, t143⟩, A100, H⟩ := H
 (try dsimp only at H)
 have A10 := Aside0.mk A100; clear A100; have HC11 := Aside0.mk H; clear H
 go_enter Try.func53, Try.ntmps53
 go_upto_block 0 with (first | ((with_reducible refine gate_dst (N := 4) rfl ?_); refine box_ (N := 4) (cs := #[.int .i64 0, .int .i64 0, .int .i64 0, .int .i64 0, .int .i64 0, .int .i64 0, .bool false, .bool false, .slice none 0 0]) (t := 24) (fun gb124 hg w12 hbox hb => ?_); replace HB := (bs113_ HB hb); have BK124 := Aside0.mk (hbox); have GW124 := gk_ hg HK; have GE124 := Aside0.mk ((Nat.le_trans HW0.out (by rw [hg]; exact (keep_size (w := w) (g := g) (row := none) (hkA_ HK.out)) : w.heap.size ≤ gb124) : w0.heap.size ≤ gb124)); replace HK := (kw_ HK hb); have NB0_124 := nl113_ hg HI0; have NB124_0 := ng113_ hg HI0; replace HI0 := (ib113_ HI0 hb); clear hb hbox hg) | ((with_reducible refine gate_callee (f := 54) rfl ?_); refine goesL_ (some 7) rfl rfl Try.func54 (by kernel_rfl) rfl #[.pointer (some ⟨g, 0, none⟩), .int .i64 5] rfl ar_ ?_; (with_reducible refine (spec_l20Rd_pick.calls k g s0_0 s0_1 5 t125 t126 w0 _ ?side1 ?side2 A3.out).mono ?_); (case side1 => exact is113_ HI0.out); (case side2 => exact hb113_ HB.out); rintro e w13 ⟨rfl, hi, hb, hk⟩; refine ⟨_, rfl, ?_⟩; replace BK124 := (bkA_ BK124 hk NB124_0); replace HK := (kk_ HK hk); replace HB := Aside0.mk (hb); replace HI0 := Aside0.mk (hi); (try clear hb); (try clear hb2); (try clear hk); (try clear hi)) | ((with_reducible refine gate_callee (f := 54) rfl ?_); refine goesL_ (some 9) rfl rfl Try.func54 (by kernel_rfl) rfl #[.pointer (some ⟨g, 0, none⟩), .int .i64 5] rfl ar_ ?_; (with_reducible refine (spec_l20Rd_pick.calls k g s0_0 t126 5 t127 t128 w0 _ ?side1 ?side2 A4.out).mono ?_); (case side1 => exact is113_ HI0.out); (case side2 => exact hb113_ HB.out); rintro e w14 ⟨rfl, hi, hb, hk⟩; refine ⟨_, rfl, ?_⟩; replace BK124 := (bkA_ BK124 hk NB124_0); replace HK := (kk_ HK hk); replace HB := Aside0.mk (hb); replace HI0 := Aside0.mk (hi); (try clear hb); (try clear hb2); (try clear hk); (try clear hi)) | ((with_reducible refine gate_callee (f := 54) rfl ?_); refine goesL_ (some 11) rfl rfl Try.func54 (by kernel_rfl) rfl #[.pointer (some ⟨g, 0, none⟩), .int .i64 4] rfl ar_ ?_; (with_reducible refine (spec_l20Rd_pick.calls k g s0_0 t128 4 t129 t130 w0 _ ?side1 ?side2 A5.out).mono ?_); (case side1 => exact is113_ HI0.out); (case side2 => exact hb113_ HB.out); rintro e w15 ⟨rfl, hi, hb, hk⟩; refine ⟨_, rfl, ?_⟩; replace BK124 := (bkA_ BK124 hk NB124_0); replace HK := (kk_ HK hk); replace HB := Aside0.mk (hb); replace HI0 := Aside0.mk (hi); (try clear hb); (try clear hb2); (try clear hk); (try clear hi)) | ((with_reducible refine gate_callee (f := 54) rfl ?_); refine goesL_ (some 13) rfl rfl Try.func54 (by kernel_rfl) rfl #[.pointer (some ⟨g, 0, none⟩), .int .i64 6] rfl ar_ ?_; (with_reducible refine (spec_l20Rd_pick.calls k g s0_0 t130 6 t131 t132 w0 _ ?side1 ?side2 A6.out).mono ?_); (case side1 => exact is113_ HI0.out); (case side2 => exact hb113_ HB.out); rintro e w16 ⟨rfl, hi, hb, hk⟩; refine ⟨_, rfl, ?_⟩; replace BK124 := (bkA_ BK124 hk NB124_0); replace HK := (kk_ HK hk); replace HB := Aside0.mk (hb); replace HI0 := Aside0.mk (hi); (try clear hb); (try clear hb2); (try clear hk); (try clear hi)) | ((with_reducible refine gate_callee (f := 54) rfl ?_); refine goesL_ (some 15) rfl rfl Try.func54 (by kernel_rfl) rfl #[.pointer (some ⟨g, 0, none⟩), .int .i64 4] rfl ar_ ?_; (with_reducible refine (spec_l20Rd_pick.calls k g s0_0 t132 4 t133 t134 w0 _ ?side1 ?side2 A7.out).mono ?_); (case side1 => exact is113_ HI0.out); (case side2 => exact hb113_ HB.out); rintro e w17 ⟨rfl, hi, hb, hk⟩; refine ⟨_, rfl, ?_⟩; replace BK124 := (bkA_ BK124 hk NB124_0); replace HK := (kk_ HK hk); replace HB := Aside0.mk (hb); replace HI0 := Aside0.mk (hi); (try clear hb); (try clear hb2); (try clear hk); (try clear hi)) | ((with_reducible refine gate_callee (f := 54) rfl ?_); refine goesL_ (some 18) rfl rfl Try.func54 (by kernel_rfl) rfl #[.pointer (some ⟨g, 0, none⟩), .int .i64 12] rfl ar_ ?_; (with_reducible refine (spec_l20Rd_pick.calls k g s0_0 t134 12 t135 t136 w0 _ ?side1 ?side2 A8.out).mono ?_); (case side1 => exact is113_ HI0.out); (case side2 => exact hb113_ HB.out); rintro e w18 ⟨rfl, hi, hb, hk⟩; refine ⟨_, rfl, ?_⟩; replace BK124 := (bkA_ BK124 hk NB124_0); replace HK := (kk_ HK hk); replace HB := Aside0.mk (hb); replace HI0 := Aside0.mk (hi); (try clear hb); (try clear hb2); (try clear hk); (try clear hi)) | ((with_reducible refine gate_callee (f := 75) rfl ?_); refine goesL_ (some 19) rfl rfl Try.func75 (by kernel_rfl) rfl #[.pointer (some ⟨g, 0, none⟩), .int .i64 t135] rfl ar_ ?_; (with_reducible refine (spec_l20Rd_bytes.calls k g s0_0 t136 t135 t137 t140 w0 _ ?side1 ?side2 A9.out).mono ?_); (case side1 => exact is113_ HI0.out); (case side2 => exact hb113_ HB.out); rintro e w19 ⟨v138, rfl, ho0, hi, hb, hk⟩; refine ⟨_, rfl, ?_⟩; replace BK124 := (bkA_ BK124 hk NB124_0); have HO139 := Aside0.mk (Kd.R_lower ho0 (keep_size (w := w) (g := g) (row := none) (hkA_ HK.out))); replace HK := (kk_ HK hk); replace HB := Aside0.mk (hb); replace HI0 := Aside0.mk (hi); (try clear hb); (try clear hb2); (try clear hk); (try clear hi); (try clear ho0); obtain ⟨Ao20, co20, eo20⟩ := Kd.R_slice HO139.out; subst eo20) | ((with_reducible refine gate_dst (N := 5) rfl ?_); refine box_ (N := 5) (cs := #[.int .i64 0, .int .i64 0, .int .i64 0, .int .i64 0, .int .i64 0, .int .i64 0, .bool false, .bool false, .slice none 0 0]) (t := 24) (fun gb141 hg w21 hbox hb => ?_); replace HO139 := Aside0.mk (Kd.R_below (kR_ HO139.out) hb); replace HB := (bs113_ HB hb); have BK141 := Aside0.mk (hbox); have GW141 := gk_ hg HK; have GE141 := Aside0.mk ((Nat.le_trans HW0.out (by rw [hg]; exact (keep_size (w := w) (g := g) (row := none) (hkA_ HK.out)) : w.heap.size ≤ gb141) : w0.heap.size ≤ gb141)); replace HK := (kw_ HK hb); have NB124_141 := nl_ hg BK124; have NB141_124 := ng_ hg BK124; replace BK124 := (bbA_ BK124 hb); have NB0_141 := nl113_ hg HI0; have NB141_0 := ng113_ hg HI0; replace HI0 := (ib113_ HI0 hb); clear hb hbox hg; have hnb22 := NB141_124.out; have hnc22 := NB124_141.out; have hnb23 := NB141_0.out; have hnc23 := NB0_141.out; have Z24 := zz9 BK141) | ((with_reducible refine gate_callee (f := 54) rfl ?_); refine goesL_ (some 22) rfl rfl Try.func54 (by kernel_rfl) rfl #[.pointer (some ⟨g, 0, none⟩), .int .i64 4] rfl ar_ ?_; (with_reducible refine (spec_l20Rd_pick.calls k g s0_0 t140 4 t142 t143 w0 _ ?side1 ?side2 A10.out).mono ?_); (case side1 => exact is113_ HI0.out); (case side2 => exact hb113_ HB.out); rintro e w25 ⟨rfl, hi, hb, hk⟩; refine ⟨_, rfl, ?_⟩; replace BK124 := Aside0.mk (KeepBut.blk hk (g' := gb124) (o := .cells #[.int .i64 0, .int .i64 0, .int .i64 0, .int .i64 0, .int .i64 0, .int .i64 0, .bool false, .bool false, .slice none 0 0] 24 (0, 0)) (by exact kf_ BK124.out) NB124_0.out (by simp)); replace HO139 := Aside0.mk (Kd.R_mono (Kd.R_keep (IsS113.apart (show IsS113 w0 _ g s0_0 t140 from is113_ HI0.out) (by refine kR_ ?_; exact (rfm_ ((Kd.R_types HO139.out BK141.out (by decide))) (fun _ h_ => op1_ h_))) (by decide)) hk (fun _ h => h.2)) (fun _ h => h.1)); replace BK141 := Aside0.mk (KeepBut.blk hk (g' := gb141) (o := .cells #[.int .i64 t125, .int .i64 t127, .int .i64 t129, .int .i64 t131, .int .i64 t133, .int .i64 0, .bool false, .bool false, .slice Ao20 t137.length co20] 24 (0, 0)) (by refine kb_ ?_; refine pz9 (cs := #[.int .i64 0, .int .i64 0, .int .i64 0, .int .i64 0, .int .i64 0, .int .i64 0, .bool false, .bool false, .slice none 0 0]) ?_; refine kb_ ?_; exact BK141.out) NB141_0.out (by simp)); replace HK := (kk_ HK hk); replace HB := Aside0.mk (hb); replace HI0 := Aside0.mk (hi); (try clear hb); (try clear hb2); (try clear hk); (try clear hi)))
 (try simp only [Act.put, List.setIfInBounds_toArray, List.set_cons_zero, List.set_cons_succ])
 go_cut [] (fun wc => ∃ (kq : Nat) (x1001_10 : Int) (x142005_10 : Int) (x142006_10 : Bool) (x142007_10 : Bool), Aside0 (spec_l20Packet.j0 kq a1 s0_0 x1001_10 t125 t127 t129 t131 t133 x142005_10 x142006_10 x142007_10 t137 = some (r1, r2, r3, r4, r5, r6, r7, r8, r9, r10)) ∧ Aside0 (kq ≤ k) ∧ Aside0 (Kd.R (Kd.int .u8) 5 wc w.heap.size (fun _ => True) (.slice Ao20 t137.length co20) t137) ∧ Aside0 (wc.heap[gb124]? = some (.cells #[.int .i64 0, .int .i64 0, .int .i64 0, .int .i64 0, .int .i64 0, .int .i64 0, .bool false, .bool false, (.slice none 0 0)] 24 (0, 0))) ∧ Aside0 (wc.heap[gb141]? = some (.cells #[.int .i64 t125, .int .i64 t127, .int .i64 t129, .int .i64 t131, .int .i64 t133, .int .i64 x142005_10, .bool x142006_10, .bool x142007_10, (.slice Ao20 t137.length co20)] 24 (0, 0))) ∧ Aside0 (IsS113 w0 wc g s0_0 x1001_10) ∧ Aside0 (KeepBut w wc g none) ∧ Aside0 (Below w0.heap.size w0 wc))
 case first =>
  have H := HC11.out; clear HC11
  by_cases c26 : t142 = 0
  ·rw [if_pos c26] at H
   have c26b0 : (t142 == 0) = true := beq_iff_eq.mpr c26
   have c26b1 : (t142 != 0) = false := bne_eq_false_iff_eq.mpr c26
   clear c26
   (first | rw [c26b0] | (simp only [i64_w, i32_w]; rw [c26b0]) | skip)
   have H' := Aside0.mk H
   clear H; have hnb27 := NB141_124.out; have hnc27 := NB124_141.out; have hnb28 := NB141_0.out; have hnc28 := NB0_141.out; have Z29 := zz9 BK141
   go_wp2
   go_meet
   case rel => exact ⟨_, (t143), (0), (false), (true), H', ⟨by first | omega | exact Nat.le_refl _⟩, ⟨by refine kR_ ?_; exact Kd.R_mono (Kd.R_f gb141 7 (.bool true) (Kd.R_types HO139.out BK141.out (by decide))) (fun _ hk => trivial)⟩, ⟨by exact kf_ BK124.out⟩, ⟨by refine kb_ ?_; refine blk_put (cs := #[.int .i64 t125, .int .i64 t127, .int .i64 t129, .int .i64 t131, .int .i64 t133, .int .i64 0, .bool false, .bool false, .slice Ao20 t137.length co20]) ?_ 7 _ rfl; refine kb_ ?_; exact BK141.out⟩, ⟨is113_ HI0.out⟩, ⟨hkA_ HK.out⟩, ⟨hb113_ HB.out⟩⟩
  ·rw [if_neg c26] at H
   have c26b0 : (t142 == 0) = false := beq_eq_false_iff_ne.mpr c26
   have c26b1 : (t142 != 0) = true := bne_iff_ne.mpr c26
   (first | rw [c26b0] | (simp only [i64_w, i32_w]; rw [c26b0]) | skip)
   by_cases c30 : t142 = 1
   ·rw [if_pos c30] at H
    have c30b0 : (t142 == 1) = true := beq_iff_eq.mpr c30
    have c30b1 : (t142 != 1) = false := bne_eq_false_iff_eq.mpr c30
    clear c30
    replace H := Option.bind_eq_some_iff.mp H
    obtain ⟨⟨t144, t145⟩, A310, H⟩ := H
    (try dsimp only at H)
    have A31 := Aside0.mk A310; clear A310
    by_cases c32 : (t137.length : Int) > 0
    ·rw [if_pos c32] at H
     have c32b0 : decide (0 < (t137.length : Int)) = true := decide_eq_true c32
     have c32b1 : decide (0 < t137.length) = true := decide_eq_true (by omega)
     clear c32
     replace H := Option.bind_eq_some_iff.mp H
     obtain ⟨⟨t146, t147⟩, A330, H⟩ := H
     (try dsimp only at H)
     have A33 := Aside0.mk A330; clear A330
     have H' := Aside0.mk H
     clear H
     go_wp2_with (first | ((with_reducible refine gate_callee (f := 54) rfl ?_); refine goesL_ (some 29) rfl rfl Try.func54 (by kernel_rfl) rfl #[.pointer (some ⟨g, 0, none⟩), .int .i64 20] rfl ar_ ?_; (with_reducible refine (spec_l20Rd_pick.calls k g s0_0 t143 20 t144 t145 w0 _ ?side1 ?side2 A31.out).mono ?_); (case side1 => exact is113_ HI0.out); (case side2 => exact hb113_ HB.out); rintro e w34 ⟨rfl, hi, hb, hk⟩; refine ⟨_, rfl, ?_⟩; replace BK124 := (bkA_ BK124 hk NB124_0); replace HO139 := (rk113_ HI0 HO139 hk); replace BK141 := (bkA_ BK141 hk NB141_0); replace HK := (kk_ HK hk); replace HB := Aside0.mk (hb); replace HI0 := Aside0.mk (hi); (try clear hb); (try clear hb2); (try clear hk); (try clear hi); have hnb35 := NB141_124.out; have hnc35 := NB124_141.out; have hnb36 := NB141_0.out; have hnc36 := NB0_141.out; have Z37 := zz9 BK141) | (go_at_call 54; (with_reducible refine (spec_l20Rd_pick.calls k g s0_0 t145 2 t146 t147 w0 _ ?side1 ?side2 A33.out).mono ?_); (case side1 => exact is113_ HI0.out); (case side2 => exact hb113_ HB.out); rintro e w38 ⟨rfl, hi, hb, hk⟩; replace BK124 := Aside0.mk (KeepBut.blk hk (g' := gb124) (o := .cells #[.int .i64 0, .int .i64 0, .int .i64 0, .int .i64 0, .int .i64 0, .int .i64 0, .bool false, .bool false, .slice none 0 0] 24 (0, 0)) (by exact kf_ BK124.out) NB124_0.out (by simp)); replace HO139 := Aside0.mk (Kd.R_mono (Kd.R_keep (IsS113.apart (show IsS113 w0 _ g s0_0 t145 from is113_ HI0.out) (by refine kR_ ?_; exact (Kd.R_mono (Kd.R_f gb141 5 (.int .i64 t144) (Kd.R_types HO139.out BK141.out (by decide))) (fun _ h_ => op1_ h_))) (by decide)) hk (fun _ h => h.2)) (fun _ h => h.1)); replace BK141 := Aside0.mk (KeepBut.blk hk (g' := gb141) (o := .cells #[.int .i64 t125, .int .i64 t127, .int .i64 t129, .int .i64 t131, .int .i64 t133, .int .i64 t144, .bool false, .bool false, .slice Ao20 t137.length co20] 24 (0, 0)) (by refine kb_ ?_; refine blk_put (cs := #[.int .i64 t125, .int .i64 t127, .int .i64 t129, .int .i64 t131, .int .i64 t133, .int .i64 0, .bool false, .bool false, .slice Ao20 t137.length co20]) ?_ 5 _ rfl; refine kb_ ?_; exact BK141.out) NB141_0.out (by simp)); replace HK := (kk_ HK hk); replace HB := Aside0.mk (hb); replace HI0 := Aside0.mk (hi); (try clear hb); (try clear hb2); (try clear hk); (try clear hi); have Z39 := zz9 BK141))
     go_meet
     case rel => exact ⟨_, (t147), (t144), ((t146 == 0)), (false), H', ⟨by first | omega | exact Nat.le_refl _⟩, ⟨by refine kR_ ?_; exact Kd.R_mono (Kd.R_f gb141 6 (.bool (t146 == 0)) (Kd.R_types HO139.out BK141.out (by decide))) (fun _ hk => trivial)⟩, ⟨by exact kf_ BK124.out⟩, ⟨by refine kb_ ?_; refine blk_put (cs := #[.int .i64 t125, .int .i64 t127, .int .i64 t129, .int .i64 t131, .int .i64 t133, .int .i64 t144, .bool false, .bool false, .slice Ao20 t137.length co20]) ?_ 6 _ rfl; refine kb_ ?_; exact BK141.out⟩, ⟨is113_ HI0.out⟩, ⟨hkA_ HK.out⟩, ⟨hb113_ HB.out⟩⟩
    ·rw [if_neg c32] at H
     have c32b0 : decide (0 < (t137.length : Int)) = false := decide_eq_false c32
     have c32b1 : decide (0 < t137.length) = false := decide_eq_false (by omega)
     clear c32
     have H' := Aside0.mk H
     clear H
     go_wp2_with (first | ((with_reducible refine gate_callee (f := 54) rfl ?_); refine goesL_ (some 29) rfl rfl Try.func54 (by kernel_rfl) rfl #[.pointer (some ⟨g, 0, none⟩), .int .i64 20] rfl ar_ ?_; (with_reducible refine (spec_l20Rd_pick.calls k g s0_0 t143 20 t144 t145 w0 _ ?side1 ?side2 A31.out).mono ?_); (case side1 => exact is113_ HI0.out); (case side2 => exact hb113_ HB.out); rintro e w40 ⟨rfl, hi, hb, hk⟩; refine ⟨_, rfl, ?_⟩; replace BK124 := (bkA_ BK124 hk NB124_0); replace HO139 := (rk113_ HI0 HO139 hk); replace BK141 := (bkA_ BK141 hk NB141_0); replace HK := (kk_ HK hk); replace HB := Aside0.mk (hb); replace HI0 := Aside0.mk (hi); (try clear hb); (try clear hb2); (try clear hk); (try clear hi); have hnb41 := NB141_124.out; have hnc41 := NB124_141.out; have hnb42 := NB141_0.out; have hnc42 := NB0_141.out; have Z43 := zz9 BK141))
     go_meet
     case rel => exact ⟨_, (t145), (t144), (false), (false), H', ⟨by first | omega | exact Nat.le_refl _⟩, ⟨by refine kR_ ?_; exact rfm_ ((Kd.R_types HO139.out BK141.out (by decide))) (fun _ hk => trivial)⟩, ⟨by exact kf_ BK124.out⟩, ⟨by refine kb_ ?_; refine blk_put (cs := #[.int .i64 t125, .int .i64 t127, .int .i64 t129, .int .i64 t131, .int .i64 t133, .int .i64 t144, .bool false, .bool false, .slice Ao20 t137.length co20]) ?_ 6 _ rfl; refine kb_ ?_; refine blk_put (cs := #[.int .i64 t125, .int .i64 t127, .int .i64 t129, .int .i64 t131, .int .i64 t133, .int .i64 0, .bool false, .bool false, .slice Ao20 t137.length co20]) ?_ 5 _ rfl; refine kb_ ?_; exact BK141.out⟩, ⟨is113_ HI0.out⟩, ⟨hkA_ HK.out⟩, ⟨hb113_ HB.out⟩⟩
   ·rw [if_neg c30] at H
    have c30b0 : (t142 == 1) = false := beq_eq_false_iff_ne.mpr c30
    have c30b1 : (t142 != 1) = true := bne_iff_ne.mpr c30
    have H' := Aside0.mk H
    clear H
    go_wp2
    go_meet
    case rel => exact ⟨_, (t143), (0), (false), (false), H', ⟨by first | omega | exact Nat.le_refl _⟩, ⟨kR_ HO139.out⟩, ⟨by refine kb_ ?_; exact BK124.out⟩, ⟨by refine kb_ ?_; exact BK141.out⟩, ⟨is113_ HI0.out⟩, ⟨hkA_ HK.out⟩, ⟨hb113_ HB.out⟩⟩
 case rest =>
  clear HC11; (try clear c2); (try clear p2); (try clear c3); (try clear c4); (try clear c5); (try clear c7); (try clear c22); (try clear c23); (try clear c26); (try clear c26b0); (try clear c26b1); (try clear c27); (try clear c28); (try clear c30); (try clear c30b0); (try clear c30b1); (try clear c32); (try clear c32b0); (try clear c32b1); (try clear c35); (try clear c36); (try clear c41); (try clear c42); (try clear Z24); (try clear Z29); (try clear Z37); (try clear Z39); (try clear Z43)
  obtain ⟨kq, x1001_10, x142005_10, x142006_10, x142007_10, HA, HJ10, HO_142008, BK124, BK141, HI0, HK, HB⟩ := hcut
  cases kq with
  | zero => exact absurd HA.out (by simp [spec_l20Packet.j0])
  | succ kj10 =>
   have H := HA.out; clear HA
   simp only [spec_l20Packet.j0] at H
   replace H := Option.bind_eq_some_iff.mp H
   obtain ⟨⟨t148, t149⟩, A440, H⟩ := H
   (try dsimp only at H)
   have A44 := Aside0.mk A440; clear A440
   by_cases c45 : t148 = true
   ·subst c45
    rw [if_pos rfl] at H
    replace H := Option.bind_eq_some_iff.mp H
    obtain ⟨⟨t150, t151⟩, A460, H⟩ := H
    (try dsimp only at H)
    have A46 := Aside0.mk A460; clear A460
    by_cases c47 : t150 = 0
    ·rw [if_pos c47] at H
     have c47b0 : (t150 == 0) = true := beq_iff_eq.mpr c47
     have c47b1 : (t150 != 0) = false := bne_eq_false_iff_eq.mpr c47
     clear c47
     replace H := Option.bind_eq_some_iff.mp H
     obtain ⟨⟨t152, t153⟩, A480, H⟩ := H
     (try dsimp only at H)
     have A48 := Aside0.mk A480; clear A480
     simp only [Option.some.injEq, Prod.mk.injEq] at H
     obtain ⟨rfl, rfl, rfl, rfl, rfl, rfl, rfl, rfl, rfl, rfl⟩ := H
     go_wp2_with (first | ((with_reducible refine gate_callee (f := 90) rfl ?_); refine goesL_ (some 43) rfl rfl Try.func90 (by kernel_rfl) rfl #[.pointer (some ⟨g, 0, none⟩), .int .i64 a1] rfl ar_ ?_; (with_reducible refine (spec_l20Rd_odd.calls kj10 g s0_0 x1001_10 a1 true t149 w0 _ ?side1 ?side2 A44.out).mono ?_); (case side1 => exact is113_ HI0.out); (case side2 => exact hb113_ HB.out); rintro e w49 ⟨rfl, hi, hb, hk⟩; refine ⟨_, rfl, ?_⟩; replace HO_142008 := (rk113_ HI0 HO_142008 hk); replace BK124 := (bkA_ BK124 hk NB124_0); replace BK141 := (bkA_ BK141 hk NB141_0); replace HK := (kk_ HK hk); replace HB := Aside0.mk (hb); replace HI0 := Aside0.mk (hi); (try clear hb); (try clear hb2); (try clear hk); (try clear hi)) | ((with_reducible refine gate_callee (f := 54) rfl ?_); refine goesL_ (some 45) rfl rfl Try.func54 (by kernel_rfl) rfl #[.pointer (some ⟨g, 0, none⟩), .int .i64 5] rfl ar_ ?_; (with_reducible refine (spec_l20Rd_pick.calls kj10 g s0_0 t149 5 t150 t151 w0 _ ?side1 ?side2 A46.out).mono ?_); (case side1 => exact is113_ HI0.out); (case side2 => exact hb113_ HB.out); rintro e w50 ⟨rfl, hi, hb, hk⟩; refine ⟨_, rfl, ?_⟩; replace HO_142008 := (rk113_ HI0 HO_142008 hk); replace BK124 := (bkA_ BK124 hk NB124_0); replace BK141 := (bkA_ BK141 hk NB141_0); replace HK := (kk_ HK hk); replace HB := Aside0.mk (hb); replace HI0 := Aside0.mk (hi); (try clear hb); (try clear hb2); (try clear hk); (try clear hi)) | ((with_reducible refine gate_callee (f := 54) rfl ?_); refine goesL_ (some 51) rfl rfl Try.func54 (by kernel_rfl) rfl #[.pointer (some ⟨g, 0, none⟩), .int .i64 2] rfl ar_ ?_; (with_reducible refine (spec_l20Rd_pick.calls kj10 g s0_0 t151 2 t152 t153 w0 _ ?side1 ?side2 A48.out).mono ?_); (case side1 => exact is113_ HI0.out); (case side2 => exact hb113_ HB.out); rintro e w51 ⟨rfl, hi, hb, hk⟩; refine ⟨_, rfl, ?_⟩; replace HO_142008 := (rk113_ HI0 HO_142008 hk); replace BK124 := (bkA_ BK124 hk NB124_0); replace BK141 := (bkA_ BK141 hk NB141_0); replace HK := (kk_ HK hk); replace HB := Aside0.mk (hb); replace HI0 := Aside0.mk (hi); (try clear hb); (try clear hb2); (try clear hk); (try clear hi); have hnb52 := NB141_124.out; have hnc52 := NB124_141.out; have hnb53 := NB141_0.out; have hnc53 := NB0_141.out; have Z54 := zz9 BK141; have hnb55 := NB124_0.out; have hnc55 := NB0_124.out; have Z56 := zz9 BK124))
     refine bodyPost_ret (results_cell_row rfl _ _ gb124 24 #[.int .i64 t125, .int .i64 (wrap64 (65536 - (wrap64 (t152 * 65540)))), .int .i64 t129, .int .i64 t131, .int .i64 t133, .int .i64 x142005_10, .bool x142006_10, .bool x142007_10, .slice Ao20 t137.length co20] (0, 0) _ rfl (by refine kb_ ?_; refine pz9 (cs := #[.int .i64 0, .int .i64 0, .int .i64 0, .int .i64 0, .int .i64 0, .int .i64 0, .bool false, .bool false, .slice none 0 0]) ?_; exact kf_ BK124.out) Try.underlying24 rfl (by kernel_rfl)) rfl ?_
     exact ⟨_, by first | rfl | (simp [errW_none, errW_some] <;> rfl) | (simp [*, errW_none, errW_some] <;> rfl), by refine kR_ ?_; exact rfm_ ((Kd.R_far (p := ⟨gb141, 1, none⟩) (Kd.R_types (Kd.R_types HO_142008.out BK141.out (by decide)) BK124.out (by decide)) (fun _ hk => hk.1.2) (.int .i64 (wrap64 (65536 - (wrap64 (t152 * 65540))))))) (fun _ hk => trivial), is113_ HI0.out, hb113_ HB.out, hkA_ HK.out⟩
    ·rw [if_neg c47] at H
     have c47b0 : (t150 == 0) = false := beq_eq_false_iff_ne.mpr c47
     have c47b1 : (t150 != 0) = true := bne_iff_ne.mpr c47
     by_cases c57 : t150 = 1
     ·rw [if_pos c57] at H
      have c57b0 : (t150 == 1) = true := beq_iff_eq.mpr c57
      have c57b1 : (t150 != 1) = false := bne_eq_false_iff_eq.mpr c57
      clear c57
      replace H := Option.bind_eq_some_iff.mp H
      obtain ⟨⟨t154, t155⟩, A580, H⟩ := H
      (try dsimp only at H)
      have A58 := Aside0.mk A580; clear A580
      simp only [Option.some.injEq, Prod.mk.injEq] at H
      obtain ⟨rfl, rfl, rfl, rfl, rfl, rfl, rfl, rfl, rfl, rfl⟩ := H
      go_wp2_with (first | ((with_reducible refine gate_callee (f := 90) rfl ?_); refine goesL_ (some 43) rfl rfl Try.func90 (by kernel_rfl) rfl #[.pointer (some ⟨g, 0, none⟩), .int .i64 a1] rfl ar_ ?_; (with_reducible refine (spec_l20Rd_odd.calls kj10 g s0_0 x1001_10 a1 true t149 w0 _ ?side1 ?side2 A44.out).mono ?_); (case side1 => exact is113_ HI0.out); (case side2 => exact hb113_ HB.out); rintro e w59 ⟨rfl, hi, hb, hk⟩; refine ⟨_, rfl, ?_⟩; replace HO_142008 := (rk113_ HI0 HO_142008 hk); replace BK124 := (bkA_ BK124 hk NB124_0); replace BK141 := (bkA_ BK141 hk NB141_0); replace HK := (kk_ HK hk); replace HB := Aside0.mk (hb); replace HI0 := Aside0.mk (hi); (try clear hb); (try clear hb2); (try clear hk); (try clear hi)) | ((with_reducible refine gate_callee (f := 54) rfl ?_); refine goesL_ (some 45) rfl rfl Try.func54 (by kernel_rfl) rfl #[.pointer (some ⟨g, 0, none⟩), .int .i64 5] rfl ar_ ?_; (with_reducible refine (spec_l20Rd_pick.calls kj10 g s0_0 t149 5 t150 t151 w0 _ ?side1 ?side2 A46.out).mono ?_); (case side1 => exact is113_ HI0.out); (case side2 => exact hb113_ HB.out); rintro e w60 ⟨rfl, hi, hb, hk⟩; refine ⟨_, rfl, ?_⟩; replace HO_142008 := (rk113_ HI0 HO_142008 hk); replace BK124 := (bkA_ BK124 hk NB124_0); replace BK141 := (bkA_ BK141 hk NB141_0); replace HK := (kk_ HK hk); replace HB := Aside0.mk (hb); replace HI0 := Aside0.mk (hi); (try clear hb); (try clear hb2); (try clear hk); (try clear hi)) | ((with_reducible refine gate_callee (f := 54) rfl ?_); refine goesL_ (some 58) rfl rfl Try.func54 (by kernel_rfl) rfl #[.pointer (some ⟨g, 0, none⟩), .int .i64 2] rfl ar_ ?_; (with_reducible refine (spec_l20Rd_pick.calls kj10 g s0_0 t151 2 t154 t155 w0 _ ?side1 ?side2 A58.out).mono ?_); (case side1 => exact is113_ HI0.out); (case side2 => exact hb113_ HB.out); rintro e w61 ⟨rfl, hi, hb, hk⟩; refine ⟨_, rfl, ?_⟩; replace HO_142008 := (rk113_ HI0 HO_142008 hk); replace BK124 := (bkA_ BK124 hk NB124_0); replace BK141 := (bkA_ BK141 hk NB141_0); replace HK := (kk_ HK hk); replace HB := Aside0.mk (hb); replace HI0 := Aside0.mk (hi); (try clear hb); (try clear hb2); (try clear hk); (try clear hi); have hnb62 := NB141_124.out; have hnc62 := NB124_141.out; have hnb63 := NB141_0.out; have hnc63 := NB0_141.out; have Z64 := zz9 BK141; have hnb65 := NB124_0.out; have hnc65 := NB0_124.out; have Z66 := zz9 BK124))
      refine bodyPost_ret (results_cell_row rfl _ _ gb124 24 #[.int .i64 t125, .int .i64 t127, .int .i64 t129, .int .i64 (wrap64 (256 - (wrap64 (t154 * 300)))), .int .i64 t133, .int .i64 x142005_10, .bool x142006_10, .bool x142007_10, .slice Ao20 t137.length co20] (0, 0) _ rfl (by refine kb_ ?_; refine pz9 (cs := #[.int .i64 0, .int .i64 0, .int .i64 0, .int .i64 0, .int .i64 0, .int .i64 0, .bool false, .bool false, .slice none 0 0]) ?_; exact kf_ BK124.out) Try.underlying24 rfl (by kernel_rfl)) rfl ?_
      exact ⟨_, by first | rfl | (simp [errW_none, errW_some] <;> rfl) | (simp [*, errW_none, errW_some] <;> rfl), by refine kR_ ?_; exact rfm_ ((Kd.R_far (p := ⟨gb141, 3, none⟩) (Kd.R_types (Kd.R_types HO_142008.out BK141.out (by decide)) BK124.out (by decide)) (fun _ hk => hk.1.2) (.int .i64 (wrap64 (256 - (wrap64 (t154 * 300))))))) (fun _ hk => trivial), is113_ HI0.out, hb113_ HB.out, hkA_ HK.out⟩
     ·rw [if_neg c57] at H
      have c57b0 : (t150 == 1) = false := beq_eq_false_iff_ne.mpr c57
      have c57b1 : (t150 != 1) = true := bne_iff_ne.mpr c57
      by_cases c67 : t150 = 2
      ·rw [if_pos c67] at H
       have c67b0 : (t150 == 2) = true := beq_iff_eq.mpr c67
       have c67b1 : (t150 != 2) = false := bne_eq_false_iff_eq.mpr c67
       clear c67
       by_cases c68 : 49 ≤ 281474976710656
       ·rw [if_pos c68] at H
        have c68b0 := eq_true c68
        have c68b1 : decide (49 ≤ 281474976710656) = true := decide_eq_true c68
        clear c68
        obtain ⟨y156, hy156⟩ : ∃ y_ : List Int, y_ = (List.replicate 49 0) := ⟨_, rfl⟩
        (first | replace H := sb_ hy156 H | rw [← hy156] at H)
        have Ny156 := Aside0.mk hy156; clear hy156
        simp only [Option.some.injEq, Prod.mk.injEq] at H
        obtain ⟨rfl, rfl, rfl, rfl, rfl, rfl, rfl, rfl, rfl, rfl⟩ := H
        go_wp2_with (first | ((with_reducible refine gate_callee (f := 90) rfl ?_); refine goesL_ (some 43) rfl rfl Try.func90 (by kernel_rfl) rfl #[.pointer (some ⟨g, 0, none⟩), .int .i64 a1] rfl ar_ ?_; (with_reducible refine (spec_l20Rd_odd.calls kj10 g s0_0 x1001_10 a1 true t149 w0 _ ?side1 ?side2 A44.out).mono ?_); (case side1 => exact is113_ HI0.out); (case side2 => exact hb113_ HB.out); rintro e w69 ⟨rfl, hi, hb, hk⟩; refine ⟨_, rfl, ?_⟩; replace HO_142008 := (rk113_ HI0 HO_142008 hk); replace BK124 := (bkA_ BK124 hk NB124_0); replace BK141 := (bkA_ BK141 hk NB141_0); replace HK := (kk_ HK hk); replace HB := Aside0.mk (hb); replace HI0 := Aside0.mk (hi); (try clear hb); (try clear hb2); (try clear hk); (try clear hi)) | ((with_reducible refine gate_callee (f := 54) rfl ?_); refine goesL_ (some 45) rfl rfl Try.func54 (by kernel_rfl) rfl #[.pointer (some ⟨g, 0, none⟩), .int .i64 5] rfl ar_ ?_; (with_reducible refine (spec_l20Rd_pick.calls kj10 g s0_0 t149 5 t150 t151 w0 _ ?side1 ?side2 A46.out).mono ?_); (case side1 => exact is113_ HI0.out); (case side2 => exact hb113_ HB.out); rintro e w70 ⟨rfl, hi, hb, hk⟩; refine ⟨_, rfl, ?_⟩; replace HO_142008 := (rk113_ HI0 HO_142008 hk); replace BK124 := (bkA_ BK124 hk NB124_0); replace BK141 := (bkA_ BK141 hk NB141_0); replace HK := (kk_ HK hk); replace HB := Aside0.mk (hb); replace HI0 := Aside0.mk (hi); (try clear hb); (try clear hb2); (try clear hk); (try clear hi)) | ((with_reducible refine gate_dst (N := 64) rfl ?_); refine Kd.R_make (Kd.int .u8) _ 5 rfl (N := 64) rfl 22 _ _ rfl 49 rfl rfl Try.underlying22 (.int .u8 0) 1 info5 rfl (by decide) (by omega) 0 (ok := fun _ => True) (okp := fun _ => True) rfl (fun _ hk => hk) trivial (by omega) (by omega) (Below.refl _ _) (Nat.le_refl _) ?_; intro v157 w71 ho72 hb hg_ hnew_; clear hg_ hnew_; (first | rw [← Ny156.out] at ho72 | (simp only [Int.reduceToNat] at ho72; rw [← Ny156.out] at ho72)); have HO158 := Aside0.mk (Kd.R_lower (Kd.R_new' ho72 (Kd.R_lt (kR_ HO_142008.out))) (keep_size (w := w) (g := g) (row := none) (hkA_ HK.out))); replace HO_142008 := Aside0.mk (Kd.R_elder' (kR_ HO_142008.out) (Kd.R_base ho72) hb); replace BK124 := (bbA_ BK124 hb); replace BK141 := (bbA_ BK141 hb); replace HI0 := (ib113_ HI0 hb); replace HK := (kw_ HK hb); replace HB := (bs113_ HB hb); clear hb ho72; obtain ⟨Ao73, co73, eo73⟩ := Kd.R_slice HO158.out; subst eo73; have hnb74 := NB141_124.out; have hnc74 := NB124_141.out; have hnb75 := NB141_0.out; have hnc75 := NB0_141.out; have Z76 := zz9 BK141; have hnb77 := NB124_0.out; have hnc77 := NB0_124.out; have Z78 := zz9 BK124))
        refine bodyPost_ret (results_cell_row rfl _ _ gb124 24 #[.int .i64 t125, .int .i64 t127, .int .i64 t129, .int .i64 t131, .int .i64 t133, .int .i64 x142005_10, .bool x142006_10, .bool x142007_10, .slice Ao73 y156.length co73] (0, 0) _ rfl (by refine kb_ ?_; refine pz9 (cs := #[.int .i64 0, .int .i64 0, .int .i64 0, .int .i64 0, .int .i64 0, .int .i64 0, .bool false, .bool false, .slice none 0 0]) ?_; exact kf_ BK124.out) Try.underlying24 rfl (by kernel_rfl)) rfl ?_
        exact ⟨_, by first | rfl | (simp [errW_none, errW_some] <;> rfl) | (simp [*, errW_none, errW_some] <;> rfl), by refine kR_ ?_; exact rfm_ ((Kd.R_far (p := ⟨gb141, 8, none⟩) (Kd.R_types (Kd.R_types HO158.out BK141.out (by decide)) BK124.out (by decide)) (fun _ hk => hk.1.2) (.slice Ao73 y156.length co73))) (fun _ hk => trivial), is113_ HI0.out, hb113_ HB.out, hkA_ HK.out⟩
       ·rw [if_neg c68] at H
        exact absurd H (by simp)
      ·rw [if_neg c67] at H
       have c67b0 : (t150 == 2) = false := beq_eq_false_iff_ne.mpr c67
       have c67b1 : (t150 != 2) = true := bne_iff_ne.mpr c67
       by_cases c79 : t150 = 3
       ·rw [if_pos c79] at H
        have c79b0 : (t150 == 3) = true := beq_iff_eq.mpr c79
        have c79b1 : (t150 != 3) = false := bne_eq_false_iff_eq.mpr c79
        clear c79
        simp only [Option.some.injEq, Prod.mk.injEq] at H
        obtain ⟨rfl, rfl, rfl, rfl, rfl, rfl, rfl, rfl, rfl, rfl⟩ := H
        go_wp2_with (first | ((with_reducible refine gate_callee (f := 90) rfl ?_); refine goesL_ (some 43) rfl rfl Try.func90 (by kernel_rfl) rfl #[.pointer (some ⟨g, 0, none⟩), .int .i64 a1] rfl ar_ ?_; (with_reducible refine (spec_l20Rd_odd.calls kj10 g s0_0 x1001_10 a1 true t149 w0 _ ?side1 ?side2 A44.out).mono ?_); (case side1 => exact is113_ HI0.out); (case side2 => exact hb113_ HB.out); rintro e w80 ⟨rfl, hi, hb, hk⟩; refine ⟨_, rfl, ?_⟩; replace HO_142008 := (rk113_ HI0 HO_142008 hk); replace BK124 := (bkA_ BK124 hk NB124_0); replace BK141 := (bkA_ BK141 hk NB141_0); replace HK := (kk_ HK hk); replace HB := Aside0.mk (hb); replace HI0 := Aside0.mk (hi); (try clear hb); (try clear hb2); (try clear hk); (try clear hi)) | ((with_reducible refine gate_callee (f := 54) rfl ?_); refine goesL_ (some 45) rfl rfl Try.func54 (by kernel_rfl) rfl #[.pointer (some ⟨g, 0, none⟩), .int .i64 5] rfl ar_ ?_; (with_reducible refine (spec_l20Rd_pick.calls kj10 g s0_0 t149 5 t150 t151 w0 _ ?side1 ?side2 A46.out).mono ?_); (case side1 => exact is113_ HI0.out); (case side2 => exact hb113_ HB.out); rintro e w81 ⟨rfl, hi, hb, hk⟩; refine ⟨_, rfl, ?_⟩; replace HO_142008 := (rk113_ HI0 HO_142008 hk); replace BK124 := (bkA_ BK124 hk NB124_0); replace BK141 := (bkA_ BK141 hk NB141_0); replace HK := (kk_ HK hk); replace HB := Aside0.mk (hb); replace HI0 := Aside0.mk (hi); (try clear hb); (try clear hb2); (try clear hk); (try clear hi); have hnb82 := NB141_124.out; have hnc82 := NB124_141.out; have hnb83 := NB141_0.out; have hnc83 := NB0_141.out; have Z84 := zz9 BK141; have hnb85 := NB124_0.out; have hnc85 := NB0_124.out; have Z86 := zz9 BK124))
        refine bodyPost_ret (results_cell_row rfl _ _ gb124 24 #[.int .i64 t125, .int .i64 t127, .int .i64 t129, .int .i64 t131, .int .i64 t133, .int .i64 x142005_10, .bool true, .bool x142007_10, .slice none 0 0] (0, 0) _ rfl (by refine kb_ ?_; refine pz9 (cs := #[.int .i64 0, .int .i64 0, .int .i64 0, .int .i64 0, .int .i64 0, .int .i64 0, .bool false, .bool false, .slice none 0 0]) ?_; exact kf_ BK124.out) Try.underlying24 rfl (by kernel_rfl)) rfl ?_
        exact ⟨_, by first | rfl | (simp [errW_none, errW_some] <;> rfl) | (simp [*, errW_none, errW_some] <;> rfl), by first | exact Kd.R_nil _ _ _ _ _ | exact Kd.N_nil _ _ _ _ _ | exact Kd.V_nil _ _ _ _ _ | exact Kd.Q_nil _ _ _ _ _ | exact Kd.S_nil _ _ _ _ _, is113_ HI0.out, hb113_ HB.out, hkA_ HK.out⟩
       ·rw [if_neg c79] at H
        have c79b0 : (t150 == 3) = false := beq_eq_false_iff_ne.mpr c79
        have c79b1 : (t150 != 3) = true := bne_iff_ne.mpr c79
        simp only [Option.some.injEq, Prod.mk.injEq] at H
        obtain ⟨rfl, rfl, rfl, rfl, rfl, rfl, rfl, rfl, rfl, rfl⟩ := H
        go_wp2_with (first | ((with_reducible refine gate_callee (f := 90) rfl ?_); refine goesL_ (some 43) rfl rfl Try.func90 (by kernel_rfl) rfl #[.pointer (some ⟨g, 0, none⟩), .int .i64 a1] rfl ar_ ?_; (with_reducible refine (spec_l20Rd_odd.calls kj10 g s0_0 x1001_10 a1 true t149 w0 _ ?side1 ?side2 A44.out).mono ?_); (case side1 => exact is113_ HI0.out); (case side2 => exact hb113_ HB.out); rintro e w87 ⟨rfl, hi, hb, hk⟩; refine ⟨_, rfl, ?_⟩; replace HO_142008 := (rk113_ HI0 HO_142008 hk); replace BK124 := (bkA_ BK124 hk NB124_0); replace BK141 := (bkA_ BK141 hk NB141_0); replace HK := (kk_ HK hk); replace HB := Aside0.mk (hb); replace HI0 := Aside0.mk (hi); (try clear hb); (try clear hb2); (try clear hk); (try clear hi)) | ((with_reducible refine gate_callee (f := 54) rfl ?_); refine goesL_ (some 45) rfl rfl Try.func54 (by kernel_rfl) rfl #[.pointer (some ⟨g, 0, none⟩), .int .i64 5] rfl ar_ ?_; (with_reducible refine (spec_l20Rd_pick.calls kj10 g s0_0 t149 5 t150 t151 w0 _ ?side1 ?side2 A46.out).mono ?_); (case side1 => exact is113_ HI0.out); (case side2 => exact hb113_ HB.out); rintro e w88 ⟨rfl, hi, hb, hk⟩; refine ⟨_, rfl, ?_⟩; replace HO_142008 := (rk113_ HI0 HO_142008 hk); replace BK124 := (bkA_ BK124 hk NB124_0); replace BK141 := (bkA_ BK141 hk NB141_0); replace HK := (kk_ HK hk); replace HB := Aside0.mk (hb); replace HI0 := Aside0.mk (hi); (try clear hb); (try clear hb2); (try clear hk); (try clear hi); have hnb89 := NB141_124.out; have hnc89 := NB124_141.out; have hnb90 := NB141_0.out; have hnc90 := NB0_141.out; have Z91 := zz9 BK141; have hnb92 := NB124_0.out; have hnc92 := NB0_124.out; have Z93 := zz9 BK124))
        refine bodyPost_ret (results_cell_row rfl _ _ gb124 24 #[.int .i64 t125, .int .i64 t127, .int .i64 t129, .int .i64 t131, .int .i64 t133, .int .i64 3, .bool x142006_10, .bool true, .slice Ao20 t137.length co20] (0, 0) _ rfl (by refine kb_ ?_; refine pz9 (cs := #[.int .i64 0, .int .i64 0, .int .i64 0, .int .i64 0, .int .i64 0, .int .i64 0, .bool false, .bool false, .slice none 0 0]) ?_; exact kf_ BK124.out) Try.underlying24 rfl (by kernel_rfl)) rfl ?_
        exact ⟨_, by first | rfl | (simp [errW_none, errW_some] <;> rfl) | (simp [*, errW_none, errW_some] <;> rfl), by refine kR_ ?_; exact rfm_ ((Kd.R_far (p := ⟨gb141, 5, none⟩) (Kd.R_far (p := ⟨gb141, 7, none⟩) (Kd.R_types (Kd.R_types HO_142008.out BK141.out (by decide)) BK124.out (by decide)) (fun _ hk => hk.1.2) (.bool true)) (fun _ hk => hk.1.2) (.int .i64 3))) (fun _ hk => trivial), is113_ HI0.out, hb113_ HB.out, hkA_ HK.out⟩
   ·replace c45 := Bool.eq_false_iff.mpr c45
    subst c45
    rw [if_neg (show ¬ (false = true) by decide)] at H
    simp only [Option.some.injEq, Prod.mk.injEq] at H
    obtain ⟨rfl, rfl, rfl, rfl, rfl, rfl, rfl, rfl, rfl, rfl⟩ := H
    go_wp2_with (first | ((with_reducible refine gate_callee (f := 90) rfl ?_); refine goesL_ (some 43) rfl rfl Try.func90 (by kernel_rfl) rfl #[.pointer (some ⟨g, 0, none⟩), .int .i64 a1] rfl ar_ ?_; (with_reducible refine (spec_l20Rd_odd.calls kj10 g s0_0 x1001_10 a1 false t149 w0 _ ?side1 ?side2 A44.out).mono ?_); (case side1 => exact is113_ HI0.out); (case side2 => exact hb113_ HB.out); rintro e w94 ⟨rfl, hi, hb, hk⟩; refine ⟨_, rfl, ?_⟩; replace HO_142008 := (rk113_ HI0 HO_142008 hk); replace BK124 := (bkA_ BK124 hk NB124_0); replace BK141 := (bkA_ BK141 hk NB141_0); replace HK := (kk_ HK hk); replace HB := Aside0.mk (hb); replace HI0 := Aside0.mk (hi); (try clear hb); (try clear hb2); (try clear hk); (try clear hi); have hnb95 := NB141_124.out; have hnc95 := NB124_141.out; have hnb96 := NB141_0.out; have hnc96 := NB0_141.out; have Z97 := zz9 BK141; have hnb98 := NB124_0.out; have hnc98 := NB0_124.out; have Z99 := zz9 BK124))
    refine bodyPost_ret (results_cell_row rfl _ _ gb124 24 #[.int .i64 t125, .int .i64 t127, .int .i64 t129, .int .i64 t131, .int .i64 t133, .int .i64 x142005_10, .bool x142006_10, .bool x142007_10, .slice Ao20 t137.length co20] (0, 0) _ rfl (by refine kb_ ?_; refine pz9 (cs := #[.int .i64 0, .int .i64 0, .int .i64 0, .int .i64 0, .int .i64 0, .int .i64 0, .bool false, .bool false, .slice none 0 0]) ?_; refine kb_ ?_; exact BK124.out) Try.underlying24 rfl (by kernel_rfl)) rfl ?_
    exact ⟨_, by first | rfl | (simp [errW_none, errW_some] <;> rfl) | (simp [*, errW_none, errW_some] <;> rfl), by refine kR_ ?_; exact rfm_ ((Kd.R_types HO_142008.out BK124.out (by decide))) (fun _ hk => trivial), is113_ HI0.out, hb113_ HB.out, hkA_ HK.out⟩
def spec_l20Long.f (k : Nat) (s0_0 : List Int) (s0_1 : Int) : Option (Int × Int × Int × Int × Int × Int × Bool × Bool × List Int × Int) := (spec_l20Packet.f k s0_0 s0_1 0).bind fun bt160 => ((spec_l20Rd_pick.f k s0_0 bt160.2.2.2.2.2.2.2.2.2 20).bind fun bt173 => ((spec_l20Rd_bytes.f k s0_0 bt173.2 (wrap64 (2 + bt173.1))).bind fun bt175 => (some (bt160.1, bt160.2.1, bt160.2.2.1, bt160.2.2.2.1, bt160.2.2.2.2.1, 0, false, false, bt175.1, bt175.2))))
theorem spec_l20Long.mono : ∀ a0 a1 k, LeO (spec_l20Long.f k a0 a1) (spec_l20Long.f (k + 1) a0 a1) := by
 intro a0 a1 k
 unfold spec_l20Long.f
 repeat' first | (with_reducible first | apply spec_l20Packet.mono | apply spec_l20Rd_bytes.mono | apply spec_l20Rd_pick.mono | exact LeO.refl _ | exact LeO.none _ | refine LeO.ite ?_ ?_ | refine LeO.bind ?_ fun _ => ?_) | apply spec_l20Packet.mono | apply spec_l20Rd_bytes.mono | apply spec_l20Rd_pick.mono | exact LeO.none _ | refine LeO.ite ?_ ?_ | refine LeO.bind ?_ fun _ => ?_
set_option maxHeartbeats 8000000 in
set_option maxRecDepth 100000 in
theorem spec_l20Long.calls (k : Nat) (g : Nat) (s0_0 : List Int) (s0_1 : Int) (r1 : Int) (r2 : Int) (r3 : Int) (r4 : Int) (r5 : Int) (r6 : Int) (r7 : Bool) (r8 : Bool) (r9 : List Int) (r10 : Int) (w0 w : World) (hI : IsS113 w0 w g s0_0 s0_1) (hB : Below w0.heap.size w0 w) (h : spec_l20Long.f k s0_0 s0_1 = some (r1, r2, r3, r4, r5, r6, r7, r8, r9, r10)) :
  Calls Try.prog 55 #[.pointer (some ⟨g, 0, none⟩)] w fun e w' => ∃ v8_ : Value, e = .returned (.agg #[.int .i64 r1, .int .i64 r2, .int .i64 r3, .int .i64 r4, .int .i64 r5, .int .i64 r6, .bool r7, .bool r8, v8_]) ∧ Kd.R (Kd.int .u8) 5 w' w.heap.size (fun _ => True) v8_ r9 ∧ IsS113 w0 w' g s0_0 r10 ∧ Below w0.heap.size w0 w' ∧ KeepBut w w' g none := by
 have hu24 := Try.underlying24; have HI0 := Aside0.mk hI
 have HK := Aside0.mk (KeepBut.refl w g none)
 have HL := Aside0.mk hB.size; clear hI; have HW0 := Aside0.mk hB.size; have HB := Aside0.mk hB; clear hB
 have H : ((spec_l20Packet.f k s0_0 s0_1 0).bind fun bt160 => ((spec_l20Rd_pick.f k s0_0 bt160.2.2.2.2.2.2.2.2.2 20).bind fun bt173 => ((spec_l20Rd_bytes.f k s0_0 bt173.2 (wrap64 (2 + bt173.1))).bind fun bt175 => (some (bt160.1, bt160.2.1, bt160.2.2.1, bt160.2.2.2.1, bt160.2.2.2.2.1, 0, false, false, bt175.1, bt175.2))))) = some (r1, r2, r3, r4, r5, r6, r7, r8, r9, r10) := h
 clear h
 replace H := Option.bind_eq_some_iff.mp H
 obtain ⟨⟨t160, t161, t162, t163, t164, t165, t166, t167, t168, t171⟩, A20, H⟩ := H
 (try dsimp only at H)
 have A2 := Aside0.mk A20; clear A20
 replace H := Option.bind_eq_some_iff.mp H
 obtain ⟨⟨t173, t174⟩, A30, H⟩ := H
 (try dsimp only at H)
 have A3 := Aside0.mk A30; clear A30
 replace H := Option.bind_eq_some_iff.mp H
 obtain ⟨⟨t175, t178⟩, A40, H⟩ := H
 (try dsimp only at H)
 have A4 := Aside0.mk A40; clear A40
 simp only [Option.some.injEq, Prod.mk.injEq] at H
 obtain ⟨rfl, rfl, rfl, rfl, rfl, rfl, rfl, rfl, rfl, rfl⟩ := H
 go_enter Try.func55, Try.ntmps55
 go_wp2_with (first | ((with_reducible refine gate_dst (N := 2) rfl ?_); refine box_ (N := 2) (cs := #[.int .i64 0, .int .i64 0, .int .i64 0, .int .i64 0, .int .i64 0, .int .i64 0, .bool false, .bool false, .slice none 0 0]) (t := 24) (fun gb159 hg w5 hbox hb => ?_); replace HB := (bs113_ HB hb); have BK159 := Aside0.mk (hbox); have GW159 := gk_ hg HK; have GE159 := Aside0.mk ((Nat.le_trans HW0.out (by rw [hg]; exact (keep_size (w := w) (g := g) (row := none) (hkA_ HK.out)) : w.heap.size ≤ gb159) : w0.heap.size ≤ gb159)); replace HK := (kw_ HK hb); have NB0_159 := nl113_ hg HI0; have NB159_0 := ng113_ hg HI0; replace HI0 := (ib113_ HI0 hb); clear hb hbox hg) | ((with_reducible refine gate_callee (f := 53) rfl ?_); refine goesL_ (some 5) rfl rfl Try.func53 (by kernel_rfl) rfl #[.pointer (some ⟨g, 0, none⟩), .int .i64 0] rfl ar_ ?_; (with_reducible refine (spec_l20Packet.calls k g s0_0 s0_1 0 t160 t161 t162 t163 t164 t165 t166 t167 t168 t171 w0 _ ?side1 ?side2 A2.out).mono ?_); (case side1 => exact is113_ HI0.out); (case side2 => exact hb113_ HB.out); rintro e w6 ⟨v169, rfl, ho0, hi, hb, hk⟩; refine ⟨_, rfl, ?_⟩; replace BK159 := (bkA_ BK159 hk NB159_0); have HO170 := Aside0.mk (Kd.R_lower ho0 (keep_size (w := w) (g := g) (row := none) (hkA_ HK.out))); replace HK := (kk_ HK hk); replace HB := Aside0.mk (hb); replace HI0 := Aside0.mk (hi); (try clear hb); (try clear hb2); (try clear hk); (try clear hi); (try clear ho0)) | ((with_reducible refine gate_dst (N := 3) rfl ?_); refine box_ (N := 3) (cs := #[.int .i64 0, .int .i64 0, .int .i64 0, .int .i64 0, .int .i64 0, .int .i64 0, .bool false, .bool false, .slice none 0 0]) (t := 24) (fun gb172 hg w7 hbox hb => ?_); replace HO170 := Aside0.mk (Kd.R_below (kR_ HO170.out) hb); replace HB := (bs113_ HB hb); have BK172 := Aside0.mk (hbox); have GW172 := gk_ hg HK; have GE172 := Aside0.mk ((Nat.le_trans HW0.out (by rw [hg]; exact (keep_size (w := w) (g := g) (row := none) (hkA_ HK.out)) : w.heap.size ≤ gb172) : w0.heap.size ≤ gb172)); replace HK := (kw_ HK hb); have NB159_172 := nl_ hg BK159; have NB172_159 := ng_ hg BK159; replace BK159 := (bbA_ BK159 hb); have NB0_172 := nl113_ hg HI0; have NB172_0 := ng113_ hg HI0; replace HI0 := (ib113_ HI0 hb); clear hb hbox hg; have hnb8 := NB172_159.out; have hnc8 := NB159_172.out; have hnb9 := NB172_0.out; have hnc9 := NB0_172.out; have Z10 := zz9 BK172; obtain ⟨Ao11, co11, eo11⟩ := Kd.R_slice HO170.out; subst eo11) | ((with_reducible refine gate_callee (f := 54) rfl ?_); refine goesL_ (some 11) rfl rfl Try.func54 (by kernel_rfl) rfl #[.pointer (some ⟨g, 0, none⟩), .int .i64 20] rfl ar_ ?_; (with_reducible refine (spec_l20Rd_pick.calls k g s0_0 t171 20 t173 t174 w0 _ ?side1 ?side2 A3.out).mono ?_); (case side1 => exact is113_ HI0.out); (case side2 => exact hb113_ HB.out); rintro e w12 ⟨rfl, hi, hb, hk⟩; refine ⟨_, rfl, ?_⟩; replace BK159 := Aside0.mk (KeepBut.blk hk (g' := gb159) (o := .cells #[.int .i64 0, .int .i64 0, .int .i64 0, .int .i64 0, .int .i64 0, .int .i64 0, .bool false, .bool false, .slice none 0 0] 24 (0, 0)) (by exact kf_ BK159.out) NB159_0.out (by simp)); replace HO170 := Aside0.mk (Kd.R_mono (Kd.R_keep (IsS113.apart (show IsS113 w0 _ g s0_0 t171 from is113_ HI0.out) (by refine kR_ ?_; exact (rfm_ ((Kd.R_types HO170.out BK172.out (by decide))) (fun _ h_ => op1_ h_))) (by decide)) hk (fun _ h => h.2)) (fun _ h => h.1)); replace BK172 := Aside0.mk (KeepBut.blk hk (g' := gb172) (o := .cells #[.int .i64 t160, .int .i64 t161, .int .i64 t162, .int .i64 t163, .int .i64 t164, .int .i64 0, .bool false, .bool false, .slice Ao11 t168.length co11] 24 (0, 0)) (by refine kb_ ?_; refine blk_put (cs := #[.int .i64 t160, .int .i64 t161, .int .i64 t162, .int .i64 t163, .int .i64 t164, .int .i64 0, .bool false, .bool t167, .slice Ao11 t168.length co11]) ?_ 7 _ rfl; refine kb_ ?_; refine blk_put (cs := #[.int .i64 t160, .int .i64 t161, .int .i64 t162, .int .i64 t163, .int .i64 t164, .int .i64 0, .bool t166, .bool t167, .slice Ao11 t168.length co11]) ?_ 6 _ rfl; refine kb_ ?_; refine blk_put (cs := #[.int .i64 t160, .int .i64 t161, .int .i64 t162, .int .i64 t163, .int .i64 t164, .int .i64 t165, .bool t166, .bool t167, .slice Ao11 t168.length co11]) ?_ 5 _ rfl; refine kb_ ?_; refine pz9 (cs := #[.int .i64 0, .int .i64 0, .int .i64 0, .int .i64 0, .int .i64 0, .int .i64 0, .bool false, .bool false, .slice none 0 0]) ?_; refine kb_ ?_; exact BK172.out) NB172_0.out (by simp)); replace HK := (kk_ HK hk); replace HB := Aside0.mk (hb); replace HI0 := Aside0.mk (hi); (try clear hb); (try clear hb2); (try clear hk); (try clear hi)) | ((with_reducible refine gate_callee (f := 75) rfl ?_); refine goesL_ (some 13) rfl rfl Try.func75 (by kernel_rfl) rfl #[.pointer (some ⟨g, 0, none⟩), .int .i64 (wrap64 (2 + t173))] rfl ar_ ?_; (with_reducible refine (spec_l20Rd_bytes.calls k g s0_0 t174 (wrap64 (2 + t173)) t175 t178 w0 _ ?side1 ?side2 A4.out).mono ?_); (case side1 => exact is113_ HI0.out); (case side2 => exact hb113_ HB.out); rintro e w13 ⟨v176, rfl, ho0, hi, hb, hk⟩; refine ⟨_, rfl, ?_⟩; replace BK159 := (bkA_ BK159 hk NB159_0); replace BK172 := (bkA_ BK172 hk NB172_0); have HO177 := Aside0.mk (Kd.R_lower (Kd.R_new' ho0 (Kd.R_lt (kR_ HO170.out))) (keep_size (w := w) (g := g) (row := none) (hkA_ HK.out))); replace HO170 := Aside0.mk (Kd.R_mono (Kd.R_told (Kd.R_oldK (IsS113.apart (show IsS113 w0 _ g s0_0 t174 from is113_ HI0.out) (kR_ HO170.out) (by decide)) hk) (Kd.R_base ho0)) (fun _ h_ => op1_ h_)); replace HK := (kk_ HK hk); replace HB := Aside0.mk (hb); replace HI0 := Aside0.mk (hi); (try clear hb); (try clear hb2); (try clear hk); (try clear hi); (try clear ho0); obtain ⟨Ao14, co14, eo14⟩ := Kd.R_slice HO177.out; subst eo14; have Z15 := zz9 BK172; have hnb16 := NB159_0.out; have hnc16 := NB0_159.out; have Z17 := zz9 BK159))
 refine bodyPost_ret (results_cell_row rfl _ _ gb159 24 #[.int .i64 t160, .int .i64 t161, .int .i64 t162, .int .i64 t163, .int .i64 t164, .int .i64 0, .bool false, .bool false, .slice Ao14 t175.length co14] (0, 0) _ rfl (by refine kb_ ?_; refine pz9 (cs := #[.int .i64 0, .int .i64 0, .int .i64 0, .int .i64 0, .int .i64 0, .int .i64 0, .bool false, .bool false, .slice none 0 0]) ?_; exact kf_ BK159.out) Try.underlying24 rfl (by kernel_rfl)) rfl ?_
 exact ⟨_, by first | rfl | (simp [errW_none, errW_some] <;> rfl) | (simp [*, errW_none, errW_some] <;> rfl), by refine kR_ ?_; exact rfm_ ((Kd.R_far (p := ⟨gb172, 8, none⟩) (Kd.R_types (Kd.R_types HO177.out BK172.out (by decide)) BK159.out (by decide)) (fun _ hk => hk.1.2) (.slice Ao14 t175.length co14))) (fun _ hk => trivial), is113_ HI0.out, hb113_ HB.out, hkA_ HK.out⟩
end Go.Proofs.Ytbhofhdmbbipgaa.PFnPacketCut
