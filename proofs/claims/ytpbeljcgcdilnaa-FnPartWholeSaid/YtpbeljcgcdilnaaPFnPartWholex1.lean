/- Printed by wip/xp/xprint.sh out of the translation, for this claim: what each function answers, as a plain function, and that the machine does just that. No condition. -/
import Derived.Test.YtpbeljcgcdilnaaPFnPartWholex0
namespace Go.Proofs.Ytpbeljcgcdilnaa.PFnPartWhole
open Go.RowKit Go.Proofs.YtpbeljcgcdilnaaW.PrintWords Go.Proofs.YtpbeljcgcdilnaaW.PrintLast Go.Proofs.YtpbeljcgcdilnaaW.PrintMore
attribute [local go_sem] max2_int min2_int max_two min_two max_three min_three max_four min_four   -- for this text's walks alone
set_option linter.unusedVariables false
set_option linter.unusedSimpArgs false
def IsS102 (w0 W : World) (g : Nat) (f0 : List Int) (f1 : Int) : Prop := ∃ A0 c0, W.heap[g]? = some (.cells #[.slice A0 f0.length c0, .int .i64 f1] 102 (0, 0)) ∧ w0.heap.size ≤ g ∧ Kd.C (Kd.int .u8) w0 A0 f0.length f0
theorem IsS102.grown {w0 W : World} {g : Nat} {f0 : List Int} {f1 : Int} {W1 : World} {row : Option Nat} (h : IsS102 w0 W g f0 f1) (hw : W.grownBy W1 row) (hne : some g ≠ row) : IsS102 w0 W1 g f0 f1 := by
 obtain ⟨A0, c0, hb, hg, hr0⟩ := h
 exact ⟨A0, c0, blk_grown hb hw hne, hg, hr0⟩
theorem IsS102.own_neN {w0 W : World} {g : Nat} {f0 : List Int} {f1 : Int} {α : Type} {d : Kd α} {e : Nat} {base : Nat} {ok : Nat → Prop} {v : Value} {xs : List α} (h : IsS102 w0 W g f0 f1) (ho : Kd.N d e W base ok v xs) (ht : e ≠ 102) : some g ≠ v.ownBlock := by
 obtain ⟨A0, c0, hb, hg, hr0⟩ := h
 exact Kd.N_ne ho hb ht
theorem IsS102.fresh {w0 W : World} {g : Nat} {f0 : List Int} {f1 : Int} (h : IsS102 w0 W g f0 f1) : ∀ k, W.heap.size ≤ k → k ≠ g := by
 obtain ⟨A0, c0, hb, hg, hr0⟩ := h
 exact Kd.freshB hb
theorem IsS102.kept {w0 W : World} {g : Nat} {f0 : List Int} {f1 : Int} {W1 : World} {S : Nat → Prop} (h : IsS102 w0 W g f0 f1) (hk : Kept W W1 S) (hne : ¬ S g) : IsS102 w0 W1 g f0 f1 := by
 obtain ⟨A0, c0, hb, hg, hr0⟩ := h
 exact ⟨A0, c0, blk_kept hb hk hne, hg, hr0⟩
theorem IsS102.below {w0 W : World} {g : Nat} {f0 : List Int} {f1 : Int} {W1 : World} (h : IsS102 w0 W g f0 f1) (hw : Below W.heap.size W W1) : IsS102 w0 W1 g f0 f1 := h.grown (grown_of_below hw none) (by simp)
theorem IsS102.alloc {w0 W : World} {g : Nat} {f0 : List Int} {f1 : Int} (h : IsS102 w0 W g f0 f1) (o : Obj) : IsS102 w0 (W.alloc o) g f0 f1 := h.below (below_alloc (Below.refl _ _) o)
theorem IsS102.drewN {w0 W : World} {g : Nat} {f0 : List Int} {f1 : Int} (h : IsS102 w0 W g f0 f1) (m : Nat) : IsS102 w0 (W.drewN m) g f0 f1 := h
theorem IsS102.drew {w0 W : World} {g : Nat} {f0 : List Int} {f1 : Int} (h : IsS102 w0 W g f0 f1) : IsS102 w0 W.drew g f0 f1 := h
theorem IsS102.at_ {w0 W : World} {g : Nat} {f0 : List Int} {f1 : Int} {w' : World} {m : Nat} (hq : W.drewN m = w') (h : IsS102 w0 W g f0 f1) : IsS102 w0 w' g f0 f1 := by subst hq; exact IsS102.drewN h m
theorem IsS102.apart {w0 W : World} {g : Nat} {f0 : List Int} {f1 : Int} {α : Type} {d : Kd α} {e : Nat} {base : Nat} {ok : Nat → Prop} {v : Value} {xs : List α} (h : IsS102 w0 W g f0 f1) (ho : d.R e W base ok v xs) (ht : ∀ q, q ∈ e :: d.E → q ≠ 102) : d.R e W base (fun k => ok k ∧ k ≠ g) v xs := by
 obtain ⟨A0, c0, hb, hg, hr0⟩ := h
 exact Kd.R_types ho hb ht
theorem IsS102.own_ne {w0 W : World} {g : Nat} {f0 : List Int} {f1 : Int} {α : Type} {d : Kd α} {e : Nat} {base : Nat} {ok : Nat → Prop} {v : Value} {xs : List α} (h : IsS102 w0 W g f0 f1) (ho : d.R e W base ok v xs) (ht : e ≠ 102) : some g ≠ v.ownBlock := by
 obtain ⟨A0, c0, hb, hg, hr0⟩ := h
 exact Kd.R_ne ho hb ht
theorem IsS102.lt {w0 W : World} {g : Nat} {f0 : List Int} {f1 : Int} (h : IsS102 w0 W g f0 f1) : g < W.heap.size := by
 obtain ⟨A0, c0, hb, hg, hr0⟩ := h
 exact blk_lt hb
theorem IsS102.ge {w0 W : World} {g : Nat} {f0 : List Int} {f1 : Int} (h : IsS102 w0 W g f0 f1) : w0.heap.size ≤ g := by
 obtain ⟨A0, c0, hb, hg, hr0⟩ := h
 exact hg
theorem IsS102.ne_blk {w0 W : World} {g : Nat} {f0 : List Int} {f1 : Int} {a : Nat} {cs : Array Value} {t : TypeId} {fr : Nat × Nat} (h : IsS102 w0 W g f0 f1) (hb2 : W.heap[a]? = some (.cells cs t fr)) (ht : t ≠ 102) : g ≠ a := by
 obtain ⟨A0, c0, hb, hg, hr0⟩ := h
 rintro rfl
 rw [hb] at hb2
 injection hb2 with hb2
 injection hb2 with _ ht2
 exact ht ht2.symm
theorem IsS102.far {w0 W : World} {g : Nat} {f0 : List Int} {f1 : Int} {p : Addr} (h : IsS102 w0 W g f0 f1) (hne : g ≠ p.block) (u : Value) : IsS102 w0 (W.setCell p u) g f0 f1 := by
 obtain ⟨A0, c0, hb, hg, hr0⟩ := h
 exact ⟨A0, c0, blk_far hb hne u, hg, hr0⟩
theorem cellS102_0 {W : World} {g : Nat} {A0 : Option Addr} {c0 : Nat} {f0 : List Int} {f1 : Int} (h : W.heap[g]? = some (.cells #[.slice A0 f0.length c0, .int .i64 f1] 102 (0, 0))) : W.cell? ⟨g, 0, none⟩ = some (.slice A0 f0.length c0) := (blk_cell h 0).trans rfl
theorem cellS102_1 {W : World} {g : Nat} {A0 : Option Addr} {c0 : Nat} {f0 : List Int} {f1 : Int} (h : W.heap[g]? = some (.cells #[.slice A0 f0.length c0, .int .i64 f1] 102 (0, 0))) : W.cell? ⟨g, 1, none⟩ = some (.int .i64 f1) := (blk_cell h 1).trans rfl
theorem IsS102.set_1 {w0 W : World} {g : Nat} {f0 : List Int} {f1 : Int} (h : IsS102 w0 W g f0 f1) (x : Int) : IsS102 w0 (W.setCell ⟨g, 1, none⟩ (.int .i64 x)) g f0 x := by
 obtain ⟨A0, c0, hb, hg, hr0⟩ := h
 exact ⟨A0, c0, by simpa using blk_set hb 1 (.int .i64 x), hg, hr0⟩
theorem is102_ {P Q : Prop} (q : Q) (h : Q → P := by intro q_; repeat (first | (with_reducible first | exact q_ | apply IsS102.alloc | apply IsS102.drewN | apply IsS102.drew | apply IsS102.set_1 | refine IsS102.far ?_ (Aside0.out (by assumption)) _) | exact q_)) : P := h q
theorem hb102_ {P Q : Prop} (q : Q) (h : Q → P := by intro q_; repeat (first | (with_reducible first | exact q_ | apply below_alloc | apply pw_below_drewN | apply below_drew1 | refine below_set ?_ (Aside0.out (by assumption)) | refine below_set ?_ (IsS102.ge (Aside0.out (by assumption)))) | exact q_)) : P := h q
theorem bs102_ {w W W0 W2 : World} (HB : Aside0 (Below w.heap.size w W0)) (hb : Below W.heap.size W W2) (t : Below w.heap.size w W0 → Below w.heap.size w W := by intro q_; repeat (first | (with_reducible first | exact q_ | apply below_alloc | apply pw_below_drewN | apply below_drew1 | refine below_set ?_ (Aside0.out (by assumption)) | refine below_set ?_ (IsS102.ge (Aside0.out (by assumption)))) | exact q_)) : Aside0 (Below w.heap.size w W2) := ⟨below_step (t HB.out) hb⟩
theorem nl102_ {w0 W W0 : World} {g g2 : Nat} {f0 : List Int} {f1 : Int} {g0 : List Int} {g1 : Int} (hg : g2 = W.heap.size) (h : Aside0 (IsS102 w0 W0 g f0 f1)) (t : IsS102 w0 W0 g f0 f1 → IsS102 w0 W g g0 g1 := by intro q_; repeat (first | (with_reducible first | exact q_ | apply IsS102.alloc | apply IsS102.drewN | apply IsS102.drew | apply IsS102.set_1 | refine IsS102.far ?_ (Aside0.out (by assumption)) _) | exact q_)) : Aside0 (g ≠ g2) := ⟨hg ▸ Nat.ne_of_lt (IsS102.lt (t h.out))⟩
theorem ng102_ {w0 W W0 : World} {g g2 : Nat} {f0 : List Int} {f1 : Int} {g0 : List Int} {g1 : Int} (hg : g2 = W.heap.size) (h : Aside0 (IsS102 w0 W0 g f0 f1)) (t : IsS102 w0 W0 g f0 f1 → IsS102 w0 W g g0 g1 := by intro q_; repeat (first | (with_reducible first | exact q_ | apply IsS102.alloc | apply IsS102.drewN | apply IsS102.drew | apply IsS102.set_1 | refine IsS102.far ?_ (Aside0.out (by assumption)) _) | exact q_)) : Aside0 (g2 ≠ g) := ⟨hg ▸ Nat.ne_of_gt (IsS102.lt (t h.out))⟩
theorem ib102_ {w0 W W0 W2 : World} {g : Nat} {f0 : List Int} {f1 : Int} {g0 : List Int} {g1 : Int} (h : Aside0 (IsS102 w0 W0 g f0 f1)) (hb : Below W.heap.size W W2) (t : IsS102 w0 W0 g f0 f1 → IsS102 w0 W g g0 g1 := by intro q_; repeat (first | (with_reducible first | exact q_ | apply IsS102.alloc | apply IsS102.drewN | apply IsS102.drew | apply IsS102.set_1 | refine IsS102.far ?_ (Aside0.out (by assumption)) _) | exact q_)) : Aside0 (IsS102 w0 W2 g g0 g1) := ⟨IsS102.below (t h.out) hb⟩
theorem rk102_ {w0 W0 W1 W W2 : World} {g : Nat} {f0 : List Int} {f1 : Int} {g0 : List Int} {g1 : Int} {α : Type} {d : Kd α} {e : Nat} {base : Nat} {ok : Nat → Prop} {v : Value} {xs : List α} (h : Aside0 (IsS102 w0 W0 g f0 f1)) (ho : Aside0 (d.R e W1 base ok v xs)) (hk : KeepBut W W2 g none) (t : IsS102 w0 W0 g f0 f1 → IsS102 w0 W g g0 g1 := by intro q_; repeat (first | (with_reducible first | exact q_ | apply IsS102.alloc | apply IsS102.drewN | apply IsS102.drew | apply IsS102.set_1 | refine IsS102.far ?_ (Aside0.out (by assumption)) _) | exact q_)) (s : d.R e W1 base ok v xs → d.R e W base ok v xs := by intro q_; (with_reducible repeat (first | apply Kd.R_alloc | apply Kd.R_drewN | apply Kd.R_drew)); exact q_) (ht : ∀ q, q ∈ e :: d.E → q ≠ 102 := by decide) : Aside0 (d.R e W2 base ok v xs) := ⟨Kd.R_mono (Kd.R_keep (IsS102.apart (t h.out) (s ho.out) ht) hk (fun _ h => h.2)) (fun _ h => h.1)⟩
def spec_l20Open.f (l0 : List Int) : Option (List Int × Int) := if (l0.length : Int) > 2000 then (if 2000 ≤ (l0.length : Int) then (some (l0.take 2000, 0)) else (none)) else (some (l0, 0))
set_option maxHeartbeats 8000000 in
set_option maxRecDepth 100000 in
theorem spec_l20Open.calls (A0 : Option Addr) (c0 : Nat) (l0 : List Int) (r1 : List Int) (r2 : Int) (w0 w : World) (hB : Below w0.heap.size w0 w) (hr0 : Kd.C (Kd.int .u8) w0 A0 l0.length l0) (hc0 : l0.length ≤ c0) (h : spec_l20Open.f l0 = some (r1, r2)) :
  Calls Try.prog 39 #[.slice A0 l0.length c0] w fun e w' => ∃ g_ : Nat, e = .returned (.pointer (some ⟨g_, 0, none⟩)) ∧ IsS102 w0 w' g_ r1 r2 ∧ Below w0.heap.size w0 w' ∧ Below w.heap.size w w' := by
 have hu102 := Try.underlying102; have HR0 := Aside0.mk hr0; have HC0 := Aside0.mk hc0; clear hr0 hc0
 have HBW := Aside0.mk (Below.refl w.heap.size w)
 have HW0 := Aside0.mk hB.size; have HB := Aside0.mk hB; clear hB
 have H : (if (l0.length : Int) > 2000 then (if 2000 ≤ (l0.length : Int) then (some (l0.take 2000, 0)) else (none)) else (some (l0, 0))) = some (r1, r2) := h
 clear h
 by_cases c2 : (l0.length : Int) > 2000
 ·rw [if_pos c2] at H
  have c2b0 : decide (2000 < (l0.length : Int)) = true := decide_eq_true c2
  have c2b1 : decide (2000 < l0.length) = true := decide_eq_true (by omega)
  clear c2
  by_cases c3 : 2000 ≤ (l0.length : Int)
  ·rw [if_pos c3] at H
   have c3b0 := eq_true c3
   have c3b1 : decide (2000 ≤ (l0.length : Int)) = true := decide_eq_true c3
   clear c3
   simp only [Option.some.injEq, Prod.mk.injEq] at H
   obtain ⟨rfl, rfl⟩ := H
   obtain ⟨i04, hi04, _, hsz4, _⟩ := info_parts info5
   obtain ⟨hcut4, hA4, hC4⟩ := print_take_of (P := Try.prog) (Value.int .u8) 0 22 5 .i64 Try.underlying22 hi04 hsz4 A0 c0 l0 2000 (by omega) (of_decide_eq_true (by first | (with_reducible assumption) | assumption)) HC0.out
   have HR101 := Aside0.mk (Kd.C_of_reads (h1 := fun _ => rfl) (hA4 _ (Kd.reads_of_C HR0.out)))
   have HC101 := Aside0.mk hC4; clear hA4 hC4 hi04 hsz4
   go_enter Try.func39, Try.ntmps39
   go_wp2_with (first | ((with_reducible refine gate_dst (N := 10) rfl ?_); refine box_ (N := 10) (cs := #[.slice A0 (l0.take 2000).length c0, .int .i64 0]) (t := 102) (fun gb102 hg w5 hbox hb => ?_); replace HB := (bs_ HB hb); have BK102 := Aside0.mk (hbox); have GW102 := Aside0.mk ((by rw [hg]; exact (below_size (hb0_ HBW.out)) : w.heap.size ≤ gb102)); have GE102 := Aside0.mk ((Nat.le_trans HW0.out (by rw [hg]; exact (below_size (hb0_ HBW.out)) : w.heap.size ≤ gb102) : w0.heap.size ≤ gb102)); replace HBW := Aside0.mk (below_step HBW.out hb); clear hb hbox hg))
   go_ret
   exact ⟨_, rfl, (show IsS102 w0 _ gb102 (l0.take 2000) 0 from ⟨_, _, by refine kb_ ?_; exact BK102.out, GE102.out, HR101.out⟩), hbA_ HB.out, by repeat (first | (with_reducible first | exact HBW.out | apply below_alloc | apply pw_below_drewN | apply below_drew1 | refine below_set ?_ GW102.out) | exact HBW.out)⟩
  ·rw [if_neg c3] at H
   exact absurd H (by simp)
 ·rw [if_neg c2] at H
  have c2b0 : decide (2000 < (l0.length : Int)) = false := decide_eq_false c2
  have c2b1 : decide (2000 < l0.length) = false := decide_eq_false (by omega)
  clear c2
  simp only [Option.some.injEq, Prod.mk.injEq] at H
  obtain ⟨rfl, rfl⟩ := H
  go_enter Try.func39, Try.ntmps39
  go_wp2_with (first | ((with_reducible refine gate_dst (N := 10) rfl ?_); refine box_ (N := 10) (cs := #[.slice A0 l0.length c0, .int .i64 0]) (t := 102) (fun gb103 hg w6 hbox hb => ?_); replace HB := (bs_ HB hb); have BK103 := Aside0.mk (hbox); have GW103 := Aside0.mk ((by rw [hg]; exact (below_size (hb0_ HBW.out)) : w.heap.size ≤ gb103)); have GE103 := Aside0.mk ((Nat.le_trans HW0.out (by rw [hg]; exact (below_size (hb0_ HBW.out)) : w.heap.size ≤ gb103) : w0.heap.size ≤ gb103)); replace HBW := Aside0.mk (below_step HBW.out hb); clear hb hbox hg))
  go_ret
  exact ⟨_, rfl, (show IsS102 w0 _ gb103 l0 0 from ⟨_, _, by refine kb_ ?_; exact BK103.out, GE103.out, HR0.out⟩), hbA_ HB.out, by repeat (first | (with_reducible first | exact HBW.out | apply below_alloc | apply pw_below_drewN | apply below_drew1 | refine below_set ?_ GW103.out) | exact HBW.out)⟩
def spec_l20Rd_pick.j0 : Nat → Int → Bool → List Int → Int → Option (Int × Int)
 | 0, _, _, _, _ => none
 | k + 1, x1, x24, x1000, x1001 => if x24 = true then (some (0, x1001)) else (if (wrap64 (x1001 - 1)) < (x1000.length : Int) then (if 0 ≤ (wrap64 (x1001 - 1)) then (if x1 = 0 then (none) else (some (Int.tmod (wrap64 (rd x1000 (wrap64 (x1001 - 1)))) x1, x1001))) else (none)) else (if (x1000.length : Int) = 0 then (none) else (if 0 ≤ (Int.tmod (wrap64 (x1001 - 1)) (x1000.length : Int)) then (if (Int.tmod (wrap64 (x1001 - 1)) (x1000.length : Int)) < (x1000.length : Int) then (if 0 ≤ (Int.tmod (wrap64 ((wrap64 ((wrap64 (x1001 - 1)) * 7)) + 3)) (x1000.length : Int)) then (if (Int.tmod (wrap64 ((wrap64 ((wrap64 (x1001 - 1)) * 7)) + 3)) (x1000.length : Int)) < (x1000.length : Int) then (if x1 = 0 then (none) else (some (Int.tmod (Go.bits .xor .i64 (wrap64 ((wrap64 ((wrap64 ((wrap64 ((wrap64 (rd x1000 (Int.tmod (wrap64 (x1001 - 1)) (x1000.length : Int)))) * 131)) + (wrap64 ((wrap64 (rd x1000 (Int.tmod (wrap64 ((wrap64 ((wrap64 (x1001 - 1)) * 7)) + 3)) (x1000.length : Int)))) * 1117)))) + (wrap64 ((wrap64 (x1001 - 1)) * 29)))) + (wrap64 ((wrap64 (Int.tdiv (wrap64 (x1001 - 1)) (x1000.length : Int))) * 53)))) (wrap64 (Int.tdiv (wrap64 ((wrap64 ((wrap64 ((wrap64 ((wrap64 (rd x1000 (Int.tmod (wrap64 (x1001 - 1)) (x1000.length : Int)))) * 131)) + (wrap64 ((wrap64 (rd x1000 (Int.tmod (wrap64 ((wrap64 ((wrap64 (x1001 - 1)) * 7)) + 3)) (x1000.length : Int)))) * 1117)))) + (wrap64 ((wrap64 (x1001 - 1)) * 29)))) + (wrap64 ((wrap64 (Int.tdiv (wrap64 (x1001 - 1)) (x1000.length : Int))) * 53)))) 64))) x1, x1001))) else (none)) else (none)) else (none)) else (none))))
def spec_l20Rd_pick.f (k : Nat) (s0_0 : List Int) (s0_1 : Int) (a1 : Int) : Option (Int × Int) := if a1 < 1 then (spec_l20Rd_pick.j0 k a1 true s0_0 (wrap64 (s0_1 + 1))) else (spec_l20Rd_pick.j0 k a1 ((s0_0.length : Int) == 0) s0_0 (wrap64 (s0_1 + 1)))
theorem spec_l20Rd_pick.mono_l : ∀ k, (∀ y0 y1 y2 y3, LeO (spec_l20Rd_pick.j0 k y0 y1 y2 y3) (spec_l20Rd_pick.j0 (k + 1) y0 y1 y2 y3))
 | 0 => fun _ _ _ _ r h => by simp [spec_l20Rd_pick.j0] at h
 | k + 1 => by
  have ih0 := spec_l20Rd_pick.mono_l k
  ·intro y0 y1 y2 y3
   unfold spec_l20Rd_pick.j0
   repeat' first | (with_reducible first | apply ih0 | exact LeO.refl _ | exact LeO.none _ | refine LeO.ite ?_ ?_ | refine LeO.bind ?_ fun _ => ?_) | apply ih0 | exact LeO.none _ | refine LeO.ite ?_ ?_ | refine LeO.bind ?_ fun _ => ?_
theorem spec_l20Rd_pick.mono : ∀ a0 a1 a2 k, LeO (spec_l20Rd_pick.f k a0 a1 a2) (spec_l20Rd_pick.f (k + 1) a0 a1 a2) := by
 intro a0 a1 a2 k
 have ih0 := spec_l20Rd_pick.mono_l k
 unfold spec_l20Rd_pick.f
 repeat' first | (with_reducible first | apply ih0 | exact LeO.refl _ | exact LeO.none _ | refine LeO.ite ?_ ?_ | refine LeO.bind ?_ fun _ => ?_) | apply ih0 | exact LeO.none _ | refine LeO.ite ?_ ?_ | refine LeO.bind ?_ fun _ => ?_
set_option maxHeartbeats 8000000 in
set_option maxRecDepth 100000 in
theorem spec_l20Rd_pick.calls (k : Nat) (g : Nat) (s0_0 : List Int) (s0_1 : Int) (a1 : Int) (r1 : Int) (r2 : Int) (w0 w : World) (hI : IsS102 w0 w g s0_0 s0_1) (hB : Below w0.heap.size w0 w) (h : spec_l20Rd_pick.f k s0_0 s0_1 a1 = some (r1, r2)) :
  Calls Try.prog 40 #[.pointer (some ⟨g, 0, none⟩), .int .i64 a1] w fun e w' => e = .returned (.int .i64 r1) ∧ IsS102 w0 w' g s0_0 r2 ∧ Below w0.heap.size w0 w' ∧ KeepBut w w' g none := by
 have HI0 := Aside0.mk hI
 have HK := Aside0.mk (KeepBut.refl w g none)
 have HL := Aside0.mk hB.size; clear hI; have HW0 := Aside0.mk hB.size; have HB := Aside0.mk hB; clear hB
 have H : (if a1 < 1 then (spec_l20Rd_pick.j0 k a1 true s0_0 (wrap64 (s0_1 + 1))) else (spec_l20Rd_pick.j0 k a1 ((s0_0.length : Int) == 0) s0_0 (wrap64 (s0_1 + 1)))) = some (r1, r2) := h
 clear h; have HC3 := Aside0.mk H; clear H
 obtain ⟨ASz4_0, cSz4_0, HGz4, hgz4, HSz4_0⟩ := HI0.out
 have hcz4_0 := cellS102_0 HGz4
 have hcz4_1 := cellS102_1 HGz4
 have hfz4_1 := blk_frozen HGz4 1; clear HGz4 hgz4
 go_enter Try.func40, Try.ntmps40
 go_upto_region 2 with (fail)
 repeat (go_quiet (fail); go_upto_region 2 with (fail))
 go_cut [24] (fun v24 wc => ∃ (kq : Nat) (x24_2 : Bool), v24 = .bool x24_2 ∧ Aside0 (spec_l20Rd_pick.j0 kq a1 x24_2 s0_0 (wrap64 (s0_1 + 1)) = some (r1, r2)) ∧ Aside0 (kq ≤ k) ∧ Aside0 (IsS102 w0 wc g s0_0 (wrap64 (s0_1 + 1))) ∧ Aside0 (KeepBut w wc g none) ∧ Aside0 (Below w0.heap.size w0 wc))
 case first =>
  have H := HC3.out; clear HC3
  by_cases c5 : a1 < 1
  ·rw [if_pos c5] at H
   have c5b0 : decide (a1 < 1) = true := decide_eq_true c5
   clear c5
   (first | rw [c5b0] | (simp only [i64_w, i32_w]; rw [c5b0]) | skip)
   have H' := Aside0.mk H
   clear H
   go_wp2
   repeat (go_quiet (fail); try go_wp2)
   go_meet
   case rel => exact ⟨_, (true), (by first | rfl | (simp; done) | (simp [*]; done)), H', ⟨by first | omega | exact Nat.le_refl _⟩, ⟨is102_ HI0.out⟩, ⟨hkA_ HK.out⟩, ⟨hb102_ HB.out⟩⟩
  ·rw [if_neg c5] at H
   have c5b0 : decide (a1 < 1) = false := decide_eq_false c5
   clear c5
   (first | rw [c5b0] | (simp only [i64_w, i32_w]; rw [c5b0]) | skip)
   have H' := Aside0.mk H
   clear H
   obtain ⟨ASz6_0, cSz6_0, HGz6, hgz6, HSz6_0⟩ := HI0.out
   have hcz6_0 := cellS102_0 HGz6
   have hcz6_1 := cellS102_1 HGz6
   have hfz6_1 := blk_frozen HGz6 1; clear HGz6 hgz6
   go_wp2
   repeat (go_quiet (fail); try go_wp2)
   go_meet
   case rel => exact ⟨_, (((s0_0.length : Int) == 0)), (by first | rfl | (simp; done) | (simp [*]; done)), H', ⟨by first | omega | exact Nat.le_refl _⟩, ⟨is102_ HI0.out⟩, ⟨hkA_ HK.out⟩, ⟨hb102_ HB.out⟩⟩
 case rest =>
  clear HC3; (try clear p2); (try clear c4); (try clear c5); (try clear c5b0); (try clear p6); (try clear hcz4_0); (try clear hcz4_1); (try clear hcz6_0); (try clear hcz6_1); (try clear hfz4_1); (try clear hfz6_1)
  obtain ⟨kq, x24_2, rfl, HA, HJ2, HI0, HK, HB⟩ := hcut
  cases kq with
  | zero => exact absurd HA.out (by simp [spec_l20Rd_pick.j0])
  | succ kj2 =>
   have H := HA.out; clear HA
   simp only [spec_l20Rd_pick.j0] at H
   by_cases c7 : x24_2 = true
   ·subst c7
    rw [if_pos rfl] at H
    simp only [Option.some.injEq, Prod.mk.injEq] at H
    obtain ⟨rfl, rfl⟩ := H
    go_wp2
    repeat (go_quiet (fail); try go_wp2)
    go_ret
    exact ⟨by first | rfl | (simp [errW_none, errW_some] <;> rfl) | (simp [*, errW_none, errW_some] <;> rfl), is102_ HI0.out, hb102_ HB.out, hkA_ HK.out⟩
   ·replace c7 := Bool.eq_false_iff.mpr c7
    subst c7
    rw [if_neg (show ¬ (false = true) by decide)] at H
    by_cases c8 : (wrap64 ((wrap64 (s0_1 + 1)) - 1)) < (s0_0.length : Int)
    ·rw [if_pos c8] at H
     have c8b0 : decide ((wrap64 ((wrap64 (s0_1 + 1)) - 1)) < (s0_0.length : Int)) = true := decide_eq_true c8
     clear c8
     obtain ⟨ji9, hji9⟩ : ∃ j_ : Int, (wrap64 ((wrap64 (s0_1 + 1)) - 1)) = j_ := ⟨_, rfl⟩
     (first | rw [hji9] at H | simp only [hji9] at H)
     (try rw [hji9] at c8b0)
     have hji9w : (IntKind.i64.wrap ((wrap64 (s0_1 + 1)) - 1)) = ji9 := (i64_w _).trans hji9
     by_cases c10 : 0 ≤ (ji9)
     ·rw [if_pos c10] at H
      have c10b0 : decide (0 ≤ (ji9)) = true := decide_eq_true c10
      clear c10
      by_cases c11 : a1 = 0
      ·rw [if_pos c11] at H
       exact absurd H (by simp)
      ·rw [if_neg c11] at H
       have c11b0 : (a1 == 0) = false := beq_eq_false_iff_ne.mpr c11
       have c11b1 : (a1 != 0) = true := bne_iff_ne.mpr c11
       simp only [Option.some.injEq, Prod.mk.injEq] at H
       obtain ⟨rfl, rfl⟩ := H
       obtain ⟨ASz12_0, cSz12_0, HGz12, hgz12, HSz12_0⟩ := HI0.out
       have hcz12_0 := cellS102_0 HGz12
       have hcz12_1 := cellS102_1 HGz12
       have hfz12_1 := blk_frozen HGz12 1; clear HGz12 hgz12
       have p104 : 0 ≤ ((ji9) : Int) := of_decide_eq_true (by first | (with_reducible assumption) | assumption)
       have q104 : (ji9) < (s0_0.length : Int) := of_decide_eq_true (by first | (with_reducible assumption) | assumption)
       obtain ⟨ad104, e104, hx104_0⟩ := Kd.at_int HSz12_0 (ji9) p104 q104
       cases e104
       replace hx104_0 := pw_cell_below HB.out hx104_0
       replace p104 := eq_true p104
       replace q104 := eq_true q104
       go_wp2
       repeat (go_quiet (fail); try go_wp2)
       go_ret
       exact ⟨by first | rfl | (simp [errW_none, errW_some] <;> rfl) | (simp only [← hji9]; first | rfl | (simp [errW_none, errW_some] <;> rfl)) | (simp [*, errW_none, errW_some] <;> rfl), is102_ HI0.out, hb102_ HB.out, hkA_ HK.out⟩
     ·rw [if_neg c10] at H
      exact absurd H (by simp)
    ·rw [if_neg c8] at H
     have c8b0 : decide ((wrap64 ((wrap64 (s0_1 + 1)) - 1)) < (s0_0.length : Int)) = false := decide_eq_false c8
     clear c8
     by_cases c13 : (s0_0.length : Int) = 0
     ·rw [if_pos c13] at H
      exact absurd H (by simp)
     ·rw [if_neg c13] at H
      have c13b0 : ((s0_0.length : Int) == 0) = false := beq_eq_false_iff_ne.mpr c13
      have c13b1 : ((s0_0.length : Int) != 0) = true := bne_iff_ne.mpr c13
      have c13b2 : ¬ (s0_0 = []) := fun h_ => c13 (by rw [h_]; rfl)
      obtain ⟨ji14, hji14⟩ : ∃ j_ : Int, (Int.tmod (wrap64 ((wrap64 (s0_1 + 1)) - 1)) (s0_0.length : Int)) = j_ := ⟨_, rfl⟩
      (first | rw [hji14] at H | simp only [hji14] at H)
      by_cases c15 : 0 ≤ (ji14)
      ·rw [if_pos c15] at H
       have c15b0 : decide (0 ≤ (ji14)) = true := decide_eq_true c15
       clear c15
       by_cases c16 : (ji14) < (s0_0.length : Int)
       ·rw [if_pos c16] at H
        have c16b0 : decide ((ji14) < (s0_0.length : Int)) = true := decide_eq_true c16
        clear c16
        obtain ⟨ji17, hji17⟩ : ∃ j_ : Int, (Int.tmod (wrap64 ((wrap64 ((wrap64 ((wrap64 (s0_1 + 1)) - 1)) * 7)) + 3)) (s0_0.length : Int)) = j_ := ⟨_, rfl⟩
        (first | rw [hji17] at H | simp only [hji17] at H)
        by_cases c18 : 0 ≤ (ji17)
        ·rw [if_pos c18] at H
         have c18b0 : decide (0 ≤ (ji17)) = true := decide_eq_true c18
         clear c18
         by_cases c19 : (ji17) < (s0_0.length : Int)
         ·rw [if_pos c19] at H
          have c19b0 : decide ((ji17) < (s0_0.length : Int)) = true := decide_eq_true c19
          clear c19
          by_cases c20 : a1 = 0
          ·rw [if_pos c20] at H
           exact absurd H (by simp)
          ·rw [if_neg c20] at H
           have c20b0 : (a1 == 0) = false := beq_eq_false_iff_ne.mpr c20
           have c20b1 : (a1 != 0) = true := bne_iff_ne.mpr c20
           simp only [Option.some.injEq, Prod.mk.injEq] at H
           obtain ⟨rfl, rfl⟩ := H
           obtain ⟨ASz21_0, cSz21_0, HGz21, hgz21, HSz21_0⟩ := HI0.out
           have hcz21_0 := cellS102_0 HGz21
           have hcz21_1 := cellS102_1 HGz21
           have hfz21_1 := blk_frozen HGz21 1; clear HGz21 hgz21
           have p105 : 0 ≤ ((ji14) : Int) := of_decide_eq_true (by first | (with_reducible assumption) | assumption)
           have q105 : (ji14) < (s0_0.length : Int) := of_decide_eq_true (by first | (with_reducible assumption) | assumption)
           obtain ⟨ad105, e105, hx105_0⟩ := Kd.at_int HSz21_0 (ji14) p105 q105
           cases e105
           replace hx105_0 := pw_cell_below HB.out hx105_0
           replace p105 := eq_true p105
           replace q105 := eq_true q105
           have p106 : 0 ≤ ((ji17) : Int) := of_decide_eq_true (by first | (with_reducible assumption) | assumption)
           have q106 : (ji17) < (s0_0.length : Int) := of_decide_eq_true (by first | (with_reducible assumption) | assumption)
           obtain ⟨ad106, e106, hx106_0⟩ := Kd.at_int HSz21_0 (ji17) p106 q106
           obtain rfl : ad105 = ad106 := (by injection e106)
           replace hx106_0 := pw_cell_below HB.out hx106_0
           replace p106 := eq_true p106
           replace q106 := eq_true q106
           go_wp2
           repeat (go_quiet (fail); try go_wp2)
           go_ret
           exact ⟨by first | rfl | (simp [errW_none, errW_some] <;> rfl) | (simp only [← hji14, ← hji17]; first | rfl | (simp [errW_none, errW_some] <;> rfl)) | (simp [*, errW_none, errW_some] <;> rfl), is102_ HI0.out, hb102_ HB.out, hkA_ HK.out⟩
         ·rw [if_neg c19] at H
          exact absurd H (by simp)
        ·rw [if_neg c18] at H
         exact absurd H (by simp)
       ·rw [if_neg c16] at H
        exact absurd H (by simp)
      ·rw [if_neg c15] at H
       exact absurd H (by simp)
def spec_l1In.f (a0 : Int) (a1 : Int) (a2 : Int) : Option (Bool) := if a0 ≥ a1 then (some (decide (a0 ≤ a2))) else (some false)
set_option maxHeartbeats 8000000 in
set_option maxRecDepth 100000 in
theorem spec_l1In.calls (a0 : Int) (a1 : Int) (a2 : Int) (r : Bool) (w : World) (h : spec_l1In.f a0 a1 a2 = some r) :
  Calls Try.prog 52 #[.int .i64 a0, .int .i64 a1, .int .i64 a2] w fun e w' => e = .returned (.bool r) ∧ Drawn0 w w' := by
 have H : (if a0 ≥ a1 then (some (decide (a0 ≤ a2))) else (some false)) = some r := h
 clear h
 by_cases c4 : a0 ≥ a1
 ·rw [if_pos c4] at H
  have c4b0 : decide (a1 ≤ a0) = true := decide_eq_true c4
  clear c4
  obtain rfl := Option.some.inj H
  go_enter Try.func52, Try.ntmps52
  go_wp2
  go_ret
  exact ⟨by first | rfl | (simp; done) | (simp [*]; done), by repeat (first | exact Drawn0.refl _ | apply Drawn0.step)⟩
 ·rw [if_neg c4] at H
  have c4b0 : decide (a1 ≤ a0) = false := decide_eq_false c4
  clear c4
  obtain rfl := Option.some.inj H
  go_enter Try.func52, Try.ntmps52
  go_wp2
  go_ret
  exact ⟨by first | rfl | (simp; done) | (simp [*]; done), by repeat (first | exact Drawn0.refl _ | apply Drawn0.step)⟩
def spec_PacketOk.j0 : Nat → Bool → Int → Int → Int → Int → Int → Int → Bool → Bool → List Int → Option (Bool)
 | 0, _, _, _, _, _, _, _, _, _, _ => none
 | k + 1, x36, x108000, x108001, x108002, x108003, x108004, x108005, x108006, x108007, x108008 => if x36 = true then (some false) else (if (x108008.length : Int) ≤ 48 then (if x108006 = true then (if (x108008.length : Int) > 0 then (if x108007 = true then (if x108005 = 0 then (some (!x108006)) else (some false)) else (some true)) else (some false)) else (if x108007 = true then (if x108005 = 0 then (some (!x108006)) else (some false)) else (some true))) else (some false))
def spec_PacketOk.f (k : Nat) (a0_0 : Int) (a0_1 : Int) (a0_2 : Int) (a0_3 : Int) (a0_4 : Int) (a0_5 : Int) (a0_6 : Bool) (a0_7 : Bool) (l0_8 : List Int) : Option (Bool) := (spec_l1In.f a0_0 0 65535).bind fun t108 => (if t108 = true then ((spec_l1In.f a0_1 0 65535).bind fun t109 => (if t109 = true then ((spec_l1In.f a0_2 0 255).bind fun t110 => (if t110 = true then ((spec_l1In.f a0_3 0 255).bind fun t111 => (if t111 = true then ((spec_l1In.f a0_4 0 255).bind fun t112 => (if t112 = true then ((spec_l1In.f a0_5 0 255).bind fun t113 => (spec_PacketOk.j0 k (!t113) a0_0 a0_1 a0_2 a0_3 a0_4 a0_5 a0_6 a0_7 l0_8)) else (spec_PacketOk.j0 k true a0_0 a0_1 a0_2 a0_3 a0_4 a0_5 a0_6 a0_7 l0_8))) else (spec_PacketOk.j0 k true a0_0 a0_1 a0_2 a0_3 a0_4 a0_5 a0_6 a0_7 l0_8))) else (spec_PacketOk.j0 k true a0_0 a0_1 a0_2 a0_3 a0_4 a0_5 a0_6 a0_7 l0_8))) else (spec_PacketOk.j0 k true a0_0 a0_1 a0_2 a0_3 a0_4 a0_5 a0_6 a0_7 l0_8))) else (spec_PacketOk.j0 k true a0_0 a0_1 a0_2 a0_3 a0_4 a0_5 a0_6 a0_7 l0_8))
theorem spec_PacketOk.mono_l : ∀ k, (∀ y0 y1 y2 y3 y4 y5 y6 y7 y8 y9, LeO (spec_PacketOk.j0 k y0 y1 y2 y3 y4 y5 y6 y7 y8 y9) (spec_PacketOk.j0 (k + 1) y0 y1 y2 y3 y4 y5 y6 y7 y8 y9))
 | 0 => fun _ _ _ _ _ _ _ _ _ _ r h => by simp [spec_PacketOk.j0] at h
 | k + 1 => by
  have ih0 := spec_PacketOk.mono_l k
  ·intro y0 y1 y2 y3 y4 y5 y6 y7 y8 y9
   unfold spec_PacketOk.j0
   repeat' first | (with_reducible first | apply ih0 | exact LeO.refl _ | exact LeO.none _ | refine LeO.ite ?_ ?_ | refine LeO.bind ?_ fun _ => ?_) | apply ih0 | exact LeO.none _ | refine LeO.ite ?_ ?_ | refine LeO.bind ?_ fun _ => ?_
theorem spec_PacketOk.mono : ∀ a0 a1 a2 a3 a4 a5 a6 a7 a8 k, LeO (spec_PacketOk.f k a0 a1 a2 a3 a4 a5 a6 a7 a8) (spec_PacketOk.f (k + 1) a0 a1 a2 a3 a4 a5 a6 a7 a8) := by
 intro a0 a1 a2 a3 a4 a5 a6 a7 a8 k
 have ih0 := spec_PacketOk.mono_l k
 unfold spec_PacketOk.f
 repeat' first | (with_reducible first | apply ih0 | exact LeO.refl _ | exact LeO.none _ | refine LeO.ite ?_ ?_ | refine LeO.bind ?_ fun _ => ?_) | apply ih0 | exact LeO.none _ | refine LeO.ite ?_ ?_ | refine LeO.bind ?_ fun _ => ?_
set_option maxHeartbeats 8000000 in
set_option maxRecDepth 100000 in
theorem spec_PacketOk.calls (k : Nat) (a0_0 : Int) (a0_1 : Int) (a0_2 : Int) (a0_3 : Int) (a0_4 : Int) (a0_5 : Int) (a0_6 : Bool) (a0_7 : Bool) (A0_8 : Option Addr) (c0_8 : Nat) (l0_8 : List Int) (r : Bool) (w : World) (hr0_8 : Kd.C (Kd.int .u8) w A0_8 l0_8.length l0_8) (hc0_8 : l0_8.length ≤ c0_8) (h : spec_PacketOk.f k a0_0 a0_1 a0_2 a0_3 a0_4 a0_5 a0_6 a0_7 l0_8 = some r) :
  Calls Try.prog 77 #[.agg #[.int .i64 a0_0, .int .i64 a0_1, .int .i64 a0_2, .int .i64 a0_3, .int .i64 a0_4, .int .i64 a0_5, .bool a0_6, .bool a0_7, .slice A0_8 l0_8.length c0_8]] w fun e w' => e = .returned (.bool r) ∧ Below w.heap.size w w' := by
 have hu28 := Try.underlying28; have HR0_8 := Aside0.mk hr0_8; have HC0_8 := Aside0.mk hc0_8; clear hr0_8 hc0_8
 have HB := Aside0.mk (Below.refl w.heap.size w)
 have H : ((spec_l1In.f a0_0 0 65535).bind fun t108 => (if t108 = true then ((spec_l1In.f a0_1 0 65535).bind fun t109 => (if t109 = true then ((spec_l1In.f a0_2 0 255).bind fun t110 => (if t110 = true then ((spec_l1In.f a0_3 0 255).bind fun t111 => (if t111 = true then ((spec_l1In.f a0_4 0 255).bind fun t112 => (if t112 = true then ((spec_l1In.f a0_5 0 255).bind fun t113 => (spec_PacketOk.j0 k (!t113) a0_0 a0_1 a0_2 a0_3 a0_4 a0_5 a0_6 a0_7 l0_8)) else (spec_PacketOk.j0 k true a0_0 a0_1 a0_2 a0_3 a0_4 a0_5 a0_6 a0_7 l0_8))) else (spec_PacketOk.j0 k true a0_0 a0_1 a0_2 a0_3 a0_4 a0_5 a0_6 a0_7 l0_8))) else (spec_PacketOk.j0 k true a0_0 a0_1 a0_2 a0_3 a0_4 a0_5 a0_6 a0_7 l0_8))) else (spec_PacketOk.j0 k true a0_0 a0_1 a0_2 a0_3 a0_4 a0_5 a0_6 a0_7 l0_8))) else (spec_PacketOk.j0 k true a0_0 a0_1 a0_2 a0_3 a0_4 a0_5 a0_6 a0_7 l0_8))) = some r := h
 clear h; have HC2 := Aside0.mk H; clear H
 go_enter Try.func77, Try.ntmps77
 go_upto_region 1 with (first | ((with_reducible refine gate_dst (N := 1) rfl ?_); (try (refine gate_guard (by rfl) ?_; dsimp only)); refine box_ (N := 1) (cs := #[.int .i64 a0_0, .int .i64 a0_1, .int .i64 a0_2, .int .i64 a0_3, .int .i64 a0_4, .int .i64 a0_5, .bool a0_6, .bool a0_7, .slice A0_8 l0_8.length c0_8]) (t := 28) (fun gb107 hg w3 hbox hb => ?_); have BK107 := Aside0.mk (hbox); have GW107 := ge_ hg HB; have GE107 := ge_ hg HB; replace HB := (bs_ HB hb); clear hb hbox hg))
 (try simp only [Act.put, List.setIfInBounds_toArray, List.set_cons_zero, List.set_cons_succ])
 go_cut [36] (fun v36 wc => ∃ (kq : Nat) (x36_1 : Bool), v36 = .bool x36_1 ∧ Aside0 (spec_PacketOk.j0 kq x36_1 a0_0 a0_1 a0_2 a0_3 a0_4 a0_5 a0_6 a0_7 l0_8 = some r) ∧ Aside0 (kq ≤ k) ∧ Aside0 (wc.heap[gb107]? = some (.cells #[.int .i64 a0_0, .int .i64 a0_1, .int .i64 a0_2, .int .i64 a0_3, .int .i64 a0_4, .int .i64 a0_5, .bool a0_6, .bool a0_7, (.slice A0_8 l0_8.length c0_8)] 28 (0, 0))) ∧ Aside0 (Below w.heap.size w wc))
 case first =>
  have H := HC2.out; clear HC2
  replace H := Option.bind_eq_some_iff.mp H
  obtain ⟨t108, A40, H⟩ := H
  (try dsimp only at H)
  have A4 := Aside0.mk A40; clear A40
  by_cases c5 : t108 = true
  ·subst c5
   rw [if_pos rfl] at H
   replace H := Option.bind_eq_some_iff.mp H
   obtain ⟨t109, A60, H⟩ := H
   (try dsimp only at H)
   have A6 := Aside0.mk A60; clear A60
   by_cases c7 : t109 = true
   ·subst c7
    rw [if_pos rfl] at H
    replace H := Option.bind_eq_some_iff.mp H
    obtain ⟨t110, A80, H⟩ := H
    (try dsimp only at H)
    have A8 := Aside0.mk A80; clear A80
    by_cases c9 : t110 = true
    ·subst c9
     rw [if_pos rfl] at H
     replace H := Option.bind_eq_some_iff.mp H
     obtain ⟨t111, A100, H⟩ := H
     (try dsimp only at H)
     have A10 := Aside0.mk A100; clear A100
     by_cases c11 : t111 = true
     ·subst c11
      rw [if_pos rfl] at H
      replace H := Option.bind_eq_some_iff.mp H
      obtain ⟨t112, A120, H⟩ := H
      (try dsimp only at H)
      have A12 := Aside0.mk A120; clear A120
      by_cases c13 : t112 = true
      ·subst c13
       rw [if_pos rfl] at H
       replace H := Option.bind_eq_some_iff.mp H
       obtain ⟨t113, A140, H⟩ := H
       (try dsimp only at H)
       have A14 := Aside0.mk A140; clear A140
       have H' := Aside0.mk H
       clear H; have Z15 := zz9 BK107
       go_wp2_with (first | ((with_reducible refine gate_callee (f := 52) rfl ?_); refine goesL_ (some 5) rfl rfl Try.func52 (by kernel_rfl) rfl #[.int .i64 a0_0, .int .i64 0, .int .i64 65535] rfl ar_ ?_; (with_reducible refine (spec_l1In.calls a0_0 0 65535 true _ A4.out).mono ?_); rintro e w' ⟨rfl, ⟨nd, rfl⟩⟩; refine ⟨_, rfl, ?_⟩) | (go_at_call 52; (with_reducible refine (spec_l1In.calls a0_1 0 65535 true _ A6.out).mono ?_); rintro e w' ⟨rfl, ⟨nd, rfl⟩⟩) | (go_at_call 52; (with_reducible refine (spec_l1In.calls a0_2 0 255 true _ A8.out).mono ?_); rintro e w' ⟨rfl, ⟨nd, rfl⟩⟩) | (go_at_call 52; (with_reducible refine (spec_l1In.calls a0_3 0 255 true _ A10.out).mono ?_); rintro e w' ⟨rfl, ⟨nd, rfl⟩⟩) | (go_at_call 52; (with_reducible refine (spec_l1In.calls a0_4 0 255 true _ A12.out).mono ?_); rintro e w' ⟨rfl, ⟨nd, rfl⟩⟩) | (go_at_call 52; (with_reducible refine (spec_l1In.calls a0_5 0 255 t113 _ A14.out).mono ?_); rintro e w' ⟨rfl, ⟨nd, rfl⟩⟩))
       go_meet
       case rel => exact ⟨_, (!t113), (by first | rfl | (simp; done) | (simp [*]; done)), H', ⟨by first | omega | exact Nat.le_refl _⟩, ⟨by refine kb_ ?_; exact BK107.out⟩, ⟨hbA_ HB.out⟩⟩
      ·replace c13 := Bool.eq_false_iff.mpr c13
       subst c13
       rw [if_neg (show ¬ (false = true) by decide)] at H
       have H' := Aside0.mk H
       clear H; have Z16 := zz9 BK107
       go_wp2_with (first | ((with_reducible refine gate_callee (f := 52) rfl ?_); refine goesL_ (some 5) rfl rfl Try.func52 (by kernel_rfl) rfl #[.int .i64 a0_0, .int .i64 0, .int .i64 65535] rfl ar_ ?_; (with_reducible refine (spec_l1In.calls a0_0 0 65535 true _ A4.out).mono ?_); rintro e w' ⟨rfl, ⟨nd, rfl⟩⟩; refine ⟨_, rfl, ?_⟩) | (go_at_call 52; (with_reducible refine (spec_l1In.calls a0_1 0 65535 true _ A6.out).mono ?_); rintro e w' ⟨rfl, ⟨nd, rfl⟩⟩) | (go_at_call 52; (with_reducible refine (spec_l1In.calls a0_2 0 255 true _ A8.out).mono ?_); rintro e w' ⟨rfl, ⟨nd, rfl⟩⟩) | (go_at_call 52; (with_reducible refine (spec_l1In.calls a0_3 0 255 true _ A10.out).mono ?_); rintro e w' ⟨rfl, ⟨nd, rfl⟩⟩) | (go_at_call 52; (with_reducible refine (spec_l1In.calls a0_4 0 255 false _ A12.out).mono ?_); rintro e w' ⟨rfl, ⟨nd, rfl⟩⟩))
       go_meet
       case rel => exact ⟨_, (true), (by first | rfl | (simp; done) | (simp [*]; done)), H', ⟨by first | omega | exact Nat.le_refl _⟩, ⟨by refine kb_ ?_; exact BK107.out⟩, ⟨hbA_ HB.out⟩⟩
     ·replace c11 := Bool.eq_false_iff.mpr c11
      subst c11
      rw [if_neg (show ¬ (false = true) by decide)] at H
      have H' := Aside0.mk H
      clear H; have Z17 := zz9 BK107
      go_wp2_with (first | ((with_reducible refine gate_callee (f := 52) rfl ?_); refine goesL_ (some 5) rfl rfl Try.func52 (by kernel_rfl) rfl #[.int .i64 a0_0, .int .i64 0, .int .i64 65535] rfl ar_ ?_; (with_reducible refine (spec_l1In.calls a0_0 0 65535 true _ A4.out).mono ?_); rintro e w' ⟨rfl, ⟨nd, rfl⟩⟩; refine ⟨_, rfl, ?_⟩) | (go_at_call 52; (with_reducible refine (spec_l1In.calls a0_1 0 65535 true _ A6.out).mono ?_); rintro e w' ⟨rfl, ⟨nd, rfl⟩⟩) | (go_at_call 52; (with_reducible refine (spec_l1In.calls a0_2 0 255 true _ A8.out).mono ?_); rintro e w' ⟨rfl, ⟨nd, rfl⟩⟩) | (go_at_call 52; (with_reducible refine (spec_l1In.calls a0_3 0 255 false _ A10.out).mono ?_); rintro e w' ⟨rfl, ⟨nd, rfl⟩⟩))
      go_meet
      case rel => exact ⟨_, (true), (by first | rfl | (simp; done) | (simp [*]; done)), H', ⟨by first | omega | exact Nat.le_refl _⟩, ⟨by refine kb_ ?_; exact BK107.out⟩, ⟨hbA_ HB.out⟩⟩
    ·replace c9 := Bool.eq_false_iff.mpr c9
     subst c9
     rw [if_neg (show ¬ (false = true) by decide)] at H
     have H' := Aside0.mk H
     clear H; have Z18 := zz9 BK107
     go_wp2_with (first | ((with_reducible refine gate_callee (f := 52) rfl ?_); refine goesL_ (some 5) rfl rfl Try.func52 (by kernel_rfl) rfl #[.int .i64 a0_0, .int .i64 0, .int .i64 65535] rfl ar_ ?_; (with_reducible refine (spec_l1In.calls a0_0 0 65535 true _ A4.out).mono ?_); rintro e w' ⟨rfl, ⟨nd, rfl⟩⟩; refine ⟨_, rfl, ?_⟩) | (go_at_call 52; (with_reducible refine (spec_l1In.calls a0_1 0 65535 true _ A6.out).mono ?_); rintro e w' ⟨rfl, ⟨nd, rfl⟩⟩) | (go_at_call 52; (with_reducible refine (spec_l1In.calls a0_2 0 255 false _ A8.out).mono ?_); rintro e w' ⟨rfl, ⟨nd, rfl⟩⟩))
     go_meet
     case rel => exact ⟨_, (true), (by first | rfl | (simp; done) | (simp [*]; done)), H', ⟨by first | omega | exact Nat.le_refl _⟩, ⟨by refine kb_ ?_; exact BK107.out⟩, ⟨hbA_ HB.out⟩⟩
   ·replace c7 := Bool.eq_false_iff.mpr c7
    subst c7
    rw [if_neg (show ¬ (false = true) by decide)] at H
    have H' := Aside0.mk H
    clear H; have Z19 := zz9 BK107
    go_wp2_with (first | ((with_reducible refine gate_callee (f := 52) rfl ?_); refine goesL_ (some 5) rfl rfl Try.func52 (by kernel_rfl) rfl #[.int .i64 a0_0, .int .i64 0, .int .i64 65535] rfl ar_ ?_; (with_reducible refine (spec_l1In.calls a0_0 0 65535 true _ A4.out).mono ?_); rintro e w' ⟨rfl, ⟨nd, rfl⟩⟩; refine ⟨_, rfl, ?_⟩) | (go_at_call 52; (with_reducible refine (spec_l1In.calls a0_1 0 65535 false _ A6.out).mono ?_); rintro e w' ⟨rfl, ⟨nd, rfl⟩⟩))
    go_meet
    case rel => exact ⟨_, (true), (by first | rfl | (simp; done) | (simp [*]; done)), H', ⟨by first | omega | exact Nat.le_refl _⟩, ⟨by refine kb_ ?_; exact BK107.out⟩, ⟨hbA_ HB.out⟩⟩
  ·replace c5 := Bool.eq_false_iff.mpr c5
   subst c5
   rw [if_neg (show ¬ (false = true) by decide)] at H
   have H' := Aside0.mk H
   clear H; have Z20 := zz9 BK107
   go_wp2_with (first | ((with_reducible refine gate_callee (f := 52) rfl ?_); refine goesL_ (some 5) rfl rfl Try.func52 (by kernel_rfl) rfl #[.int .i64 a0_0, .int .i64 0, .int .i64 65535] rfl ar_ ?_; (with_reducible refine (spec_l1In.calls a0_0 0 65535 false _ A4.out).mono ?_); rintro e w' ⟨rfl, ⟨nd, rfl⟩⟩; refine ⟨_, rfl, ?_⟩))
   go_meet
   case rel => exact ⟨_, (true), (by first | rfl | (simp; done) | (simp [*]; done)), H', ⟨by first | omega | exact Nat.le_refl _⟩, ⟨by refine kb_ ?_; exact BK107.out⟩, ⟨hbA_ HB.out⟩⟩
 case rest =>
  clear HC2; (try clear c1); (try clear p2); (try clear c5); (try clear c7); (try clear c9); (try clear c11); (try clear c13); (try clear Z15); (try clear Z16); (try clear Z17); (try clear Z18); (try clear Z19); (try clear Z20)
  obtain ⟨kq, x36_1, rfl, HA, HJ1, BK107, HB⟩ := hcut
  cases kq with
  | zero => exact absurd HA.out (by simp [spec_PacketOk.j0])
  | succ kj1 =>
   have H := HA.out; clear HA
   simp only [spec_PacketOk.j0] at H
   by_cases c21 : x36_1 = true
   ·subst c21
    rw [if_pos rfl] at H
    obtain rfl := Option.some.inj H
    go_wp2
    go_ret
    exact ⟨by first | rfl | (simp [errW_none, errW_some] <;> rfl) | (simp [*, errW_none, errW_some] <;> rfl), hbA_ HB.out⟩
   ·replace c21 := Bool.eq_false_iff.mpr c21
    subst c21
    rw [if_neg (show ¬ (false = true) by decide)] at H
    by_cases c22 : (l0_8.length : Int) ≤ 48
    ·rw [if_pos c22] at H
     have c22b0 : decide ((l0_8.length : Int) ≤ 48) = true := decide_eq_true c22
     have c22b1 : decide (l0_8.length ≤ 48) = true := decide_eq_true (by omega)
     clear c22
     by_cases c23 : a0_6 = true
     ·subst c23
      rw [if_pos rfl] at H
      by_cases c24 : (l0_8.length : Int) > 0
      ·rw [if_pos c24] at H
       have c24b0 : decide (0 < (l0_8.length : Int)) = true := decide_eq_true c24
       have c24b1 : decide (0 < l0_8.length) = true := decide_eq_true (by omega)
       clear c24
       by_cases c25 : a0_7 = true
       ·subst c25
        rw [if_pos rfl] at H
        by_cases c26 : a0_5 = 0
        ·rw [if_pos c26] at H
         have c26b0 : (a0_5 == 0) = true := beq_iff_eq.mpr c26
         have c26b1 : (a0_5 != 0) = false := bne_eq_false_iff_eq.mpr c26
         clear c26
         obtain rfl := Option.some.inj H
         have Z27 := zz9 BK107
         go_wp2
         go_ret
         exact ⟨by first | rfl | (simp [errW_none, errW_some] <;> rfl) | (simp [*, errW_none, errW_some] <;> rfl), hbA_ HB.out⟩
        ·rw [if_neg c26] at H
         have c26b0 : (a0_5 == 0) = false := beq_eq_false_iff_ne.mpr c26
         have c26b1 : (a0_5 != 0) = true := bne_iff_ne.mpr c26
         obtain rfl := Option.some.inj H
         have Z28 := zz9 BK107
         go_wp2
         go_ret
         exact ⟨by first | rfl | (simp [errW_none, errW_some] <;> rfl) | (simp [*, errW_none, errW_some] <;> rfl), hbA_ HB.out⟩
       ·replace c25 := Bool.eq_false_iff.mpr c25
        subst c25
        rw [if_neg (show ¬ (false = true) by decide)] at H
        obtain rfl := Option.some.inj H
        have Z29 := zz9 BK107
        go_wp2
        go_ret
        exact ⟨by first | rfl | (simp [errW_none, errW_some] <;> rfl) | (simp [*, errW_none, errW_some] <;> rfl), hbA_ HB.out⟩
      ·rw [if_neg c24] at H
       have c24b0 : decide (0 < (l0_8.length : Int)) = false := decide_eq_false c24
       have c24b1 : decide (0 < l0_8.length) = false := decide_eq_false (by omega)
       clear c24
       obtain rfl := Option.some.inj H
       have Z30 := zz9 BK107
       go_wp2
       go_ret
       exact ⟨by first | rfl | (simp [errW_none, errW_some] <;> rfl) | (simp [*, errW_none, errW_some] <;> rfl), hbA_ HB.out⟩
     ·replace c23 := Bool.eq_false_iff.mpr c23
      subst c23
      rw [if_neg (show ¬ (false = true) by decide)] at H
      by_cases c31 : a0_7 = true
      ·subst c31
       rw [if_pos rfl] at H
       by_cases c32 : a0_5 = 0
       ·rw [if_pos c32] at H
        have c32b0 : (a0_5 == 0) = true := beq_iff_eq.mpr c32
        have c32b1 : (a0_5 != 0) = false := bne_eq_false_iff_eq.mpr c32
        clear c32
        obtain rfl := Option.some.inj H
        have Z33 := zz9 BK107
        go_wp2
        go_ret
        exact ⟨by first | rfl | (simp [errW_none, errW_some] <;> rfl) | (simp [*, errW_none, errW_some] <;> rfl), hbA_ HB.out⟩
       ·rw [if_neg c32] at H
        have c32b0 : (a0_5 == 0) = false := beq_eq_false_iff_ne.mpr c32
        have c32b1 : (a0_5 != 0) = true := bne_iff_ne.mpr c32
        obtain rfl := Option.some.inj H
        have Z34 := zz9 BK107
        go_wp2
        go_ret
        exact ⟨by first | rfl | (simp [errW_none, errW_some] <;> rfl) | (simp [*, errW_none, errW_some] <;> rfl), hbA_ HB.out⟩
      ·replace c31 := Bool.eq_false_iff.mpr c31
       subst c31
       rw [if_neg (show ¬ (false = true) by decide)] at H
       obtain rfl := Option.some.inj H
       have Z35 := zz9 BK107
       go_wp2
       go_ret
       exact ⟨by first | rfl | (simp [errW_none, errW_some] <;> rfl) | (simp [*, errW_none, errW_some] <;> rfl), hbA_ HB.out⟩
    ·rw [if_neg c22] at H
     have c22b0 : decide ((l0_8.length : Int) ≤ 48) = false := decide_eq_false c22
     have c22b1 : decide (l0_8.length ≤ 48) = false := decide_eq_false (by omega)
     clear c22
     obtain rfl := Option.some.inj H
     have Z36 := zz9 BK107
     go_wp2
     go_ret
     exact ⟨by first | rfl | (simp [errW_none, errW_some] <;> rfl) | (simp [*, errW_none, errW_some] <;> rfl), hbA_ HB.out⟩
mutual
def spec_PacketCut.j0 : Nat → Int → List (S28) → Bool → Int → Int → Int → Int → Int → Int → Bool → Bool → List Int → Option ((List (S28)) × Bool)
 | 0, _, _, _, _, _, _, _, _, _, _, _, _ => none
 | k + 1, x1, x6, x29, x115000, x115001, x115002, x115003, x115004, x115005, x115006, x115007, x115008 => if x29 = true then (some (x6, false)) else (spec_PacketCut.l0 k x1 x6 0 x115000 x115001 x115002 x115003 x115004 x115005 x115006 x115007 x115008)
def spec_PacketCut.l0 : Nat → Int → List (S28) → Int → Int → Int → Int → Int → Int → Int → Bool → Bool → List Int → Option ((List (S28)) × Bool)
 | 0, _, _, _, _, _, _, _, _, _, _, _, _ => none
 | k + 1, x1, x6, x7, x115000, x115001, x115002, x115003, x115004, x115005, x115006, x115007, x115008 => if x7 = 0 then (spec_PacketCut.j2 k x1 x6 x7 true x115000 x115001 x115002 x115003 x115004 x115005 x115006 x115007 x115008) else (spec_PacketCut.j2 k x1 x6 x7 (decide (x7 < (x115008.length : Int))) x115000 x115001 x115002 x115003 x115004 x115005 x115006 x115007 x115008)
def spec_PacketCut.j2 : Nat → Int → List (S28) → Int → Bool → Int → Int → Int → Int → Int → Int → Bool → Bool → List Int → Option ((List (S28)) × Bool)
 | 0, _, _, _, _, _, _, _, _, _, _, _, _, _ => none
 | k + 1, x1, x6, x7, x39, x115000, x115001, x115002, x115003, x115004, x115005, x115006, x115007, x115008 => if x39 = true then (if x115006 = true then ((some (([] : List Int) : List Int)).bind fun y121 => (if 0 ≤ x7 then (if x7 ≤ (mn (wrap64 (x7 + x1)) (x115008.length : Int)) then (if (mn (wrap64 (x7 + x1)) (x115008.length : Int)) ≤ (x115008.length : Int) then (if y121.length + ((x115008.take ((mn (wrap64 (x7 + x1)) (x115008.length : Int)) : Int).toNat).drop (x7 : Int).toNat).length < 140737488355328 then (if (wrap64 (x115005 + x7)) > 255 then (some ((([] : List (S28))), false)) else (if x6.length < 1759218604441 then (spec_PacketCut.l0 k x1 (x6 ++ [(⟨x115000, x115001, x115002, x115003, x115004, wrap64 (x115005 + x7), true, x115007, (y121 ++ ((x115008.take ((mn (wrap64 (x7 + x1)) (x115008.length : Int)) : Int).toNat).drop (x7 : Int).toNat))⟩ : S28)]) (wrap64 (x7 + x1)) x115000 x115001 x115002 x115003 x115004 x115005 x115006 x115007 x115008) else (none))) else (none)) else (none)) else (none)) else (none))) else ((some (([] : List Int) : List Int)).bind fun y134 => (if 0 ≤ x7 then (if x7 ≤ (mn (wrap64 (x7 + x1)) (x115008.length : Int)) then (if (mn (wrap64 (x7 + x1)) (x115008.length : Int)) ≤ (x115008.length : Int) then (if y134.length + ((x115008.take ((mn (wrap64 (x7 + x1)) (x115008.length : Int)) : Int).toNat).drop (x7 : Int).toNat).length < 140737488355328 then (if (wrap64 (x115005 + x7)) > 255 then (some ((([] : List (S28))), false)) else (if x6.length < 1759218604441 then (spec_PacketCut.l0 k x1 (x6 ++ [(⟨x115000, x115001, x115002, x115003, x115004, wrap64 (x115005 + x7), decide ((mn (wrap64 (x7 + x1)) (x115008.length : Int)) < (x115008.length : Int)), x115007, (y134 ++ ((x115008.take ((mn (wrap64 (x7 + x1)) (x115008.length : Int)) : Int).toNat).drop (x7 : Int).toNat))⟩ : S28)]) (wrap64 (x7 + x1)) x115000 x115001 x115002 x115003 x115004 x115005 x115006 x115007 x115008) else (none))) else (none)) else (none)) else (none)) else (none)))) else (some (x6, true))
end
def spec_PacketCut.f (k : Nat) (a0_0 : Int) (a0_1 : Int) (a0_2 : Int) (a0_3 : Int) (a0_4 : Int) (a0_5 : Int) (a0_6 : Bool) (a0_7 : Bool) (l0_8 : List Int) (a1 : Int) : Option ((List (S28)) × Bool) := (some (([] : List (S28)) : List (S28))).bind fun y115 => ((spec_PacketOk.f k a0_0 a0_1 a0_2 a0_3 a0_4 a0_5 a0_6 a0_7 l0_8).bind fun t118 => (if t118 = true then ((spec_l1In.f a1 1 48).bind fun t119 => (if t119 = true then (if (l0_8.length : Int) > a1 then (spec_PacketCut.j0 k a1 y115 a0_7 a0_0 a0_1 a0_2 a0_3 a0_4 a0_5 a0_6 a0_7 l0_8) else (spec_PacketCut.j0 k a1 y115 false a0_0 a0_1 a0_2 a0_3 a0_4 a0_5 a0_6 a0_7 l0_8)) else (spec_PacketCut.j0 k a1 y115 true a0_0 a0_1 a0_2 a0_3 a0_4 a0_5 a0_6 a0_7 l0_8))) else (spec_PacketCut.j0 k a1 y115 true a0_0 a0_1 a0_2 a0_3 a0_4 a0_5 a0_6 a0_7 l0_8)))
theorem spec_PacketCut.mono_l : ∀ k, (∀ y0 y1 y2 y3 y4 y5 y6 y7 y8 y9 y10 y11, LeO (spec_PacketCut.j0 k y0 y1 y2 y3 y4 y5 y6 y7 y8 y9 y10 y11) (spec_PacketCut.j0 (k + 1) y0 y1 y2 y3 y4 y5 y6 y7 y8 y9 y10 y11)) ∧ (∀ y0 y1 y2 y3 y4 y5 y6 y7 y8 y9 y10 y11, LeO (spec_PacketCut.l0 k y0 y1 y2 y3 y4 y5 y6 y7 y8 y9 y10 y11) (spec_PacketCut.l0 (k + 1) y0 y1 y2 y3 y4 y5 y6 y7 y8 y9 y10 y11)) ∧ (∀ y0 y1 y2 y3 y4 y5 y6 y7 y8 y9 y10 y11 y12, LeO (spec_PacketCut.j2 k y0 y1 y2 y3 y4 y5 y6 y7 y8 y9 y10 y11 y12) (spec_PacketCut.j2 (k + 1) y0 y1 y2 y3 y4 y5 y6 y7 y8 y9 y10 y11 y12))
 | 0 => ⟨fun _ _ _ _ _ _ _ _ _ _ _ _ r h => by simp [spec_PacketCut.j0] at h, fun _ _ _ _ _ _ _ _ _ _ _ _ r h => by simp [spec_PacketCut.l0] at h, fun _ _ _ _ _ _ _ _ _ _ _ _ _ r h => by simp [spec_PacketCut.j2] at h⟩
 | k + 1 => by
  obtain ⟨ih0, ih1, ih2⟩ := spec_PacketCut.mono_l k
  refine ⟨?_, ?_, ?_⟩
  ·intro y0 y1 y2 y3 y4 y5 y6 y7 y8 y9 y10 y11
   unfold spec_PacketCut.j0
   repeat' first | (with_reducible first | apply ih0 | apply ih1 | apply ih2 | apply spec_PacketOk.mono | exact LeO.refl _ | exact LeO.none _ | refine LeO.ite ?_ ?_ | refine LeO.bind ?_ fun _ => ?_) | apply ih0 | apply ih1 | apply ih2 | apply spec_PacketOk.mono | exact LeO.none _ | refine LeO.ite ?_ ?_ | refine LeO.bind ?_ fun _ => ?_
  ·intro y0 y1 y2 y3 y4 y5 y6 y7 y8 y9 y10 y11
   unfold spec_PacketCut.l0
   repeat' first | (with_reducible first | apply ih0 | apply ih1 | apply ih2 | apply spec_PacketOk.mono | exact LeO.refl _ | exact LeO.none _ | refine LeO.ite ?_ ?_ | refine LeO.bind ?_ fun _ => ?_) | apply ih0 | apply ih1 | apply ih2 | apply spec_PacketOk.mono | exact LeO.none _ | refine LeO.ite ?_ ?_ | refine LeO.bind ?_ fun _ => ?_
  ·intro y0 y1 y2 y3 y4 y5 y6 y7 y8 y9 y10 y11 y12
   unfold spec_PacketCut.j2
   repeat' first | (with_reducible first | apply ih0 | apply ih1 | apply ih2 | apply spec_PacketOk.mono | exact LeO.refl _ | exact LeO.none _ | refine LeO.ite ?_ ?_ | refine LeO.bind ?_ fun _ => ?_) | apply ih0 | apply ih1 | apply ih2 | apply spec_PacketOk.mono | exact LeO.none _ | refine LeO.ite ?_ ?_ | refine LeO.bind ?_ fun _ => ?_
theorem spec_PacketCut.mono : ∀ a0 a1 a2 a3 a4 a5 a6 a7 a8 a9 k, LeO (spec_PacketCut.f k a0 a1 a2 a3 a4 a5 a6 a7 a8 a9) (spec_PacketCut.f (k + 1) a0 a1 a2 a3 a4 a5 a6 a7 a8 a9) := by
 intro a0 a1 a2 a3 a4 a5 a6 a7 a8 a9 k
 obtain ⟨ih0, ih1, ih2⟩ := spec_PacketCut.mono_l k
 unfold spec_PacketCut.f
 repeat' first | (with_reducible first | apply ih0 | apply ih1 | apply ih2 | apply spec_PacketOk.mono | exact LeO.refl _ | exact LeO.none _ | refine LeO.ite ?_ ?_ | refine LeO.bind ?_ fun _ => ?_) | apply ih0 | apply ih1 | apply ih2 | apply spec_PacketOk.mono | exact LeO.none _ | refine LeO.ite ?_ ?_ | refine LeO.bind ?_ fun _ => ?_
set_option maxHeartbeats 8000000 in
set_option maxRecDepth 100000 in
theorem spec_PacketCut.calls (k : Nat) (a0_0 : Int) (a0_1 : Int) (a0_2 : Int) (a0_3 : Int) (a0_4 : Int) (a0_5 : Int) (a0_6 : Bool) (a0_7 : Bool) (A0_8 : Option Addr) (c0_8 : Nat) (l0_8 : List Int) (a1 : Int) (r1 : List (S28)) (r2 : Bool) (w : World) (hr0_8 : Kd.C (Kd.int .u8) w A0_8 l0_8.length l0_8) (hc0_8 : l0_8.length ≤ c0_8) (h : spec_PacketCut.f k a0_0 a0_1 a0_2 a0_3 a0_4 a0_5 a0_6 a0_7 l0_8 a1 = some (r1, r2)) :
  Calls Try.prog 41 #[.agg #[.int .i64 a0_0, .int .i64 a0_1, .int .i64 a0_2, .int .i64 a0_3, .int .i64 a0_4, .int .i64 a0_5, .bool a0_6, .bool a0_7, .slice A0_8 l0_8.length c0_8], .int .i64 a1] w fun e w' => ∃ v0_ : Value, e = .returned (.tuple #[v0_, .bool r2]) ∧ Kd.S k28 28 w' w.heap.size (fun _ => True) v0_ r1 ∧ Below w.heap.size w w' := by
 have hu28 := Try.underlying28; have HR0_8 := Aside0.mk hr0_8; have HC0_8 := Aside0.mk hc0_8; clear hr0_8 hc0_8
 have HB := Aside0.mk (Below.refl w.heap.size w)
 have H : ((some (([] : List (S28)) : List (S28))).bind fun y115 => ((spec_PacketOk.f k a0_0 a0_1 a0_2 a0_3 a0_4 a0_5 a0_6 a0_7 l0_8).bind fun t118 => (if t118 = true then ((spec_l1In.f a1 1 48).bind fun t119 => (if t119 = true then (if (l0_8.length : Int) > a1 then (spec_PacketCut.j0 k a1 y115 a0_7 a0_0 a0_1 a0_2 a0_3 a0_4 a0_5 a0_6 a0_7 l0_8) else (spec_PacketCut.j0 k a1 y115 false a0_0 a0_1 a0_2 a0_3 a0_4 a0_5 a0_6 a0_7 l0_8)) else (spec_PacketCut.j0 k a1 y115 true a0_0 a0_1 a0_2 a0_3 a0_4 a0_5 a0_6 a0_7 l0_8))) else (spec_PacketCut.j0 k a1 y115 true a0_0 a0_1 a0_2 a0_3 a0_4 a0_5 a0_6 a0_7 l0_8)))) = some (r1, r2) := h
 clear h
 obtain ⟨y115, hy115⟩ : ∃ y_ : List (S28), y_ = (([] : List (S28))) := ⟨_, rfl⟩
 (first | replace H := sb_ hy115 H | rw [← hy115] at H)
 have Ny115 := Aside0.mk hy115; clear hy115; have HC3 := Aside0.mk H; clear H
 go_enter Try.func41, Try.ntmps41
 go_upto_region 2 with (first | ((with_reducible refine gate_dst (N := 2) rfl ?_); (try (refine gate_guard (by rfl) ?_; dsimp only)); refine box_ (N := 2) (cs := #[.int .i64 a0_0, .int .i64 a0_1, .int .i64 a0_2, .int .i64 a0_3, .int .i64 a0_4, .int .i64 a0_5, .bool a0_6, .bool a0_7, .slice A0_8 l0_8.length c0_8]) (t := 28) (fun gb114 hg w4 hbox hb => ?_); have BK114 := Aside0.mk (hbox); have GW114 := ge_ hg HB; have GE114 := ge_ hg HB; replace HB := (bs_ HB hb); clear hb hbox hg) | ((with_reducible refine gate_dst (N := 10) rfl ?_); (try (refine gate_guard (by rfl) ?_; dsimp only)); refine Kd.S_lit k28 _ 28 ?hg (N := 10) ?hd (xs := ([] : List (S28))) (inner := []) (ok := fun _ => True) (okp := fun _ => True) ?hr ?hp (fun _ hk => hk) trivial (Below.refl _ _) (Nat.le_refl _) (by simp) ?_; (case hd => rfl); (case hg => rfl); (case hr => first | (go_simp; done) | (go_simp; rfl)); (case hp => exact (Reps.none _ _)); intro v116 w5 ho6 hb hg_ hnew_; clear hg_ hnew_; (first | rw [← Ny115.out] at ho6 | (simp only [Int.reduceToNat] at ho6; rw [← Ny115.out] at ho6)); have HO117 := Aside0.mk (Kd.S_lower (nbS_ ho6 BK114) (below_size (hbA_ HB.out))); replace BK114 := (bbA_ BK114 hb); replace HB := (bs_ HB hb); clear hb ho6))
 (try simp only [Act.put, List.setIfInBounds_toArray, List.set_cons_zero, List.set_cons_succ])
 go_cut [29] (fun v29 wc => ∃ (kq : Nat) (x29_2 : Bool), v29 = .bool x29_2 ∧ Aside0 (spec_PacketCut.j0 kq a1 y115 x29_2 a0_0 a0_1 a0_2 a0_3 a0_4 a0_5 a0_6 a0_7 l0_8 = some (r1, r2)) ∧ Aside0 (kq ≤ k) ∧ Aside0 (Kd.S k28 28 wc w.heap.size (fun k_ => k_ ≠ gb114) v116 y115) ∧ Aside0 (wc.heap[gb114]? = some (.cells #[.int .i64 a0_0, .int .i64 a0_1, .int .i64 a0_2, .int .i64 a0_3, .int .i64 a0_4, .int .i64 a0_5, .bool a0_6, .bool a0_7, (.slice A0_8 l0_8.length c0_8)] 28 (0, 0))) ∧ Aside0 (Below w.heap.size w wc))
 case first =>
  have H := HC3.out; clear HC3
  replace H := Option.bind_eq_some_iff.mp H
  obtain ⟨t118, A70, H⟩ := H
  (try dsimp only at H)
  have A7 := Aside0.mk A70; clear A70
  by_cases c8 : t118 = true
  ·subst c8
   rw [if_pos rfl] at H
   replace H := Option.bind_eq_some_iff.mp H
   obtain ⟨t119, A90, H⟩ := H
   (try dsimp only at H)
   have A9 := Aside0.mk A90; clear A90
   by_cases c10 : t119 = true
   ·subst c10
    rw [if_pos rfl] at H
    by_cases c11 : (l0_8.length : Int) > a1
    ·rw [if_pos c11] at H
     have c11b0 : decide (a1 < (l0_8.length : Int)) = true := decide_eq_true c11
     clear c11
     (first | rw [c11b0] | (simp only [i64_w, i32_w]; rw [c11b0]) | skip)
     have H' := Aside0.mk H
     clear H; have Z12 := zz9 BK114
     go_wp2_with (first | ((with_reducible refine gate_callee (f := 77) rfl ?_); refine goesL_ (some 12) rfl rfl Try.func77 (by kernel_rfl) rfl #[.agg #[.int .i64 a0_0, .int .i64 a0_1, .int .i64 a0_2, .int .i64 a0_3, .int .i64 a0_4, .int .i64 a0_5, .bool a0_6, .bool a0_7, .slice A0_8 l0_8.length c0_8]] rfl ar_ ?_; (with_reducible refine (spec_PacketOk.calls k a0_0 a0_1 a0_2 a0_3 a0_4 a0_5 a0_6 a0_7 _ _ l0_8 true _ ?side1 ?side2 A7.out).mono ?_); (case side1 => exact kC_ (Kd.C_below HR0_8.out HB.out)); (case side2 => exact HC0_8.out); rintro e w13 ⟨rfl, hb⟩; refine ⟨_, rfl, ?_⟩; replace HO117 := Aside0.mk (Kd.S_below (kS_ HO117.out) hb); replace BK114 := (bbA_ BK114 hb); replace HB := (bs_ HB hb); (try clear hb); (try clear hb2); (try clear hk); (try clear hi)) | (go_at_call 52; (with_reducible refine (spec_l1In.calls a1 1 48 true _ A9.out).mono ?_); rintro e w' ⟨rfl, ⟨nd, rfl⟩⟩; have Z14 := zz9 BK114))
     go_meet
     case rel => exact ⟨_, (a0_7), (by first | rfl | (simp; done) | (simp [*]; done)), H', ⟨by first | omega | exact Nat.le_refl _⟩, ⟨by refine kS_ ?_; exact Kd.S_mono HO117.out (fun _ hk => hk.2)⟩, ⟨by refine kb_ ?_; exact BK114.out⟩, ⟨hbA_ HB.out⟩⟩
    ·rw [if_neg c11] at H
     have c11b0 : decide (a1 < (l0_8.length : Int)) = false := decide_eq_false c11
     clear c11
     (first | rw [c11b0] | (simp only [i64_w, i32_w]; rw [c11b0]) | skip)
     have H' := Aside0.mk H
     clear H; have Z15 := zz9 BK114
     go_wp2_with (first | ((with_reducible refine gate_callee (f := 77) rfl ?_); refine goesL_ (some 12) rfl rfl Try.func77 (by kernel_rfl) rfl #[.agg #[.int .i64 a0_0, .int .i64 a0_1, .int .i64 a0_2, .int .i64 a0_3, .int .i64 a0_4, .int .i64 a0_5, .bool a0_6, .bool a0_7, .slice A0_8 l0_8.length c0_8]] rfl ar_ ?_; (with_reducible refine (spec_PacketOk.calls k a0_0 a0_1 a0_2 a0_3 a0_4 a0_5 a0_6 a0_7 _ _ l0_8 true _ ?side1 ?side2 A7.out).mono ?_); (case side1 => exact kC_ (Kd.C_below HR0_8.out HB.out)); (case side2 => exact HC0_8.out); rintro e w16 ⟨rfl, hb⟩; refine ⟨_, rfl, ?_⟩; replace HO117 := Aside0.mk (Kd.S_below (kS_ HO117.out) hb); replace BK114 := (bbA_ BK114 hb); replace HB := (bs_ HB hb); (try clear hb); (try clear hb2); (try clear hk); (try clear hi)) | (go_at_call 52; (with_reducible refine (spec_l1In.calls a1 1 48 true _ A9.out).mono ?_); rintro e w' ⟨rfl, ⟨nd, rfl⟩⟩; have Z17 := zz9 BK114))
     go_meet
     case rel => exact ⟨_, (false), (by first | rfl | (simp; done) | (simp [*]; done)), H', ⟨by first | omega | exact Nat.le_refl _⟩, ⟨by refine kS_ ?_; exact Kd.S_mono HO117.out (fun _ hk => hk.2)⟩, ⟨by refine kb_ ?_; exact BK114.out⟩, ⟨hbA_ HB.out⟩⟩
   ·replace c10 := Bool.eq_false_iff.mpr c10
    subst c10
    rw [if_neg (show ¬ (false = true) by decide)] at H
    have H' := Aside0.mk H
    clear H; have Z18 := zz9 BK114
    go_wp2_with (first | ((with_reducible refine gate_callee (f := 77) rfl ?_); refine goesL_ (some 12) rfl rfl Try.func77 (by kernel_rfl) rfl #[.agg #[.int .i64 a0_0, .int .i64 a0_1, .int .i64 a0_2, .int .i64 a0_3, .int .i64 a0_4, .int .i64 a0_5, .bool a0_6, .bool a0_7, .slice A0_8 l0_8.length c0_8]] rfl ar_ ?_; (with_reducible refine (spec_PacketOk.calls k a0_0 a0_1 a0_2 a0_3 a0_4 a0_5 a0_6 a0_7 _ _ l0_8 true _ ?side1 ?side2 A7.out).mono ?_); (case side1 => exact kC_ (Kd.C_below HR0_8.out HB.out)); (case side2 => exact HC0_8.out); rintro e w19 ⟨rfl, hb⟩; refine ⟨_, rfl, ?_⟩; replace HO117 := Aside0.mk (Kd.S_below (kS_ HO117.out) hb); replace BK114 := (bbA_ BK114 hb); replace HB := (bs_ HB hb); (try clear hb); (try clear hb2); (try clear hk); (try clear hi)) | (go_at_call 52; (with_reducible refine (spec_l1In.calls a1 1 48 false _ A9.out).mono ?_); rintro e w' ⟨rfl, ⟨nd, rfl⟩⟩))
    go_meet
    case rel => exact ⟨_, (true), (by first | rfl | (simp; done) | (simp [*]; done)), H', ⟨by first | omega | exact Nat.le_refl _⟩, ⟨by refine kS_ ?_; exact Kd.S_mono HO117.out (fun _ hk => hk.2)⟩, ⟨by refine kb_ ?_; exact BK114.out⟩, ⟨hbA_ HB.out⟩⟩
  ·replace c8 := Bool.eq_false_iff.mpr c8
   subst c8
   rw [if_neg (show ¬ (false = true) by decide)] at H
   have H' := Aside0.mk H
   clear H; have Z20 := zz9 BK114
   go_wp2_with (first | ((with_reducible refine gate_callee (f := 77) rfl ?_); refine goesL_ (some 12) rfl rfl Try.func77 (by kernel_rfl) rfl #[.agg #[.int .i64 a0_0, .int .i64 a0_1, .int .i64 a0_2, .int .i64 a0_3, .int .i64 a0_4, .int .i64 a0_5, .bool a0_6, .bool a0_7, .slice A0_8 l0_8.length c0_8]] rfl ar_ ?_; (with_reducible refine (spec_PacketOk.calls k a0_0 a0_1 a0_2 a0_3 a0_4 a0_5 a0_6 a0_7 _ _ l0_8 false _ ?side1 ?side2 A7.out).mono ?_); (case side1 => exact kC_ (Kd.C_below HR0_8.out HB.out)); (case side2 => exact HC0_8.out); rintro e w21 ⟨rfl, hb⟩; refine ⟨_, rfl, ?_⟩; replace HO117 := Aside0.mk (Kd.S_below (kS_ HO117.out) hb); replace BK114 := (bbA_ BK114 hb); replace HB := (bs_ HB hb); (try clear hb); (try clear hb2); (try clear hk); (try clear hi)))
   go_meet
   case rel => exact ⟨_, (true), (by first | rfl | (simp; done) | (simp [*]; done)), H', ⟨by first | omega | exact Nat.le_refl _⟩, ⟨by refine kS_ ?_; exact Kd.S_mono HO117.out (fun _ hk => hk.2)⟩, ⟨by refine kb_ ?_; exact BK114.out⟩, ⟨hbA_ HB.out⟩⟩
 case rest =>
  clear HC3; (try clear c1); (try clear p2); (try clear c4); (try clear c7); (try clear c8); (try clear c10); (try clear c11); (try clear c11b0); (try clear Z12); (try clear Z14); (try clear Z15); (try clear Z17); (try clear Z18); (try clear Z20)
  obtain ⟨kq, x29_2, rfl, HA, HJ2, HO_6, BK114, HB⟩ := hcut
  cases kq with
  | zero => exact absurd HA.out (by simp [spec_PacketCut.j0])
  | succ kj2 =>
   have H := HA.out; clear HA
   simp only [spec_PacketCut.j0] at H
   by_cases c22 : x29_2 = true
   ·subst c22
    rw [if_pos rfl] at H
    simp only [Option.some.injEq, Prod.mk.injEq] at H
    obtain ⟨rfl, rfl⟩ := H
    go_wp2
    go_ret2
    exact ⟨_, by first | rfl | (simp [errW_none, errW_some] <;> rfl) | (simp [*, errW_none, errW_some] <;> rfl), by refine kS_ ?_; exact Kd.S_mono HO_6.out (fun _ hk => trivial), hbA_ HB.out⟩
   ·replace c22 := Bool.eq_false_iff.mpr c22
    subst c22
    rw [if_neg (show ¬ (false = true) by decide)] at H
    have H' := Aside0.mk H
    clear H
    go_wp2
    go_loopg [6, 7] kj2 (fun kq v6 v7 w' => ∃ (x6_2 : List (S28)) (x7_2 : Int), v7 = .int .i64 x7_2 ∧ Aside0 (spec_PacketCut.l0 kq a1 x6_2 x7_2 a0_0 a0_1 a0_2 a0_3 a0_4 a0_5 a0_6 a0_7 l0_8 = some (r1, r2)) ∧ Aside0 (kq ≤ kj2) ∧ Aside0 (Kd.S k28 28 w' w.heap.size (fun k_ => k_ ≠ gb114) v6 x6_2) ∧ Aside0 (w'.heap[gb114]? = some (.cells #[.int .i64 a0_0, .int .i64 a0_1, .int .i64 a0_2, .int .i64 a0_3, .int .i64 a0_4, .int .i64 a0_5, .bool a0_6, .bool a0_7, (.slice A0_8 l0_8.length c0_8)] 28 (0, 0))) ∧ Aside0 (Below w.heap.size w w'))
    case atStart => exact ⟨(y115), (0), (by first | rfl | (simp; done) | (simp [*]; done)), H', ⟨Nat.le_refl _⟩, ⟨by refine kS_ ?_; exact HO_6.out⟩, ⟨by refine kb_ ?_; exact BK114.out⟩, ⟨hbA_ HB.out⟩⟩
    case round =>
     clear H'; (try clear c1); (try clear c2); (try clear p2); (try clear c4); (try clear c7); (try clear c8); (try clear c10); (try clear c11); (try clear c11b0); (try clear c22); (try clear Z12); (try clear Z14); (try clear Z15); (try clear Z17); (try clear Z18); (try clear Z20); (try clear p2)
     obtain ⟨x6_2, x7_2, rfl, HA, HK2, HO_6, BK114, HB⟩ := hrel
     cases gk with
     | zero => exact absurd HA.out (by simp [spec_PacketCut.l0])
     | succ k2 =>
      have H := HA.out; clear HA
      simp only [spec_PacketCut.l0] at H
      have HC23 := Aside0.mk H; clear H
      go_upto_region 5 with (fail)
      go_cut [39] (fun v39 wc => ∃ (kq : Nat) (x39_22 : Bool), v39 = .bool x39_22 ∧ Aside0 (spec_PacketCut.j2 kq a1 x6_2 x7_2 x39_22 a0_0 a0_1 a0_2 a0_3 a0_4 a0_5 a0_6 a0_7 l0_8 = some (r1, r2)) ∧ Aside0 (kq ≤ k2) ∧ Aside0 (Kd.S k28 28 wc w.heap.size (fun k_ => k_ ≠ gb114) u6 x6_2) ∧ Aside0 (wc.heap[gb114]? = some (.cells #[.int .i64 a0_0, .int .i64 a0_1, .int .i64 a0_2, .int .i64 a0_3, .int .i64 a0_4, .int .i64 a0_5, .bool a0_6, .bool a0_7, (.slice A0_8 l0_8.length c0_8)] 28 (0, 0))) ∧ Aside0 (Below w.heap.size w wc))
      case first =>
       have H := HC23.out; clear HC23
       by_cases c24 : x7_2 = 0
       ·rw [if_pos c24] at H
        have c24b0 : (x7_2 == 0) = true := beq_iff_eq.mpr c24
        have c24b1 : (x7_2 != 0) = false := bne_eq_false_iff_eq.mpr c24
        clear c24
        (first | rw [c24b0] | (simp only [i64_w, i32_w]; rw [c24b0]) | skip)
        have H' := Aside0.mk H
        clear H
        go_wp2
        go_meet
        case rel => exact ⟨_, (true), (by first | rfl | (simp; done) | (simp [*]; done)), H', ⟨by have := HJ2.out; have := HK2.out; first | omega | exact Nat.le_refl _⟩, ⟨by refine kS_ ?_; exact HO_6.out⟩, ⟨by refine kb_ ?_; exact BK114.out⟩, ⟨hbA_ HB.out⟩⟩
       ·rw [if_neg c24] at H
        have c24b0 : (x7_2 == 0) = false := beq_eq_false_iff_ne.mpr c24
        have c24b1 : (x7_2 != 0) = true := bne_iff_ne.mpr c24
        (first | rw [c24b0] | (simp only [i64_w, i32_w]; rw [c24b0]) | skip)
        have H' := Aside0.mk H
        clear H; have Z25 := zz9 BK114
        go_wp2
        go_meet
        case rel => exact ⟨_, (decide (x7_2 < (l0_8.length : Int))), (by first | rfl | (simp; done) | (simp [*]; done)), H', ⟨by have := HJ2.out; have := HK2.out; first | omega | exact Nat.le_refl _⟩, ⟨by refine kS_ ?_; exact HO_6.out⟩, ⟨by refine kb_ ?_; exact BK114.out⟩, ⟨hbA_ HB.out⟩⟩
      case rest =>
       clear HC23; (try clear c1); (try clear c2); (try clear p2); (try clear c4); (try clear c7); (try clear c8); (try clear c10); (try clear c11); (try clear c11b0); (try clear c22); (try clear c24); (try clear c24b0); (try clear c24b1); (try clear Z12); (try clear Z14); (try clear Z15); (try clear Z17); (try clear Z18); (try clear Z20); (try clear Z25); (try clear p2)
       obtain ⟨kq, x39_22, rfl, HA, HJ22, HO_6, BK114, HB⟩ := hcut
       cases kq with
       | zero => exact absurd HA.out (by simp [spec_PacketCut.j2])
       | succ kj22 =>
        have H := HA.out; clear HA
        simp only [spec_PacketCut.j2] at H
        by_cases c26 : x39_22 = true
        ·subst c26
         rw [if_pos rfl] at H
         obtain ⟨ji27, hji27⟩ : ∃ j_ : Int, (mn (wrap64 (x7_2 + a1)) (l0_8.length : Int)) = j_ := ⟨_, rfl⟩
         (first | rw [hji27] at H | simp only [hji27] at H)
         have hji27_ : (if (l0_8.length : Int) < (wrap64 (x7_2 + a1)) then (l0_8.length : Int) else (wrap64 (x7_2 + a1))) = ji27 := hji27
         by_cases c28 : a0_6 = true
         ·subst c28
          rw [if_pos rfl] at H
          obtain ⟨y121, hy121⟩ : ∃ y_ : List Int, y_ = (([] : List Int)) := ⟨_, rfl⟩
          (first | replace H := sb_ hy121 H | rw [← hy121] at H)
          have Ny121 := Aside0.mk hy121; clear hy121
          by_cases c29 : 0 ≤ x7_2
          ·rw [if_pos c29] at H
           have c29b0 := eq_true c29
           have c29b1 : decide (0 ≤ x7_2) = true := decide_eq_true c29
           clear c29
           by_cases c30 : x7_2 ≤ (ji27)
           ·rw [if_pos c30] at H
            have c30b0 := eq_true c30
            have c30b1 : decide (x7_2 ≤ (ji27)) = true := decide_eq_true c30
            clear c30
            by_cases c31 : (ji27) ≤ (l0_8.length : Int)
            ·rw [if_pos c31] at H
             have c31b0 := eq_true c31
             have c31b1 : decide ((ji27) ≤ (l0_8.length : Int)) = true := decide_eq_true c31
             clear c31
             by_cases c32 : y121.length + ((l0_8.take ((ji27) : Int).toNat).drop (x7_2 : Int).toNat).length < 140737488355328
             ·rw [if_pos c32] at H
              have LMc32 := Aside0.mk c32; clear c32
              obtain ⟨y125, hy125⟩ : ∃ y_ : List Int, y_ = (y121 ++ ((l0_8.take ((ji27) : Int).toNat).drop (x7_2 : Int).toNat)) := ⟨_, rfl⟩
              (first | replace H := sb_ hy125 H | rw [← hy125] at H)
              have Ny125 := Aside0.mk hy125; clear hy125
              by_cases c33 : (wrap64 (a0_5 + x7_2)) > 255
              ·rw [if_pos c33] at H
               have c33b0 : decide (255 < (wrap64 (a0_5 + x7_2))) = true := decide_eq_true c33
               clear c33
               obtain ⟨y128, hy128⟩ : ∃ y_ : List (S28), y_ = (([] : List (S28))) := ⟨_, rfl⟩
               (first | replace H := sb_ hy128 H | rw [← hy128] at H)
               have Ny128 := Aside0.mk hy128; clear hy128
               simp only [Option.some.injEq, Prod.mk.injEq] at H
               obtain ⟨rfl, rfl⟩ := H
               have Z34 := zz9 BK114
               go_wp2_with (first | ((with_reducible refine gate_dst (N := 8) rfl ?_); (try (refine gate_guard (by rfl) ?_; dsimp only)); refine box_ (N := 8) (cs := #[.int .i64 0, .int .i64 0, .int .i64 0, .int .i64 0, .int .i64 0, .int .i64 0, .bool false, .bool false, .slice none 0 0]) (t := 28) (fun gb120 hg w35 hbox hb => ?_); replace HO_6 := Aside0.mk (Kd.S_below (Kd.S_elderB (kS_ HO_6.out) gb120 (Nat.le_of_eq hg.symm)) hb); have BK120 := Aside0.mk (hbox); have GW120 := ge_ hg HB; have GE120 := ge_ hg HB; replace HB := (bs_ HB hb); have NB114_120 := nl_ hg BK114; have NB120_114 := ng_ hg BK114; replace BK114 := (bbA_ BK114 hb); clear hb hbox hg; have hnb36 := NB120_114.out; have hnc36 := NB114_120.out; have Z37 := zz9 BK120; have Z38 := zz9 BK114) | ((with_reducible refine gate_dst (N := 66) rfl ?_); (try (refine gate_guard (by rfl) ?_; dsimp only)); refine Kd.R_lit (Kd.int .u8) _ 5 ?hg (N := 66) ?hd (xs := ([] : List Int)) (inner := []) (ok := fun _ => True) (okp := fun _ => True) ?hr ?hp (fun _ hk => hk) trivial (Below.refl _ _) (Nat.le_refl _) (by simp) ?_; (case hd => rfl); (case hg => rfl); (case hr => first | (go_simp; done) | (go_simp; rfl)); (case hp => exact (Reps.none _ _)); intro v122 w39 ho40 hb hg_ hnew_; clear hg_ hnew_; (first | rw [← Ny121.out] at ho40 | (simp only [Int.reduceToNat] at ho40; rw [← Ny121.out] at ho40)); replace HO_6 := Aside0.mk (Kd.S_elder' (by refine kS_ ?_; exact (nfS_ gb120 HO_6.out (fun _ hk => hk.2) (fun _ h_ => op1_ h_))) (Kd.R_base ho40) hb); have HO123 := Aside0.mk (Kd.R_lower ho40 (below_size (hbA_ HB.out))); replace BK114 := Aside0.mk (blk_below (g := gb114) (o := .cells #[.int .i64 a0_0, .int .i64 a0_1, .int .i64 a0_2, .int .i64 a0_3, .int .i64 a0_4, .int .i64 a0_5, .bool true, .bool a0_7, .slice A0_8 l0_8.length c0_8] 28 (0, 0)) (by exact kf_ BK114.out) hb); replace BK120 := Aside0.mk (blk_below (g := gb120) (o := .cells #[.int .i64 a0_0, .int .i64 a0_1, .int .i64 a0_2, .int .i64 a0_3, .int .i64 a0_4, .int .i64 (wrap64 (a0_5 + x7_2)), .bool true, .bool a0_7, .slice A0_8 l0_8.length c0_8] 28 (0, 0)) (by refine kb_ ?_; refine blk_put (cs := #[.int .i64 a0_0, .int .i64 a0_1, .int .i64 a0_2, .int .i64 a0_3, .int .i64 a0_4, .int .i64 (wrap64 (a0_5 + x7_2)), .bool true, .bool a0_7, .slice A0_8 l0_8.length c0_8]) ?_ 6 _ rfl; refine kb_ ?_; refine blk_put (cs := #[.int .i64 a0_0, .int .i64 a0_1, .int .i64 a0_2, .int .i64 a0_3, .int .i64 a0_4, .int .i64 a0_5, .bool true, .bool a0_7, .slice A0_8 l0_8.length c0_8]) ?_ 5 _ rfl; refine kb_ ?_; refine pz9 (cs := #[.int .i64 0, .int .i64 0, .int .i64 0, .int .i64 0, .int .i64 0, .int .i64 0, .bool false, .bool false, .slice none 0 0]) ?_; refine kb_ ?_; exact BK120.out) hb); replace HB := (bs_ HB hb); clear hb ho40; have Z41 := zz9 BK114; obtain ⟨i042, hi042, _, hsz42, _⟩ := info_parts info5; obtain ⟨A42, hcut42, hA42, hC42⟩ := print_mid_of (P := Try.prog) (Value.int .u8) 0 22 5 .i64 .i64 Try.underlying22 hi042 hsz42 A0_8 c0_8 l0_8 x7_2 (ji27) (of_decide_eq_true (by first | (with_reducible assumption) | assumption)) (by first | omega | exact of_decide_eq_true (by first | (with_reducible assumption) | assumption)) (of_decide_eq_true (by first | (with_reducible assumption) | assumption)) HC0_8.out; have HR124 := Aside0.mk (Kd.C_of_reads (h1 := fun _ => rfl) (hA42 _ (Kd.reads_of_C HR0_8.out))); have HC124 := Aside0.mk hC42; clear hA42 hC42 hi042 hsz42) | ((with_reducible refine gate_builtin (b := .append) (xs := #[.tmp 66, .tmp 71]) rfl ?_); (try (refine gate_guard (by rfl) ?_; dsimp only)); at_builtin; refine Kd.R_append_rows (Kd.int .u8) (w0 := w) w.heap.size rfl (.tmp 66) (.tmp 71) 22 5 (.int .u8 0) 1 rfl Try.underlying22 info5 rfl (by decide) (by omega) v122 y121 ((l0_8.take ((ji27) : Int).toNat).drop (x7_2 : Int).toNat) _ _ _ (fun _ => True) (fun _ => False) rfl rfl ?aO ?aR (fun _ _ h => h) (fun _ h => h.elim) ?aF ?aB ?aS ?aL ?_; (case aR => first | (refine len_ (show ((l0_8.take ((ji27) : Int).toNat).drop (x7_2 : Int).toNat).length = ((ji27).toNat - x7_2.toNat) from (by rw [List.length_drop, List.length_take]; have h_ : ((ji27) : Int) ≤ (l0_8.length : Int) := of_decide_eq_true (by first | (with_reducible assumption) | assumption); omega)) ?_; repeat (first | exact (Kd.C_below HR124.out HB.out) | (with_reducible refine Kd.C_alloc ?_ _) | (with_reducible refine Kd.C_drewN ?_ _) | (with_reducible refine Kd.C_drew ?_)); done) | (repeat (first | exact (Kd.C_below HR124.out HB.out) | (with_reducible refine Kd.C_alloc ?_ _) | (with_reducible refine Kd.C_drewN ?_ _) | (with_reducible refine Kd.C_drew ?_)))); (case aB => exact (hbA_ HB.out)); (case aF => exact (fun _ _ => trivial)); (case aO => exact (kR_ HO123.out)); (case aS => exact (below_size (hbA_ HB.out))); (case aL => have := LMc32.out; have hlx_ := (show ((l0_8.take ((ji27) : Int).toNat).drop (x7_2 : Int).toNat).length = ((ji27).toNat - x7_2.toNat) from (by rw [List.length_drop, List.length_take]; have h_ : ((ji27) : Int) ≤ (l0_8.length : Int) := of_decide_eq_true (by first | (with_reducible assumption) | assumption); omega)); omega); intro v126 w43 ho hb hg hat; rw [← Ny125.out] at ho; replace HO_6 := Aside0.mk (Kd.S_after (ok := (fun k_ => k_ ≠ gb114 ∧ k_ ≠ gb120)) (kS_ HO_6.out) hg hat); replace BK114 := (bgA_ BK114 hg (Kd.R_ne HO123.out BK114.out (by decide))); replace BK120 := (bgA_ BK120 hg (Kd.R_ne HO123.out BK120.out (by decide))); replace HB := Aside0.mk (hb); have HO127 := Aside0.mk (ho); clear HO123; clear ho hb hg hat; obtain ⟨Ao44, co44, eo44⟩ := Kd.R_slice HO127.out; subst eo44; have Z45 := zz9 BK120) | ((with_reducible refine gate_dst (N := 77) rfl ?_); (try (refine gate_guard (by rfl) ?_; dsimp only)); refine Kd.S_lit k28 _ 28 ?hg (N := 77) ?hd (xs := ([] : List (S28))) (inner := []) (ok := fun _ => True) (okp := fun _ => True) ?hr ?hp (fun _ hk => hk) trivial (Below.refl _ _) (Nat.le_refl _) (by simp) ?_; (case hd => rfl); (case hg => rfl); (case hr => first | (go_simp; done) | (go_simp; rfl)); (case hp => exact (Reps.none _ _)); intro v129 w46 ho47 hb hg_ hnew_; clear hg_ hnew_; (first | rw [← Ny128.out] at ho47 | (simp only [Int.reduceToNat] at ho47; rw [← Ny128.out] at ho47)); have HO130 := Aside0.mk (Kd.S_lower (Kd.S_newB (Kd.S_newB (Kd.S_new' (Kd.S_new' ho47 (Kd.S_lt (by refine kS_ ?_; exact (nfS_ gb120 HO_6.out (fun _ hk => hk.1.2) (fun _ h_ => op1_ h_))))) (Kd.R_lt (by refine kR_ ?_; exact (Kd.R_mono (Kd.R_f gb120 8 (.slice Ao44 y125.length co44) (Kd.R_types HO127.out BK120.out (by decide))) (fun _ h_ => op1_ h_))))) (g := gb114) (o := .cells #[.int .i64 a0_0, .int .i64 a0_1, .int .i64 a0_2, .int .i64 a0_3, .int .i64 a0_4, .int .i64 a0_5, .bool true, .bool a0_7, .slice A0_8 l0_8.length c0_8] 28 (0, 0)) (by exact kf_ BK114.out)) (g := gb120) (o := .cells #[.int .i64 a0_0, .int .i64 a0_1, .int .i64 a0_2, .int .i64 a0_3, .int .i64 a0_4, .int .i64 (wrap64 (a0_5 + x7_2)), .bool true, .bool a0_7, .slice Ao44 y125.length co44] 28 (0, 0)) (by refine kb_ ?_; refine blk_put (cs := #[.int .i64 a0_0, .int .i64 a0_1, .int .i64 a0_2, .int .i64 a0_3, .int .i64 a0_4, .int .i64 (wrap64 (a0_5 + x7_2)), .bool true, .bool a0_7, .slice A0_8 l0_8.length c0_8]) ?_ 8 _ rfl; refine kb_ ?_; exact BK120.out)) (below_size (hbA_ HB.out))); replace HO_6 := Aside0.mk (Kd.S_elder' (by refine kS_ ?_; exact (nfS_ gb120 HO_6.out (fun _ hk => hk.1.2) (fun _ h_ => op1_ h_))) (Kd.S_base ho47) hb); replace HO127 := Aside0.mk (Kd.R_below (by refine kR_ ?_; exact (Kd.R_mono (Kd.R_f gb120 8 (.slice Ao44 y125.length co44) (Kd.R_types HO127.out BK120.out (by decide))) (fun _ h_ => op1_ h_))) hb); replace BK114 := Aside0.mk (blk_below (g := gb114) (o := .cells #[.int .i64 a0_0, .int .i64 a0_1, .int .i64 a0_2, .int .i64 a0_3, .int .i64 a0_4, .int .i64 a0_5, .bool true, .bool a0_7, .slice A0_8 l0_8.length c0_8] 28 (0, 0)) (by exact kf_ BK114.out) hb); replace BK120 := Aside0.mk (blk_below (g := gb120) (o := .cells #[.int .i64 a0_0, .int .i64 a0_1, .int .i64 a0_2, .int .i64 a0_3, .int .i64 a0_4, .int .i64 (wrap64 (a0_5 + x7_2)), .bool true, .bool a0_7, .slice Ao44 y125.length co44] 28 (0, 0)) (by refine kb_ ?_; refine blk_put (cs := #[.int .i64 a0_0, .int .i64 a0_1, .int .i64 a0_2, .int .i64 a0_3, .int .i64 a0_4, .int .i64 (wrap64 (a0_5 + x7_2)), .bool true, .bool a0_7, .slice A0_8 l0_8.length c0_8]) ?_ 8 _ rfl; refine kb_ ?_; exact BK120.out) hb); replace HB := (bs_ HB hb); clear hb ho47))
               go_ret2
               exact ⟨_, by first | rfl | (simp [errW_none, errW_some] <;> rfl) | (simp only [← hji27]; first | rfl | (simp [errW_none, errW_some] <;> rfl)) | (simp [*, errW_none, errW_some] <;> rfl), by refine kS_ ?_; exact Kd.S_mono HO130.out (fun _ hk => trivial), hbA_ HB.out⟩
              ·rw [if_neg c33] at H
               have c33b0 : decide (255 < (wrap64 (a0_5 + x7_2))) = false := decide_eq_false c33
               clear c33
               by_cases c48 : x6_2.length < 1759218604441
               ·rw [if_pos c48] at H
                have LMc48 := Aside0.mk c48; clear c48
                obtain ⟨y131, hy131⟩ : ∃ y_ : List (S28), y_ = (x6_2 ++ [(⟨a0_0, a0_1, a0_2, a0_3, a0_4, wrap64 (a0_5 + x7_2), true, a0_7, y125⟩ : S28)]) := ⟨_, rfl⟩
                (first | replace H := sb_ hy131 H | rw [← hy131] at H)
                have Ny131 := Aside0.mk hy131; clear hy131
                have H' := Aside0.mk H
                clear H; have Z49 := zz9 BK114
                go_wp2_with (first | ((with_reducible refine gate_dst (N := 8) rfl ?_); (try (refine gate_guard (by rfl) ?_; dsimp only)); refine box_ (N := 8) (cs := #[.int .i64 0, .int .i64 0, .int .i64 0, .int .i64 0, .int .i64 0, .int .i64 0, .bool false, .bool false, .slice none 0 0]) (t := 28) (fun gb120 hg w50 hbox hb => ?_); replace HO_6 := Aside0.mk (Kd.S_below (Kd.S_elderB (kS_ HO_6.out) gb120 (Nat.le_of_eq hg.symm)) hb); have BK120 := Aside0.mk (hbox); have GW120 := ge_ hg HB; have GE120 := ge_ hg HB; replace HB := (bs_ HB hb); have NB114_120 := nl_ hg BK114; have NB120_114 := ng_ hg BK114; replace BK114 := (bbA_ BK114 hb); clear hb hbox hg; have hnb51 := NB120_114.out; have hnc51 := NB114_120.out; have Z52 := zz9 BK120; have Z53 := zz9 BK114) | ((with_reducible refine gate_dst (N := 66) rfl ?_); (try (refine gate_guard (by rfl) ?_; dsimp only)); refine Kd.R_lit (Kd.int .u8) _ 5 ?hg (N := 66) ?hd (xs := ([] : List Int)) (inner := []) (ok := fun _ => True) (okp := fun _ => True) ?hr ?hp (fun _ hk => hk) trivial (Below.refl _ _) (Nat.le_refl _) (by simp) ?_; (case hd => rfl); (case hg => rfl); (case hr => first | (go_simp; done) | (go_simp; rfl)); (case hp => exact (Reps.none _ _)); intro v122 w54 ho55 hb hg_ hnew_; clear hg_ hnew_; (first | rw [← Ny121.out] at ho55 | (simp only [Int.reduceToNat] at ho55; rw [← Ny121.out] at ho55)); replace HO_6 := Aside0.mk (Kd.S_elder' (by refine kS_ ?_; exact (nfS_ gb120 HO_6.out (fun _ hk => hk.2) (fun _ h_ => op1_ h_))) (Kd.R_base ho55) hb); have HO123 := Aside0.mk (Kd.R_lower ho55 (below_size (hbA_ HB.out))); replace BK114 := Aside0.mk (blk_below (g := gb114) (o := .cells #[.int .i64 a0_0, .int .i64 a0_1, .int .i64 a0_2, .int .i64 a0_3, .int .i64 a0_4, .int .i64 a0_5, .bool true, .bool a0_7, .slice A0_8 l0_8.length c0_8] 28 (0, 0)) (by exact kf_ BK114.out) hb); replace BK120 := Aside0.mk (blk_below (g := gb120) (o := .cells #[.int .i64 a0_0, .int .i64 a0_1, .int .i64 a0_2, .int .i64 a0_3, .int .i64 a0_4, .int .i64 (wrap64 (a0_5 + x7_2)), .bool true, .bool a0_7, .slice A0_8 l0_8.length c0_8] 28 (0, 0)) (by refine kb_ ?_; refine blk_put (cs := #[.int .i64 a0_0, .int .i64 a0_1, .int .i64 a0_2, .int .i64 a0_3, .int .i64 a0_4, .int .i64 (wrap64 (a0_5 + x7_2)), .bool true, .bool a0_7, .slice A0_8 l0_8.length c0_8]) ?_ 6 _ rfl; refine kb_ ?_; refine blk_put (cs := #[.int .i64 a0_0, .int .i64 a0_1, .int .i64 a0_2, .int .i64 a0_3, .int .i64 a0_4, .int .i64 a0_5, .bool true, .bool a0_7, .slice A0_8 l0_8.length c0_8]) ?_ 5 _ rfl; refine kb_ ?_; refine pz9 (cs := #[.int .i64 0, .int .i64 0, .int .i64 0, .int .i64 0, .int .i64 0, .int .i64 0, .bool false, .bool false, .slice none 0 0]) ?_; refine kb_ ?_; exact BK120.out) hb); replace HB := (bs_ HB hb); clear hb ho55; have Z56 := zz9 BK114; obtain ⟨i057, hi057, _, hsz57, _⟩ := info_parts info5; obtain ⟨A57, hcut57, hA57, hC57⟩ := print_mid_of (P := Try.prog) (Value.int .u8) 0 22 5 .i64 .i64 Try.underlying22 hi057 hsz57 A0_8 c0_8 l0_8 x7_2 (ji27) (of_decide_eq_true (by first | (with_reducible assumption) | assumption)) (by first | omega | exact of_decide_eq_true (by first | (with_reducible assumption) | assumption)) (of_decide_eq_true (by first | (with_reducible assumption) | assumption)) HC0_8.out; have HR124 := Aside0.mk (Kd.C_of_reads (h1 := fun _ => rfl) (hA57 _ (Kd.reads_of_C HR0_8.out))); have HC124 := Aside0.mk hC57; clear hA57 hC57 hi057 hsz57) | ((with_reducible refine gate_builtin (b := .append) (xs := #[.tmp 66, .tmp 71]) rfl ?_); (try (refine gate_guard (by rfl) ?_; dsimp only)); at_builtin; refine Kd.R_append_rows (Kd.int .u8) (w0 := w) w.heap.size rfl (.tmp 66) (.tmp 71) 22 5 (.int .u8 0) 1 rfl Try.underlying22 info5 rfl (by decide) (by omega) v122 y121 ((l0_8.take ((ji27) : Int).toNat).drop (x7_2 : Int).toNat) _ _ _ (fun _ => True) (fun _ => False) rfl rfl ?aO ?aR (fun _ _ h => h) (fun _ h => h.elim) ?aF ?aB ?aS ?aL ?_; (case aR => first | (refine len_ (show ((l0_8.take ((ji27) : Int).toNat).drop (x7_2 : Int).toNat).length = ((ji27).toNat - x7_2.toNat) from (by rw [List.length_drop, List.length_take]; have h_ : ((ji27) : Int) ≤ (l0_8.length : Int) := of_decide_eq_true (by first | (with_reducible assumption) | assumption); omega)) ?_; repeat (first | exact (Kd.C_below HR124.out HB.out) | (with_reducible refine Kd.C_alloc ?_ _) | (with_reducible refine Kd.C_drewN ?_ _) | (with_reducible refine Kd.C_drew ?_)); done) | (repeat (first | exact (Kd.C_below HR124.out HB.out) | (with_reducible refine Kd.C_alloc ?_ _) | (with_reducible refine Kd.C_drewN ?_ _) | (with_reducible refine Kd.C_drew ?_)))); (case aB => exact (hbA_ HB.out)); (case aF => exact (fun _ _ => trivial)); (case aO => exact (kR_ HO123.out)); (case aS => exact (below_size (hbA_ HB.out))); (case aL => have := LMc32.out; have hlx_ := (show ((l0_8.take ((ji27) : Int).toNat).drop (x7_2 : Int).toNat).length = ((ji27).toNat - x7_2.toNat) from (by rw [List.length_drop, List.length_take]; have h_ : ((ji27) : Int) ≤ (l0_8.length : Int) := of_decide_eq_true (by first | (with_reducible assumption) | assumption); omega)); omega); intro v126 w58 ho hb hg hat; rw [← Ny125.out] at ho; replace HO_6 := Aside0.mk (Kd.S_after (ok := (fun k_ => k_ ≠ gb114 ∧ k_ ≠ gb120)) (kS_ HO_6.out) hg hat); replace BK114 := (bgA_ BK114 hg (Kd.R_ne HO123.out BK114.out (by decide))); replace BK120 := (bgA_ BK120 hg (Kd.R_ne HO123.out BK120.out (by decide))); replace HB := Aside0.mk (hb); have HO127 := Aside0.mk (ho); clear HO123; clear ho hb hg hat; obtain ⟨Ao59, co59, eo59⟩ := Kd.R_slice HO127.out; subst eo59; have Z60 := zz9 BK120) | ((with_reducible refine gate_store (t := 22) (p := 73) rfl ?_); refine store_event (t := 22) (p := 73) (v := ?vo_w61) (w1 := (w58.setCell ⟨gb120, 8, none⟩ (.slice Ao59 y125.length co59))) ?hg ?ho ?hn ?hr ?_; (case ho => rfl); (case hg => rfl); (case hn => rfl); (case hr => first | (go_simp; done) | (go_simp; rfl)); intro w61 hw; have n0_ : Aside0 (Kd.S k28 28 w61 w.heap.size (fun k_ => some k_ ≠ (.slice Ao59 y125.length co59 : Value).ownBlock ∧ k_ ≠ gb114 ∧ k_ ≠ gb120) u6 x6_2) := ⟨(by rw [hw]; exact (by refine kS_ ?_; exact nfS_ gb120 HO_6.out (fun _ hk => hk.1.2) (fun _ hk => ⟨hk.1.2, ⟨hk.1.1.1, hk.1.1.2⟩⟩)))⟩; have n1_ : Aside0 (Kd.R (Kd.int .u8) 5 w61 w.heap.size (fun _ => True) (.slice Ao59 y125.length co59) y125) := ⟨(by rw [hw]; exact (by refine kR_ ?_; exact Kd.R_mono (Kd.R_f gb120 8 (.slice Ao59 y125.length co59) (Kd.R_types HO127.out BK120.out (by decide))) (fun _ hk => trivial)))⟩; have n2_ : Aside0 (w61.heap[gb114]? = some (.cells #[.int .i64 a0_0, .int .i64 a0_1, .int .i64 a0_2, .int .i64 a0_3, .int .i64 a0_4, .int .i64 a0_5, .bool true, .bool a0_7, .slice A0_8 l0_8.length c0_8] 28 (0, 0))) := ⟨(by rw [hw]; exact (by exact kf_ BK114.out))⟩; have n3_ : Aside0 (w61.heap[gb120]? = some (.cells #[.int .i64 a0_0, .int .i64 a0_1, .int .i64 a0_2, .int .i64 a0_3, .int .i64 a0_4, .int .i64 (wrap64 (a0_5 + x7_2)), .bool true, .bool a0_7, .slice Ao59 y125.length co59] 28 (0, 0))) := ⟨(by rw [hw]; exact (by refine kb_ ?_; refine blk_put (cs := #[.int .i64 a0_0, .int .i64 a0_1, .int .i64 a0_2, .int .i64 a0_3, .int .i64 a0_4, .int .i64 (wrap64 (a0_5 + x7_2)), .bool true, .bool a0_7, .slice A0_8 l0_8.length c0_8]) ?_ 8 _ rfl; refine kb_ ?_; exact BK120.out))⟩; have n4_ : Aside0 (Below w.heap.size w w61) := ⟨(by rw [hw]; exact (hbA_ HB.out))⟩; clear hw; clear HO_6; clear HO127; clear BK114; clear BK120; clear HB; have HO_6 := n0_; have HO127 := n1_; have BK114 := n2_; have BK120 := n3_; have HB := n4_; clear n0_ n1_ n2_ n3_ n4_; have Z62 := zz9 BK120) | ((with_reducible refine gate_builtin (b := .append) (xs := #[.tmp 78, .tmp 80]) rfl ?_); (try (refine gate_guard (by rfl) ?_; dsimp only)); at_builtin; refine Kd.S_append k28 (w0 := w) w.heap.size rfl (.tmp 78) (.tmp 80) 23 28 (.agg #[(.int .i64 0), (.int .i64 0), (.int .i64 0), (.int .i64 0), (.int .i64 0), (.int .i64 0), (.bool false), (.bool false), (.slice none 0 0)]) 80 rfl Try.underlying23 info28 rfl (by decide) (by omega) u6 x6_2 (⟨a0_0, a0_1, a0_2, a0_3, a0_4, wrap64 (a0_5 + x7_2), true, a0_7, y125⟩ : S28) [.int .i64 a0_0, .int .i64 a0_1, .int .i64 a0_2, .int .i64 a0_3, .int .i64 a0_4, .int .i64 (wrap64 (a0_5 + x7_2)), .bool true, .bool a0_7, .slice Ao59 y125.length co59] (fun k_ => k_ ≠ gb114 ∧ k_ ≠ gb120) (fun k_ => some k_ = (.slice Ao59 y125.length co59 : Value).ownBlock) rfl rfl ?aP (fun k_ hk_ => ((Kd.R_mono (ok' := fun k_ => ((fun k_ => k_ ≠ gb114 ∧ k_ ≠ gb120)) k_ ∧ some k_ ≠ (u6 : Value).ownBlock) (Kd.R_types (Kd.R_types (Kd.R_apart' (HO127.out) (Kd.S_typed HO_6.out) (by decide)) BK114.out (by decide)) BK120.out (by decide)) (fun k_ hk => ⟨⟨hk.1.2, hk.2⟩, hk.1.1.2⟩))).1 k_ hk_.symm) ?aF ?aO ?aB ?aS ?aL ?_; (case aP => exact k28_mkM _ _ _ (⟨a0_0, a0_1, a0_2, a0_3, a0_4, wrap64 (a0_5 + x7_2), true, a0_7, y125⟩ : S28) (Kd.R_mono (Kd.R_tight rfl (Kd.R_mono (ok' := fun k_ => ((fun k_ => k_ ≠ gb114 ∧ k_ ≠ gb120)) k_ ∧ some k_ ≠ (u6 : Value).ownBlock) (Kd.R_types (Kd.R_types (Kd.R_apart' (HO127.out) (Kd.S_typed HO_6.out) (by decide)) BK114.out (by decide)) BK120.out (by decide)) (fun k_ hk => ⟨⟨hk.1.2, hk.2⟩, hk.1.1.2⟩))) (fun _ h_ => h_))); (case aB => exact (hbA_ HB.out)); (case aF => exact (fun k_ hk => ⟨fb_ BK114 k_ hk, fb_ BK120 k_ hk⟩)); (case aO => exact (by refine kS_ ?_; exact Kd.S_mono HO_6.out (fun k_ hk => ⟨⟨hk.2.1, hk.2.2⟩, fun e_ => hk.1 e_⟩))); (case aS => exact (below_size (hbA_ HB.out))); (case aL => have := LMc48.out; omega); intro v132 w63 ho hb hg hat; rw [← Ny131.out] at ho; replace BK114 := (bgA_ BK114 hg (Kd.S_away HO_6.out (fun _ hk => hk.2.1))); replace BK120 := (bgA_ BK120 hg (Kd.S_away HO_6.out (fun _ hk => hk.2.2))); replace HB := Aside0.mk (hb); have HO133 := Aside0.mk (ho); clear HO_6 HO127; clear ho hb hg hat))
                go_roundg kj22
                case measure => have := HJ2.out; have := HK2.out; have := HJ22.out; omega
                case rel => exact ⟨(y131), (wrap64 (x7_2 + a1)), (by first | rfl | (simp; done) | (simp [*]; done)), H', ⟨by have := HJ2.out; have := HK2.out; have := HJ22.out; omega⟩, ⟨by refine kS_ ?_; exact Kd.S_mono HO133.out (fun _ hk => hk.1)⟩, ⟨by refine kb_ ?_; exact BK114.out⟩, ⟨hbA_ HB.out⟩⟩
               ·rw [if_neg c48] at H
                exact absurd H (by simp)
             ·rw [if_neg c32] at H
              exact absurd H (by simp)
            ·rw [if_neg c31] at H
             exact absurd H (by simp)
           ·rw [if_neg c30] at H
            exact absurd H (by simp)
          ·rw [if_neg c29] at H
           exact absurd H (by simp)
         ·replace c28 := Bool.eq_false_iff.mpr c28
          subst c28
          rw [if_neg (show ¬ (false = true) by decide)] at H
          obtain ⟨y134, hy134⟩ : ∃ y_ : List Int, y_ = (([] : List Int)) := ⟨_, rfl⟩
          (first | replace H := sb_ hy134 H | rw [← hy134] at H)
          have Ny134 := Aside0.mk hy134; clear hy134
          by_cases c64 : 0 ≤ x7_2
          ·rw [if_pos c64] at H
           have c64b0 := eq_true c64
           have c64b1 : decide (0 ≤ x7_2) = true := decide_eq_true c64
           clear c64
           by_cases c65 : x7_2 ≤ (ji27)
           ·rw [if_pos c65] at H
            have c65b0 := eq_true c65
            have c65b1 : decide (x7_2 ≤ (ji27)) = true := decide_eq_true c65
            clear c65
            by_cases c66 : (ji27) ≤ (l0_8.length : Int)
            ·rw [if_pos c66] at H
             have c66b0 := eq_true c66
             have c66b1 : decide ((ji27) ≤ (l0_8.length : Int)) = true := decide_eq_true c66
             clear c66
             by_cases c67 : y134.length + ((l0_8.take ((ji27) : Int).toNat).drop (x7_2 : Int).toNat).length < 140737488355328
             ·rw [if_pos c67] at H
              have LMc67 := Aside0.mk c67; clear c67
              obtain ⟨y138, hy138⟩ : ∃ y_ : List Int, y_ = (y134 ++ ((l0_8.take ((ji27) : Int).toNat).drop (x7_2 : Int).toNat)) := ⟨_, rfl⟩
              (first | replace H := sb_ hy138 H | rw [← hy138] at H)
              have Ny138 := Aside0.mk hy138; clear hy138
              by_cases c68 : (wrap64 (a0_5 + x7_2)) > 255
              ·rw [if_pos c68] at H
               have c68b0 : decide (255 < (wrap64 (a0_5 + x7_2))) = true := decide_eq_true c68
               clear c68
               obtain ⟨y141, hy141⟩ : ∃ y_ : List (S28), y_ = (([] : List (S28))) := ⟨_, rfl⟩
               (first | replace H := sb_ hy141 H | rw [← hy141] at H)
               have Ny141 := Aside0.mk hy141; clear hy141
               simp only [Option.some.injEq, Prod.mk.injEq] at H
               obtain ⟨rfl, rfl⟩ := H
               have Z69 := zz9 BK114
               go_wp2_with (first | ((with_reducible refine gate_dst (N := 8) rfl ?_); (try (refine gate_guard (by rfl) ?_; dsimp only)); refine box_ (N := 8) (cs := #[.int .i64 0, .int .i64 0, .int .i64 0, .int .i64 0, .int .i64 0, .int .i64 0, .bool false, .bool false, .slice none 0 0]) (t := 28) (fun gb120 hg w70 hbox hb => ?_); replace HO_6 := Aside0.mk (Kd.S_below (Kd.S_elderB (kS_ HO_6.out) gb120 (Nat.le_of_eq hg.symm)) hb); have BK120 := Aside0.mk (hbox); have GW120 := ge_ hg HB; have GE120 := ge_ hg HB; replace HB := (bs_ HB hb); have NB114_120 := nl_ hg BK114; have NB120_114 := ng_ hg BK114; replace BK114 := (bbA_ BK114 hb); clear hb hbox hg; have hnb71 := NB120_114.out; have hnc71 := NB114_120.out; have Z72 := zz9 BK120; have Z73 := zz9 BK114) | ((with_reducible refine gate_dst (N := 66) rfl ?_); (try (refine gate_guard (by rfl) ?_; dsimp only)); refine Kd.R_lit (Kd.int .u8) _ 5 ?hg (N := 66) ?hd (xs := ([] : List Int)) (inner := []) (ok := fun _ => True) (okp := fun _ => True) ?hr ?hp (fun _ hk => hk) trivial (Below.refl _ _) (Nat.le_refl _) (by simp) ?_; (case hd => rfl); (case hg => rfl); (case hr => first | (go_simp; done) | (go_simp; rfl)); (case hp => exact (Reps.none _ _)); intro v135 w74 ho75 hb hg_ hnew_; clear hg_ hnew_; (first | rw [← Ny134.out] at ho75 | (simp only [Int.reduceToNat] at ho75; rw [← Ny134.out] at ho75)); replace HO_6 := Aside0.mk (Kd.S_elder' (by refine kS_ ?_; exact (nfS_ gb120 HO_6.out (fun _ hk => hk.2) (fun _ h_ => op1_ h_))) (Kd.R_base ho75) hb); have HO136 := Aside0.mk (Kd.R_lower ho75 (below_size (hbA_ HB.out))); replace BK114 := Aside0.mk (blk_below (g := gb114) (o := .cells #[.int .i64 a0_0, .int .i64 a0_1, .int .i64 a0_2, .int .i64 a0_3, .int .i64 a0_4, .int .i64 a0_5, .bool false, .bool a0_7, .slice A0_8 l0_8.length c0_8] 28 (0, 0)) (by exact kf_ BK114.out) hb); replace BK120 := Aside0.mk (blk_below (g := gb120) (o := .cells #[.int .i64 a0_0, .int .i64 a0_1, .int .i64 a0_2, .int .i64 a0_3, .int .i64 a0_4, .int .i64 (wrap64 (a0_5 + x7_2)), .bool (decide ((ji27) < (l0_8.length : Int))), .bool a0_7, .slice A0_8 l0_8.length c0_8] 28 (0, 0)) (by refine kb_ ?_; refine blk_put (cs := #[.int .i64 a0_0, .int .i64 a0_1, .int .i64 a0_2, .int .i64 a0_3, .int .i64 a0_4, .int .i64 (wrap64 (a0_5 + x7_2)), .bool false, .bool a0_7, .slice A0_8 l0_8.length c0_8]) ?_ 6 _ rfl; refine kb_ ?_; refine blk_put (cs := #[.int .i64 a0_0, .int .i64 a0_1, .int .i64 a0_2, .int .i64 a0_3, .int .i64 a0_4, .int .i64 a0_5, .bool false, .bool a0_7, .slice A0_8 l0_8.length c0_8]) ?_ 5 _ rfl; refine kb_ ?_; refine pz9 (cs := #[.int .i64 0, .int .i64 0, .int .i64 0, .int .i64 0, .int .i64 0, .int .i64 0, .bool false, .bool false, .slice none 0 0]) ?_; refine kb_ ?_; exact BK120.out) hb); replace HB := (bs_ HB hb); clear hb ho75; have Z76 := zz9 BK114; obtain ⟨i077, hi077, _, hsz77, _⟩ := info_parts info5; obtain ⟨A77, hcut77, hA77, hC77⟩ := print_mid_of (P := Try.prog) (Value.int .u8) 0 22 5 .i64 .i64 Try.underlying22 hi077 hsz77 A0_8 c0_8 l0_8 x7_2 (ji27) (of_decide_eq_true (by first | (with_reducible assumption) | assumption)) (by first | omega | exact of_decide_eq_true (by first | (with_reducible assumption) | assumption)) (of_decide_eq_true (by first | (with_reducible assumption) | assumption)) HC0_8.out; have HR137 := Aside0.mk (Kd.C_of_reads (h1 := fun _ => rfl) (hA77 _ (Kd.reads_of_C HR0_8.out))); have HC137 := Aside0.mk hC77; clear hA77 hC77 hi077 hsz77) | ((with_reducible refine gate_builtin (b := .append) (xs := #[.tmp 66, .tmp 71]) rfl ?_); (try (refine gate_guard (by rfl) ?_; dsimp only)); at_builtin; refine Kd.R_append_rows (Kd.int .u8) (w0 := w) w.heap.size rfl (.tmp 66) (.tmp 71) 22 5 (.int .u8 0) 1 rfl Try.underlying22 info5 rfl (by decide) (by omega) v135 y134 ((l0_8.take ((ji27) : Int).toNat).drop (x7_2 : Int).toNat) _ _ _ (fun _ => True) (fun _ => False) rfl rfl ?aO ?aR (fun _ _ h => h) (fun _ h => h.elim) ?aF ?aB ?aS ?aL ?_; (case aR => first | (refine len_ (show ((l0_8.take ((ji27) : Int).toNat).drop (x7_2 : Int).toNat).length = ((ji27).toNat - x7_2.toNat) from (by rw [List.length_drop, List.length_take]; have h_ : ((ji27) : Int) ≤ (l0_8.length : Int) := of_decide_eq_true (by first | (with_reducible assumption) | assumption); omega)) ?_; repeat (first | exact (Kd.C_below HR137.out HB.out) | (with_reducible refine Kd.C_alloc ?_ _) | (with_reducible refine Kd.C_drewN ?_ _) | (with_reducible refine Kd.C_drew ?_)); done) | (repeat (first | exact (Kd.C_below HR137.out HB.out) | (with_reducible refine Kd.C_alloc ?_ _) | (with_reducible refine Kd.C_drewN ?_ _) | (with_reducible refine Kd.C_drew ?_)))); (case aB => exact (hbA_ HB.out)); (case aF => exact (fun _ _ => trivial)); (case aO => exact (kR_ HO136.out)); (case aS => exact (below_size (hbA_ HB.out))); (case aL => have := LMc67.out; have hlx_ := (show ((l0_8.take ((ji27) : Int).toNat).drop (x7_2 : Int).toNat).length = ((ji27).toNat - x7_2.toNat) from (by rw [List.length_drop, List.length_take]; have h_ : ((ji27) : Int) ≤ (l0_8.length : Int) := of_decide_eq_true (by first | (with_reducible assumption) | assumption); omega)); omega); intro v139 w78 ho hb hg hat; rw [← Ny138.out] at ho; replace HO_6 := Aside0.mk (Kd.S_after (ok := (fun k_ => k_ ≠ gb114 ∧ k_ ≠ gb120)) (kS_ HO_6.out) hg hat); replace BK114 := (bgA_ BK114 hg (Kd.R_ne HO136.out BK114.out (by decide))); replace BK120 := (bgA_ BK120 hg (Kd.R_ne HO136.out BK120.out (by decide))); replace HB := Aside0.mk (hb); have HO140 := Aside0.mk (ho); clear HO136; clear ho hb hg hat; obtain ⟨Ao79, co79, eo79⟩ := Kd.R_slice HO140.out; subst eo79; have Z80 := zz9 BK120) | ((with_reducible refine gate_dst (N := 77) rfl ?_); (try (refine gate_guard (by rfl) ?_; dsimp only)); refine Kd.S_lit k28 _ 28 ?hg (N := 77) ?hd (xs := ([] : List (S28))) (inner := []) (ok := fun _ => True) (okp := fun _ => True) ?hr ?hp (fun _ hk => hk) trivial (Below.refl _ _) (Nat.le_refl _) (by simp) ?_; (case hd => rfl); (case hg => rfl); (case hr => first | (go_simp; done) | (go_simp; rfl)); (case hp => exact (Reps.none _ _)); intro v142 w81 ho82 hb hg_ hnew_; clear hg_ hnew_; (first | rw [← Ny141.out] at ho82 | (simp only [Int.reduceToNat] at ho82; rw [← Ny141.out] at ho82)); have HO143 := Aside0.mk (Kd.S_lower (Kd.S_newB (Kd.S_newB (Kd.S_new' (Kd.S_new' ho82 (Kd.S_lt (by refine kS_ ?_; exact (nfS_ gb120 HO_6.out (fun _ hk => hk.1.2) (fun _ h_ => op1_ h_))))) (Kd.R_lt (by refine kR_ ?_; exact (Kd.R_mono (Kd.R_f gb120 8 (.slice Ao79 y138.length co79) (Kd.R_types HO140.out BK120.out (by decide))) (fun _ h_ => op1_ h_))))) (g := gb114) (o := .cells #[.int .i64 a0_0, .int .i64 a0_1, .int .i64 a0_2, .int .i64 a0_3, .int .i64 a0_4, .int .i64 a0_5, .bool false, .bool a0_7, .slice A0_8 l0_8.length c0_8] 28 (0, 0)) (by exact kf_ BK114.out)) (g := gb120) (o := .cells #[.int .i64 a0_0, .int .i64 a0_1, .int .i64 a0_2, .int .i64 a0_3, .int .i64 a0_4, .int .i64 (wrap64 (a0_5 + x7_2)), .bool (decide ((ji27) < (l0_8.length : Int))), .bool a0_7, .slice Ao79 y138.length co79] 28 (0, 0)) (by refine kb_ ?_; refine blk_put (cs := #[.int .i64 a0_0, .int .i64 a0_1, .int .i64 a0_2, .int .i64 a0_3, .int .i64 a0_4, .int .i64 (wrap64 (a0_5 + x7_2)), .bool (decide ((ji27) < (l0_8.length : Int))), .bool a0_7, .slice A0_8 l0_8.length c0_8]) ?_ 8 _ rfl; refine kb_ ?_; exact BK120.out)) (below_size (hbA_ HB.out))); replace HO_6 := Aside0.mk (Kd.S_elder' (by refine kS_ ?_; exact (nfS_ gb120 HO_6.out (fun _ hk => hk.1.2) (fun _ h_ => op1_ h_))) (Kd.S_base ho82) hb); replace HO140 := Aside0.mk (Kd.R_below (by refine kR_ ?_; exact (Kd.R_mono (Kd.R_f gb120 8 (.slice Ao79 y138.length co79) (Kd.R_types HO140.out BK120.out (by decide))) (fun _ h_ => op1_ h_))) hb); replace BK114 := Aside0.mk (blk_below (g := gb114) (o := .cells #[.int .i64 a0_0, .int .i64 a0_1, .int .i64 a0_2, .int .i64 a0_3, .int .i64 a0_4, .int .i64 a0_5, .bool false, .bool a0_7, .slice A0_8 l0_8.length c0_8] 28 (0, 0)) (by exact kf_ BK114.out) hb); replace BK120 := Aside0.mk (blk_below (g := gb120) (o := .cells #[.int .i64 a0_0, .int .i64 a0_1, .int .i64 a0_2, .int .i64 a0_3, .int .i64 a0_4, .int .i64 (wrap64 (a0_5 + x7_2)), .bool (decide ((ji27) < (l0_8.length : Int))), .bool a0_7, .slice Ao79 y138.length co79] 28 (0, 0)) (by refine kb_ ?_; refine blk_put (cs := #[.int .i64 a0_0, .int .i64 a0_1, .int .i64 a0_2, .int .i64 a0_3, .int .i64 a0_4, .int .i64 (wrap64 (a0_5 + x7_2)), .bool (decide ((ji27) < (l0_8.length : Int))), .bool a0_7, .slice A0_8 l0_8.length c0_8]) ?_ 8 _ rfl; refine kb_ ?_; exact BK120.out) hb); replace HB := (bs_ HB hb); clear hb ho82))
               go_ret2
               exact ⟨_, by first | rfl | (simp [errW_none, errW_some] <;> rfl) | (simp only [← hji27]; first | rfl | (simp [errW_none, errW_some] <;> rfl)) | (simp [*, errW_none, errW_some] <;> rfl), by refine kS_ ?_; exact Kd.S_mono HO143.out (fun _ hk => trivial), hbA_ HB.out⟩
              ·rw [if_neg c68] at H
               have c68b0 : decide (255 < (wrap64 (a0_5 + x7_2))) = false := decide_eq_false c68
               clear c68
               by_cases c83 : x6_2.length < 1759218604441
               ·rw [if_pos c83] at H
                have LMc83 := Aside0.mk c83; clear c83
                obtain ⟨y144, hy144⟩ : ∃ y_ : List (S28), y_ = (x6_2 ++ [(⟨a0_0, a0_1, a0_2, a0_3, a0_4, wrap64 (a0_5 + x7_2), decide ((ji27) < (l0_8.length : Int)), a0_7, y138⟩ : S28)]) := ⟨_, rfl⟩
                (first | replace H := sb_ hy144 H | rw [← hy144] at H)
                have Ny144 := Aside0.mk hy144; clear hy144
                have H' := Aside0.mk H
                clear H; have Z84 := zz9 BK114
                go_wp2_with (first | ((with_reducible refine gate_dst (N := 8) rfl ?_); (try (refine gate_guard (by rfl) ?_; dsimp only)); refine box_ (N := 8) (cs := #[.int .i64 0, .int .i64 0, .int .i64 0, .int .i64 0, .int .i64 0, .int .i64 0, .bool false, .bool false, .slice none 0 0]) (t := 28) (fun gb120 hg w85 hbox hb => ?_); replace HO_6 := Aside0.mk (Kd.S_below (Kd.S_elderB (kS_ HO_6.out) gb120 (Nat.le_of_eq hg.symm)) hb); have BK120 := Aside0.mk (hbox); have GW120 := ge_ hg HB; have GE120 := ge_ hg HB; replace HB := (bs_ HB hb); have NB114_120 := nl_ hg BK114; have NB120_114 := ng_ hg BK114; replace BK114 := (bbA_ BK114 hb); clear hb hbox hg; have hnb86 := NB120_114.out; have hnc86 := NB114_120.out; have Z87 := zz9 BK120; have Z88 := zz9 BK114) | ((with_reducible refine gate_dst (N := 66) rfl ?_); (try (refine gate_guard (by rfl) ?_; dsimp only)); refine Kd.R_lit (Kd.int .u8) _ 5 ?hg (N := 66) ?hd (xs := ([] : List Int)) (inner := []) (ok := fun _ => True) (okp := fun _ => True) ?hr ?hp (fun _ hk => hk) trivial (Below.refl _ _) (Nat.le_refl _) (by simp) ?_; (case hd => rfl); (case hg => rfl); (case hr => first | (go_simp; done) | (go_simp; rfl)); (case hp => exact (Reps.none _ _)); intro v135 w89 ho90 hb hg_ hnew_; clear hg_ hnew_; (first | rw [← Ny134.out] at ho90 | (simp only [Int.reduceToNat] at ho90; rw [← Ny134.out] at ho90)); replace HO_6 := Aside0.mk (Kd.S_elder' (by refine kS_ ?_; exact (nfS_ gb120 HO_6.out (fun _ hk => hk.2) (fun _ h_ => op1_ h_))) (Kd.R_base ho90) hb); have HO136 := Aside0.mk (Kd.R_lower ho90 (below_size (hbA_ HB.out))); replace BK114 := Aside0.mk (blk_below (g := gb114) (o := .cells #[.int .i64 a0_0, .int .i64 a0_1, .int .i64 a0_2, .int .i64 a0_3, .int .i64 a0_4, .int .i64 a0_5, .bool false, .bool a0_7, .slice A0_8 l0_8.length c0_8] 28 (0, 0)) (by exact kf_ BK114.out) hb); replace BK120 := Aside0.mk (blk_below (g := gb120) (o := .cells #[.int .i64 a0_0, .int .i64 a0_1, .int .i64 a0_2, .int .i64 a0_3, .int .i64 a0_4, .int .i64 (wrap64 (a0_5 + x7_2)), .bool (decide ((ji27) < (l0_8.length : Int))), .bool a0_7, .slice A0_8 l0_8.length c0_8] 28 (0, 0)) (by refine kb_ ?_; refine blk_put (cs := #[.int .i64 a0_0, .int .i64 a0_1, .int .i64 a0_2, .int .i64 a0_3, .int .i64 a0_4, .int .i64 (wrap64 (a0_5 + x7_2)), .bool false, .bool a0_7, .slice A0_8 l0_8.length c0_8]) ?_ 6 _ rfl; refine kb_ ?_; refine blk_put (cs := #[.int .i64 a0_0, .int .i64 a0_1, .int .i64 a0_2, .int .i64 a0_3, .int .i64 a0_4, .int .i64 a0_5, .bool false, .bool a0_7, .slice A0_8 l0_8.length c0_8]) ?_ 5 _ rfl; refine kb_ ?_; refine pz9 (cs := #[.int .i64 0, .int .i64 0, .int .i64 0, .int .i64 0, .int .i64 0, .int .i64 0, .bool false, .bool false, .slice none 0 0]) ?_; refine kb_ ?_; exact BK120.out) hb); replace HB := (bs_ HB hb); clear hb ho90; have Z91 := zz9 BK114; obtain ⟨i092, hi092, _, hsz92, _⟩ := info_parts info5; obtain ⟨A92, hcut92, hA92, hC92⟩ := print_mid_of (P := Try.prog) (Value.int .u8) 0 22 5 .i64 .i64 Try.underlying22 hi092 hsz92 A0_8 c0_8 l0_8 x7_2 (ji27) (of_decide_eq_true (by first | (with_reducible assumption) | assumption)) (by first | omega | exact of_decide_eq_true (by first | (with_reducible assumption) | assumption)) (of_decide_eq_true (by first | (with_reducible assumption) | assumption)) HC0_8.out; have HR137 := Aside0.mk (Kd.C_of_reads (h1 := fun _ => rfl) (hA92 _ (Kd.reads_of_C HR0_8.out))); have HC137 := Aside0.mk hC92; clear hA92 hC92 hi092 hsz92) | ((with_reducible refine gate_builtin (b := .append) (xs := #[.tmp 66, .tmp 71]) rfl ?_); (try (refine gate_guard (by rfl) ?_; dsimp only)); at_builtin; refine Kd.R_append_rows (Kd.int .u8) (w0 := w) w.heap.size rfl (.tmp 66) (.tmp 71) 22 5 (.int .u8 0) 1 rfl Try.underlying22 info5 rfl (by decide) (by omega) v135 y134 ((l0_8.take ((ji27) : Int).toNat).drop (x7_2 : Int).toNat) _ _ _ (fun _ => True) (fun _ => False) rfl rfl ?aO ?aR (fun _ _ h => h) (fun _ h => h.elim) ?aF ?aB ?aS ?aL ?_; (case aR => first | (refine len_ (show ((l0_8.take ((ji27) : Int).toNat).drop (x7_2 : Int).toNat).length = ((ji27).toNat - x7_2.toNat) from (by rw [List.length_drop, List.length_take]; have h_ : ((ji27) : Int) ≤ (l0_8.length : Int) := of_decide_eq_true (by first | (with_reducible assumption) | assumption); omega)) ?_; repeat (first | exact (Kd.C_below HR137.out HB.out) | (with_reducible refine Kd.C_alloc ?_ _) | (with_reducible refine Kd.C_drewN ?_ _) | (with_reducible refine Kd.C_drew ?_)); done) | (repeat (first | exact (Kd.C_below HR137.out HB.out) | (with_reducible refine Kd.C_alloc ?_ _) | (with_reducible refine Kd.C_drewN ?_ _) | (with_reducible refine Kd.C_drew ?_)))); (case aB => exact (hbA_ HB.out)); (case aF => exact (fun _ _ => trivial)); (case aO => exact (kR_ HO136.out)); (case aS => exact (below_size (hbA_ HB.out))); (case aL => have := LMc67.out; have hlx_ := (show ((l0_8.take ((ji27) : Int).toNat).drop (x7_2 : Int).toNat).length = ((ji27).toNat - x7_2.toNat) from (by rw [List.length_drop, List.length_take]; have h_ : ((ji27) : Int) ≤ (l0_8.length : Int) := of_decide_eq_true (by first | (with_reducible assumption) | assumption); omega)); omega); intro v139 w93 ho hb hg hat; rw [← Ny138.out] at ho; replace HO_6 := Aside0.mk (Kd.S_after (ok := (fun k_ => k_ ≠ gb114 ∧ k_ ≠ gb120)) (kS_ HO_6.out) hg hat); replace BK114 := (bgA_ BK114 hg (Kd.R_ne HO136.out BK114.out (by decide))); replace BK120 := (bgA_ BK120 hg (Kd.R_ne HO136.out BK120.out (by decide))); replace HB := Aside0.mk (hb); have HO140 := Aside0.mk (ho); clear HO136; clear ho hb hg hat; obtain ⟨Ao94, co94, eo94⟩ := Kd.R_slice HO140.out; subst eo94; have Z95 := zz9 BK120) | ((with_reducible refine gate_store (t := 22) (p := 73) rfl ?_); refine store_event (t := 22) (p := 73) (v := ?vo_w96) (w1 := (w93.setCell ⟨gb120, 8, none⟩ (.slice Ao94 y138.length co94))) ?hg ?ho ?hn ?hr ?_; (case ho => rfl); (case hg => rfl); (case hn => rfl); (case hr => first | (go_simp; done) | (go_simp; rfl)); intro w96 hw; have n0_ : Aside0 (Kd.S k28 28 w96 w.heap.size (fun k_ => some k_ ≠ (.slice Ao94 y138.length co94 : Value).ownBlock ∧ k_ ≠ gb114 ∧ k_ ≠ gb120) u6 x6_2) := ⟨(by rw [hw]; exact (by refine kS_ ?_; exact nfS_ gb120 HO_6.out (fun _ hk => hk.1.2) (fun _ hk => ⟨hk.1.2, ⟨hk.1.1.1, hk.1.1.2⟩⟩)))⟩; have n1_ : Aside0 (Kd.R (Kd.int .u8) 5 w96 w.heap.size (fun _ => True) (.slice Ao94 y138.length co94) y138) := ⟨(by rw [hw]; exact (by refine kR_ ?_; exact Kd.R_mono (Kd.R_f gb120 8 (.slice Ao94 y138.length co94) (Kd.R_types HO140.out BK120.out (by decide))) (fun _ hk => trivial)))⟩; have n2_ : Aside0 (w96.heap[gb114]? = some (.cells #[.int .i64 a0_0, .int .i64 a0_1, .int .i64 a0_2, .int .i64 a0_3, .int .i64 a0_4, .int .i64 a0_5, .bool false, .bool a0_7, .slice A0_8 l0_8.length c0_8] 28 (0, 0))) := ⟨(by rw [hw]; exact (by exact kf_ BK114.out))⟩; have n3_ : Aside0 (w96.heap[gb120]? = some (.cells #[.int .i64 a0_0, .int .i64 a0_1, .int .i64 a0_2, .int .i64 a0_3, .int .i64 a0_4, .int .i64 (wrap64 (a0_5 + x7_2)), .bool (decide ((ji27) < (l0_8.length : Int))), .bool a0_7, .slice Ao94 y138.length co94] 28 (0, 0))) := ⟨(by rw [hw]; exact (by refine kb_ ?_; refine blk_put (cs := #[.int .i64 a0_0, .int .i64 a0_1, .int .i64 a0_2, .int .i64 a0_3, .int .i64 a0_4, .int .i64 (wrap64 (a0_5 + x7_2)), .bool (decide ((ji27) < (l0_8.length : Int))), .bool a0_7, .slice A0_8 l0_8.length c0_8]) ?_ 8 _ rfl; refine kb_ ?_; exact BK120.out))⟩; have n4_ : Aside0 (Below w.heap.size w w96) := ⟨(by rw [hw]; exact (hbA_ HB.out))⟩; clear hw; clear HO_6; clear HO140; clear BK114; clear BK120; clear HB; have HO_6 := n0_; have HO140 := n1_; have BK114 := n2_; have BK120 := n3_; have HB := n4_; clear n0_ n1_ n2_ n3_ n4_; have Z97 := zz9 BK120) | ((with_reducible refine gate_builtin (b := .append) (xs := #[.tmp 78, .tmp 80]) rfl ?_); (try (refine gate_guard (by rfl) ?_; dsimp only)); at_builtin; refine Kd.S_append k28 (w0 := w) w.heap.size rfl (.tmp 78) (.tmp 80) 23 28 (.agg #[(.int .i64 0), (.int .i64 0), (.int .i64 0), (.int .i64 0), (.int .i64 0), (.int .i64 0), (.bool false), (.bool false), (.slice none 0 0)]) 80 rfl Try.underlying23 info28 rfl (by decide) (by omega) u6 x6_2 (⟨a0_0, a0_1, a0_2, a0_3, a0_4, wrap64 (a0_5 + x7_2), decide ((ji27) < (l0_8.length : Int)), a0_7, y138⟩ : S28) [.int .i64 a0_0, .int .i64 a0_1, .int .i64 a0_2, .int .i64 a0_3, .int .i64 a0_4, .int .i64 (wrap64 (a0_5 + x7_2)), .bool (decide ((ji27) < (l0_8.length : Int))), .bool a0_7, .slice Ao94 y138.length co94] (fun k_ => k_ ≠ gb114 ∧ k_ ≠ gb120) (fun k_ => some k_ = (.slice Ao94 y138.length co94 : Value).ownBlock) rfl rfl ?aP (fun k_ hk_ => ((Kd.R_mono (ok' := fun k_ => ((fun k_ => k_ ≠ gb114 ∧ k_ ≠ gb120)) k_ ∧ some k_ ≠ (u6 : Value).ownBlock) (Kd.R_types (Kd.R_types (Kd.R_apart' (HO140.out) (Kd.S_typed HO_6.out) (by decide)) BK114.out (by decide)) BK120.out (by decide)) (fun k_ hk => ⟨⟨hk.1.2, hk.2⟩, hk.1.1.2⟩))).1 k_ hk_.symm) ?aF ?aO ?aB ?aS ?aL ?_; (case aP => exact k28_mkM _ _ _ (⟨a0_0, a0_1, a0_2, a0_3, a0_4, wrap64 (a0_5 + x7_2), decide ((ji27) < (l0_8.length : Int)), a0_7, y138⟩ : S28) (Kd.R_mono (Kd.R_tight rfl (Kd.R_mono (ok' := fun k_ => ((fun k_ => k_ ≠ gb114 ∧ k_ ≠ gb120)) k_ ∧ some k_ ≠ (u6 : Value).ownBlock) (Kd.R_types (Kd.R_types (Kd.R_apart' (HO140.out) (Kd.S_typed HO_6.out) (by decide)) BK114.out (by decide)) BK120.out (by decide)) (fun k_ hk => ⟨⟨hk.1.2, hk.2⟩, hk.1.1.2⟩))) (fun _ h_ => h_))); (case aB => exact (hbA_ HB.out)); (case aF => exact (fun k_ hk => ⟨fb_ BK114 k_ hk, fb_ BK120 k_ hk⟩)); (case aO => exact (by refine kS_ ?_; exact Kd.S_mono HO_6.out (fun k_ hk => ⟨⟨hk.2.1, hk.2.2⟩, fun e_ => hk.1 e_⟩))); (case aS => exact (below_size (hbA_ HB.out))); (case aL => have := LMc83.out; omega); intro v145 w98 ho hb hg hat; rw [← Ny144.out] at ho; replace BK114 := (bgA_ BK114 hg (Kd.S_away HO_6.out (fun _ hk => hk.2.1))); replace BK120 := (bgA_ BK120 hg (Kd.S_away HO_6.out (fun _ hk => hk.2.2))); replace HB := Aside0.mk (hb); have HO146 := Aside0.mk (ho); clear HO_6 HO140; clear ho hb hg hat))
                go_roundg kj22
                case measure => have := HJ2.out; have := HK2.out; have := HJ22.out; omega
                case rel => exact ⟨(y144), (wrap64 (x7_2 + a1)), (by first | rfl | (simp; done) | (simp [*]; done)), H', ⟨by have := HJ2.out; have := HK2.out; have := HJ22.out; omega⟩, ⟨by refine kS_ ?_; exact Kd.S_mono HO146.out (fun _ hk => hk.1)⟩, ⟨by refine kb_ ?_; exact BK114.out⟩, ⟨hbA_ HB.out⟩⟩
               ·rw [if_neg c83] at H
                exact absurd H (by simp)
             ·rw [if_neg c67] at H
              exact absurd H (by simp)
            ·rw [if_neg c66] at H
             exact absurd H (by simp)
           ·rw [if_neg c65] at H
            exact absurd H (by simp)
          ·rw [if_neg c64] at H
           exact absurd H (by simp)
        ·replace c26 := Bool.eq_false_iff.mpr c26
         subst c26
         rw [if_neg (show ¬ (false = true) by decide)] at H
         simp only [Option.some.injEq, Prod.mk.injEq] at H
         obtain ⟨rfl, rfl⟩ := H
         go_wp2
         go_ret2
         exact ⟨_, by first | rfl | (simp [errW_none, errW_some] <;> rfl) | (simp [*, errW_none, errW_some] <;> rfl), by refine kS_ ?_; exact Kd.S_mono HO_6.out (fun _ hk => trivial), hbA_ HB.out⟩
end Go.Proofs.Ytpbeljcgcdilnaa.PFnPartWhole
