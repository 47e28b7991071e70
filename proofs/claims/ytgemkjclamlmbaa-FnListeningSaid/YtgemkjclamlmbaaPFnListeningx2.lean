/- Printed by wip/xp/xprint.sh out of the translation, for this claim: what each function answers, as a plain function, and that the machine does just that. No condition. -/
import Derived.Test.YtgemkjclamlmbaaPFnListeningx0
namespace Go.Proofs.Ytgemkjclamlmbaa.PFnListening
open Go.RowKit Go.Proofs.YtgemkjclamlmbaaW.PrintWords Go.Proofs.YtgemkjclamlmbaaW.PrintLast Go.Proofs.YtgemkjclamlmbaaW.PrintMore
attribute [local go_sem] max2_int min2_int max_two min_two max_three min_three max_four min_four   -- for this text's walks alone
set_option linter.unusedVariables false
set_option linter.unusedSimpArgs false
def IsS55 (w0 W : World) (g : Nat) (f0 : List Int) (f1 : Int) : Prop := ∃ A0 c0, W.heap[g]? = some (.cells #[.slice A0 f0.length c0, .int .i64 f1] 55 (0, 0)) ∧ w0.heap.size ≤ g ∧ Kd.C (Kd.int .u8) w0 A0 f0.length f0
theorem IsS55.grown {w0 W : World} {g : Nat} {f0 : List Int} {f1 : Int} {W1 : World} {row : Option Nat} (h : IsS55 w0 W g f0 f1) (hw : W.grownBy W1 row) (hne : some g ≠ row) : IsS55 w0 W1 g f0 f1 := by
 obtain ⟨A0, c0, hb, hg, hr0⟩ := h
 exact ⟨A0, c0, blk_grown hb hw hne, hg, hr0⟩
theorem IsS55.kept {w0 W : World} {g : Nat} {f0 : List Int} {f1 : Int} {W1 : World} {S : Nat → Prop} (h : IsS55 w0 W g f0 f1) (hk : Kept W W1 S) (hne : ¬ S g) : IsS55 w0 W1 g f0 f1 := by
 obtain ⟨A0, c0, hb, hg, hr0⟩ := h
 exact ⟨A0, c0, blk_kept hb hk hne, hg, hr0⟩
theorem IsS55.below {w0 W : World} {g : Nat} {f0 : List Int} {f1 : Int} {W1 : World} (h : IsS55 w0 W g f0 f1) (hw : Below W.heap.size W W1) : IsS55 w0 W1 g f0 f1 := h.grown (grown_of_below hw none) (by simp)
theorem IsS55.alloc {w0 W : World} {g : Nat} {f0 : List Int} {f1 : Int} (h : IsS55 w0 W g f0 f1) (o : Obj) : IsS55 w0 (W.alloc o) g f0 f1 := h.below (below_alloc (Below.refl _ _) o)
theorem IsS55.drewN {w0 W : World} {g : Nat} {f0 : List Int} {f1 : Int} (h : IsS55 w0 W g f0 f1) (m : Nat) : IsS55 w0 (W.drewN m) g f0 f1 := h
theorem IsS55.drew {w0 W : World} {g : Nat} {f0 : List Int} {f1 : Int} (h : IsS55 w0 W g f0 f1) : IsS55 w0 W.drew g f0 f1 := h
theorem IsS55.at_ {w0 W : World} {g : Nat} {f0 : List Int} {f1 : Int} {w' : World} {m : Nat} (hq : W.drewN m = w') (h : IsS55 w0 W g f0 f1) : IsS55 w0 w' g f0 f1 := by subst hq; exact IsS55.drewN h m
theorem IsS55.apart {w0 W : World} {g : Nat} {f0 : List Int} {f1 : Int} {α : Type} {d : Kd α} {e : Nat} {base : Nat} {ok : Nat → Prop} {v : Value} {xs : List α} (h : IsS55 w0 W g f0 f1) (ho : d.R e W base ok v xs) (ht : ∀ q, q ∈ e :: d.E → q ≠ 55) : d.R e W base (fun k => ok k ∧ k ≠ g) v xs := by
 obtain ⟨A0, c0, hb, hg, hr0⟩ := h
 exact Kd.R_types ho hb ht
theorem IsS55.own_ne {w0 W : World} {g : Nat} {f0 : List Int} {f1 : Int} {α : Type} {d : Kd α} {e : Nat} {base : Nat} {ok : Nat → Prop} {v : Value} {xs : List α} (h : IsS55 w0 W g f0 f1) (ho : d.R e W base ok v xs) (ht : e ≠ 55) : some g ≠ v.ownBlock := by
 obtain ⟨A0, c0, hb, hg, hr0⟩ := h
 exact Kd.R_ne ho hb ht
theorem IsS55.ge {w0 W : World} {g : Nat} {f0 : List Int} {f1 : Int} (h : IsS55 w0 W g f0 f1) : w0.heap.size ≤ g := by
 obtain ⟨A0, c0, hb, hg, hr0⟩ := h
 exact hg
theorem IsS55.far {w0 W : World} {g : Nat} {f0 : List Int} {f1 : Int} {p : Addr} (h : IsS55 w0 W g f0 f1) (hne : g ≠ p.block) (u : Value) : IsS55 w0 (W.setCell p u) g f0 f1 := by
 obtain ⟨A0, c0, hb, hg, hr0⟩ := h
 exact ⟨A0, c0, blk_far hb hne u, hg, hr0⟩
theorem cellS55_0 {W : World} {g : Nat} {A0 : Option Addr} {c0 : Nat} {f0 : List Int} {f1 : Int} (h : W.heap[g]? = some (.cells #[.slice A0 f0.length c0, .int .i64 f1] 55 (0, 0))) : W.cell? ⟨g, 0, none⟩ = some (.slice A0 f0.length c0) := (blk_cell h 0).trans rfl
theorem cellS55_1 {W : World} {g : Nat} {A0 : Option Addr} {c0 : Nat} {f0 : List Int} {f1 : Int} (h : W.heap[g]? = some (.cells #[.slice A0 f0.length c0, .int .i64 f1] 55 (0, 0))) : W.cell? ⟨g, 1, none⟩ = some (.int .i64 f1) := (blk_cell h 1).trans rfl
theorem IsS55.set_1 {w0 W : World} {g : Nat} {f0 : List Int} {f1 : Int} (h : IsS55 w0 W g f0 f1) (x : Int) : IsS55 w0 (W.setCell ⟨g, 1, none⟩ (.int .i64 x)) g f0 x := by
 obtain ⟨A0, c0, hb, hg, hr0⟩ := h
 exact ⟨A0, c0, by simpa using blk_set hb 1 (.int .i64 x), hg, hr0⟩
theorem is55_ {P Q : Prop} (q : Q) (h : Q → P := by intro q_; repeat (first | (with_reducible first | exact q_ | apply IsS55.alloc | apply IsS55.drewN | apply IsS55.drew | apply IsS55.set_1 | refine IsS55.far ?_ (Aside0.out (by assumption)) _) | exact q_)) : P := h q
theorem hb55_ {P Q : Prop} (q : Q) (h : Q → P := by intro q_; repeat (first | (with_reducible first | exact q_ | apply below_alloc | apply pw_below_drewN | apply below_drew1 | refine below_set ?_ (Aside0.out (by assumption)) | refine below_set ?_ (IsS55.ge (Aside0.out (by assumption)))) | exact q_)) : P := h q
theorem bs55_ {w W W0 W2 : World} (HB : Aside0 (Below w.heap.size w W0)) (hb : Below W.heap.size W W2) (t : Below w.heap.size w W0 → Below w.heap.size w W := by intro q_; repeat (first | (with_reducible first | exact q_ | apply below_alloc | apply pw_below_drewN | apply below_drew1 | refine below_set ?_ (Aside0.out (by assumption)) | refine below_set ?_ (IsS55.ge (Aside0.out (by assumption)))) | exact q_)) : Aside0 (Below w.heap.size w W2) := ⟨below_step (t HB.out) hb⟩
theorem ib55_ {w0 W W0 W2 : World} {g : Nat} {f0 : List Int} {f1 : Int} {g0 : List Int} {g1 : Int} (h : Aside0 (IsS55 w0 W0 g f0 f1)) (hb : Below W.heap.size W W2) (t : IsS55 w0 W0 g f0 f1 → IsS55 w0 W g g0 g1 := by intro q_; repeat (first | (with_reducible first | exact q_ | apply IsS55.alloc | apply IsS55.drewN | apply IsS55.drew | apply IsS55.set_1 | refine IsS55.far ?_ (Aside0.out (by assumption)) _) | exact q_)) : Aside0 (IsS55 w0 W2 g g0 g1) := ⟨IsS55.below (t h.out) hb⟩
theorem rk55_ {w0 W0 W1 W W2 : World} {g : Nat} {f0 : List Int} {f1 : Int} {g0 : List Int} {g1 : Int} {α : Type} {d : Kd α} {e : Nat} {base : Nat} {ok : Nat → Prop} {v : Value} {xs : List α} (h : Aside0 (IsS55 w0 W0 g f0 f1)) (ho : Aside0 (d.R e W1 base ok v xs)) (hk : KeepBut W W2 g none) (t : IsS55 w0 W0 g f0 f1 → IsS55 w0 W g g0 g1 := by intro q_; repeat (first | (with_reducible first | exact q_ | apply IsS55.alloc | apply IsS55.drewN | apply IsS55.drew | apply IsS55.set_1 | refine IsS55.far ?_ (Aside0.out (by assumption)) _) | exact q_)) (s : d.R e W1 base ok v xs → d.R e W base ok v xs := by intro q_; (with_reducible repeat (first | apply Kd.R_alloc | apply Kd.R_drewN | apply Kd.R_drew)); exact q_) (ht : ∀ q, q ∈ e :: d.E → q ≠ 55 := by decide) : Aside0 (d.R e W2 base ok v xs) := ⟨Kd.R_mono (Kd.R_keep (IsS55.apart (t h.out) (s ho.out) ht) hk (fun _ h => h.2)) (fun _ h => h.1)⟩
def spec_l20Open.f (l0 : List Int) : Option (List Int × Int) := if (l0.length : Int) > 2000 then (if 2000 ≤ (l0.length : Int) then (some (l0.take 2000, 0)) else (none)) else (some (l0, 0))
set_option maxHeartbeats 8000000 in
set_option maxRecDepth 100000 in
theorem spec_l20Open.calls (A0 : Option Addr) (c0 : Nat) (l0 : List Int) (r1 : List Int) (r2 : Int) (w0 w : World) (hB : Below w0.heap.size w0 w) (hr0 : Kd.C (Kd.int .u8) w0 A0 l0.length l0) (hc0 : l0.length ≤ c0) (h : spec_l20Open.f l0 = some (r1, r2)) :
  Calls Try.prog 15 #[.slice A0 l0.length c0] w fun e w' => ∃ g_ : Nat, e = .returned (.pointer (some ⟨g_, 0, none⟩)) ∧ IsS55 w0 w' g_ r1 r2 ∧ Below w0.heap.size w0 w' ∧ Below w.heap.size w w' := by
 have hu55 := Try.underlying55; have HR0 := Aside0.mk hr0; have HC0 := Aside0.mk hc0; clear hr0 hc0
 have HBW := Aside0.mk (Below.refl w.heap.size w)
 have HW0 := Aside0.mk hB.size; have HB := Aside0.mk hB; clear hB
 have H : (if (l0.length : Int) > 2000 then (if 2000 ≤ (l0.length : Int) then (some (l0.take 2000, 0)) else (none)) else (some (l0, 0))) = some (r1, r2) := h
 clear h
 by_cases c2 : (l0.length : Int) > 2000
 ·rw [if_pos c2] at H
  have c2b0 : decide (2000 < (l0.length : Int)) = true := decide_eq_true c2
  have c2b1 : decide (2000 < l0.length) = true := decide_eq_true (by omega)
  clear c2
  by_cases c3 : 2000 ≤ (l0.length : Int)
  ·rw [if_pos c3] at H
   have c3b0 := eq_true c3
   have c3b1 : decide (2000 ≤ (l0.length : Int)) = true := decide_eq_true c3
   clear c3
   simp only [Option.some.injEq, Prod.mk.injEq] at H
   obtain ⟨rfl, rfl⟩ := H
   obtain ⟨i04, hi04, _, hsz4, _⟩ := info_parts info5
   obtain ⟨hcut4, hA4, hC4⟩ := print_take_of (P := Try.prog) (Value.int .u8) 0 22 5 .i64 Try.underlying22 hi04 hsz4 A0 c0 l0 2000 (by omega) (of_decide_eq_true (by first | (with_reducible assumption) | assumption)) HC0.out
   have HR101 := Aside0.mk (Kd.C_of_reads (h1 := fun _ => rfl) (hA4 _ (Kd.reads_of_C HR0.out)))
   have HC101 := Aside0.mk hC4; clear hA4 hC4 hi04 hsz4
   go_enter Try.func15, Try.ntmps15
   go_wp2_with (first | ((with_reducible refine gate_dst (N := 10) rfl ?_); refine box_ (N := 10) (cs := #[.slice A0 (l0.take 2000).length c0, .int .i64 0]) (t := 55) (fun gb102 hg w5 hbox hb => ?_); replace HB := (bs_ HB hb); have BK102 := Aside0.mk (hbox); have GW102 := Aside0.mk ((by rw [hg]; exact (below_size (hb0_ HBW.out)) : w.heap.size ≤ gb102)); have GE102 := Aside0.mk ((Nat.le_trans HW0.out (by rw [hg]; exact (below_size (hb0_ HBW.out)) : w.heap.size ≤ gb102) : w0.heap.size ≤ gb102)); replace HBW := Aside0.mk (below_step HBW.out hb); clear hb hbox hg))
   go_ret
   exact ⟨_, rfl, (show IsS55 w0 _ gb102 (l0.take 2000) 0 from ⟨_, _, by refine kb_ ?_; exact BK102.out, GE102.out, HR101.out⟩), hbA_ HB.out, by repeat (first | (with_reducible first | exact HBW.out | apply below_alloc | apply pw_below_drewN | apply below_drew1 | refine below_set ?_ GW102.out) | exact HBW.out)⟩
  ·rw [if_neg c3] at H
   exact absurd H (by simp)
 ·rw [if_neg c2] at H
  have c2b0 : decide (2000 < (l0.length : Int)) = false := decide_eq_false c2
  have c2b1 : decide (2000 < l0.length) = false := decide_eq_false (by omega)
  clear c2
  simp only [Option.some.injEq, Prod.mk.injEq] at H
  obtain ⟨rfl, rfl⟩ := H
  go_enter Try.func15, Try.ntmps15
  go_wp2_with (first | ((with_reducible refine gate_dst (N := 10) rfl ?_); refine box_ (N := 10) (cs := #[.slice A0 l0.length c0, .int .i64 0]) (t := 55) (fun gb103 hg w6 hbox hb => ?_); replace HB := (bs_ HB hb); have BK103 := Aside0.mk (hbox); have GW103 := Aside0.mk ((by rw [hg]; exact (below_size (hb0_ HBW.out)) : w.heap.size ≤ gb103)); have GE103 := Aside0.mk ((Nat.le_trans HW0.out (by rw [hg]; exact (below_size (hb0_ HBW.out)) : w.heap.size ≤ gb103) : w0.heap.size ≤ gb103)); replace HBW := Aside0.mk (below_step HBW.out hb); clear hb hbox hg))
  go_ret
  exact ⟨_, rfl, (show IsS55 w0 _ gb103 l0 0 from ⟨_, _, by refine kb_ ?_; exact BK103.out, GE103.out, HR0.out⟩), hbA_ HB.out, by repeat (first | (with_reducible first | exact HBW.out | apply below_alloc | apply pw_below_drewN | apply below_drew1 | refine below_set ?_ GW103.out) | exact HBW.out)⟩
def spec_l20Rd_pick.j0 : Nat → Int → Bool → List Int → Int → Option (Int × Int)
 | 0, _, _, _, _ => none
 | k + 1, x1, x24, x1000, x1001 => if x24 = true then (some (0, x1001)) else (if (wrap64 (x1001 - 1)) < (x1000.length : Int) then (if 0 ≤ (wrap64 (x1001 - 1)) then (if x1 = 0 then (none) else (some (Int.tmod (wrap64 (rd x1000 (wrap64 (x1001 - 1)))) x1, x1001))) else (none)) else (if (x1000.length : Int) = 0 then (none) else (if 0 ≤ (Int.tmod (wrap64 (x1001 - 1)) (x1000.length : Int)) then (if (Int.tmod (wrap64 (x1001 - 1)) (x1000.length : Int)) < (x1000.length : Int) then (if 0 ≤ (Int.tmod (wrap64 ((wrap64 ((wrap64 (x1001 - 1)) * 7)) + 3)) (x1000.length : Int)) then (if (Int.tmod (wrap64 ((wrap64 ((wrap64 (x1001 - 1)) * 7)) + 3)) (x1000.length : Int)) < (x1000.length : Int) then (if x1 = 0 then (none) else (some (Int.tmod (Go.bits .xor .i64 (wrap64 ((wrap64 ((wrap64 ((wrap64 ((wrap64 (rd x1000 (Int.tmod (wrap64 (x1001 - 1)) (x1000.length : Int)))) * 131)) + (wrap64 ((wrap64 (rd x1000 (Int.tmod (wrap64 ((wrap64 ((wrap64 (x1001 - 1)) * 7)) + 3)) (x1000.length : Int)))) * 1117)))) + (wrap64 ((wrap64 (x1001 - 1)) * 29)))) + (wrap64 ((wrap64 (Int.tdiv (wrap64 (x1001 - 1)) (x1000.length : Int))) * 53)))) (wrap64 (Int.tdiv (wrap64 ((wrap64 ((wrap64 ((wrap64 ((wrap64 (rd x1000 (Int.tmod (wrap64 (x1001 - 1)) (x1000.length : Int)))) * 131)) + (wrap64 ((wrap64 (rd x1000 (Int.tmod (wrap64 ((wrap64 ((wrap64 (x1001 - 1)) * 7)) + 3)) (x1000.length : Int)))) * 1117)))) + (wrap64 ((wrap64 (x1001 - 1)) * 29)))) + (wrap64 ((wrap64 (Int.tdiv (wrap64 (x1001 - 1)) (x1000.length : Int))) * 53)))) 64))) x1, x1001))) else (none)) else (none)) else (none)) else (none))))
def spec_l20Rd_pick.f (k : Nat) (s0_0 : List Int) (s0_1 : Int) (a1 : Int) : Option (Int × Int) := if a1 < 1 then (spec_l20Rd_pick.j0 k a1 true s0_0 (wrap64 (s0_1 + 1))) else (spec_l20Rd_pick.j0 k a1 ((s0_0.length : Int) == 0) s0_0 (wrap64 (s0_1 + 1)))
theorem spec_l20Rd_pick.mono_l : ∀ k, (∀ y0 y1 y2 y3, LeO (spec_l20Rd_pick.j0 k y0 y1 y2 y3) (spec_l20Rd_pick.j0 (k + 1) y0 y1 y2 y3))
 | 0 => fun _ _ _ _ r h => by simp [spec_l20Rd_pick.j0] at h
 | k + 1 => by
  have ih0 := spec_l20Rd_pick.mono_l k
  ·intro y0 y1 y2 y3
   unfold spec_l20Rd_pick.j0
   repeat' first | (with_reducible first | apply ih0 | exact LeO.refl _ | exact LeO.none _ | refine LeO.ite ?_ ?_ | refine LeO.bind ?_ fun _ => ?_) | apply ih0 | exact LeO.none _ | refine LeO.ite ?_ ?_ | refine LeO.bind ?_ fun _ => ?_
theorem spec_l20Rd_pick.mono : ∀ a0 a1 a2 k, LeO (spec_l20Rd_pick.f k a0 a1 a2) (spec_l20Rd_pick.f (k + 1) a0 a1 a2) := by
 intro a0 a1 a2 k
 have ih0 := spec_l20Rd_pick.mono_l k
 unfold spec_l20Rd_pick.f
 repeat' first | (with_reducible first | apply ih0 | exact LeO.refl _ | exact LeO.none _ | refine LeO.ite ?_ ?_ | refine LeO.bind ?_ fun _ => ?_) | apply ih0 | exact LeO.none _ | refine LeO.ite ?_ ?_ | refine LeO.bind ?_ fun _ => ?_
set_option maxHeartbeats 8000000 in
set_option maxRecDepth 100000 in
theorem spec_l20Rd_pick.calls (k : Nat) (g : Nat) (s0_0 : List Int) (s0_1 : Int) (a1 : Int) (r1 : Int) (r2 : Int) (w0 w : World) (hI : IsS55 w0 w g s0_0 s0_1) (hB : Below w0.heap.size w0 w) (h : spec_l20Rd_pick.f k s0_0 s0_1 a1 = some (r1, r2)) :
  Calls Try.prog 16 #[.pointer (some ⟨g, 0, none⟩), .int .i64 a1] w fun e w' => e = .returned (.int .i64 r1) ∧ IsS55 w0 w' g s0_0 r2 ∧ Below w0.heap.size w0 w' ∧ KeepBut w w' g none := by
 have HI0 := Aside0.mk hI
 have HK := Aside0.mk (KeepBut.refl w g none)
 have HL := Aside0.mk hB.size; clear hI; have HW0 := Aside0.mk hB.size; have HB := Aside0.mk hB; clear hB
 have H : (if a1 < 1 then (spec_l20Rd_pick.j0 k a1 true s0_0 (wrap64 (s0_1 + 1))) else (spec_l20Rd_pick.j0 k a1 ((s0_0.length : Int) == 0) s0_0 (wrap64 (s0_1 + 1)))) = some (r1, r2) := h
 clear h; have HC3 := Aside0.mk H; clear H
 obtain ⟨ASz4_0, cSz4_0, HGz4, hgz4, HSz4_0⟩ := HI0.out
 have hcz4_0 := cellS55_0 HGz4
 have hcz4_1 := cellS55_1 HGz4
 have hfz4_1 := blk_frozen HGz4 1; clear HGz4 hgz4
 go_enter Try.func16, Try.ntmps16
 go_upto_region 2 with (fail)
 repeat (go_quiet (fail); go_upto_region 2 with (fail))
 go_cut [24] (fun v24 wc => ∃ (kq : Nat) (x24_2 : Bool), v24 = .bool x24_2 ∧ Aside0 (spec_l20Rd_pick.j0 kq a1 x24_2 s0_0 (wrap64 (s0_1 + 1)) = some (r1, r2)) ∧ Aside0 (kq ≤ k) ∧ Aside0 (IsS55 w0 wc g s0_0 (wrap64 (s0_1 + 1))) ∧ Aside0 (KeepBut w wc g none) ∧ Aside0 (Below w0.heap.size w0 wc))
 case first =>
  have H := HC3.out; clear HC3
  by_cases c5 : a1 < 1
  ·rw [if_pos c5] at H
   have c5b0 : decide (a1 < 1) = true := decide_eq_true c5
   clear c5
   (first | rw [c5b0] | (simp only [i64_w, i32_w]; rw [c5b0]) | skip)
   have H' := Aside0.mk H
   clear H
   go_wp2
   repeat (go_quiet (fail); try go_wp2)
   go_meet
   case rel => exact ⟨_, (true), (by first | rfl | (simp; done) | (simp [*]; done)), H', ⟨by first | omega | exact Nat.le_refl _⟩, ⟨is55_ HI0.out⟩, ⟨hkA_ HK.out⟩, ⟨hb55_ HB.out⟩⟩
  ·rw [if_neg c5] at H
   have c5b0 : decide (a1 < 1) = false := decide_eq_false c5
   clear c5
   (first | rw [c5b0] | (simp only [i64_w, i32_w]; rw [c5b0]) | skip)
   have H' := Aside0.mk H
   clear H
   obtain ⟨ASz6_0, cSz6_0, HGz6, hgz6, HSz6_0⟩ := HI0.out
   have hcz6_0 := cellS55_0 HGz6
   have hcz6_1 := cellS55_1 HGz6
   have hfz6_1 := blk_frozen HGz6 1; clear HGz6 hgz6
   go_wp2
   repeat (go_quiet (fail); try go_wp2)
   go_meet
   case rel => exact ⟨_, (((s0_0.length : Int) == 0)), (by first | rfl | (simp; done) | (simp [*]; done)), H', ⟨by first | omega | exact Nat.le_refl _⟩, ⟨is55_ HI0.out⟩, ⟨hkA_ HK.out⟩, ⟨hb55_ HB.out⟩⟩
 case rest =>
  clear HC3; (try clear c1); (try clear p2); (try clear c5); (try clear c5b0); (try clear p6); (try clear hcz4_0); (try clear hcz4_1); (try clear hcz6_0); (try clear hcz6_1); (try clear hfz4_1); (try clear hfz6_1)
  obtain ⟨kq, x24_2, rfl, HA, HJ2, HI0, HK, HB⟩ := hcut
  cases kq with
  | zero => exact absurd HA.out (by simp [spec_l20Rd_pick.j0])
  | succ kj2 =>
   have H := HA.out; clear HA
   simp only [spec_l20Rd_pick.j0] at H
   by_cases c7 : x24_2 = true
   ·subst c7
    rw [if_pos rfl] at H
    simp only [Option.some.injEq, Prod.mk.injEq] at H
    obtain ⟨rfl, rfl⟩ := H
    go_wp2
    repeat (go_quiet (fail); try go_wp2)
    go_ret
    exact ⟨by first | rfl | (simp [errW_none, errW_some] <;> rfl) | (simp [*, errW_none, errW_some] <;> rfl), is55_ HI0.out, hb55_ HB.out, hkA_ HK.out⟩
   ·replace c7 := Bool.eq_false_iff.mpr c7
    subst c7
    rw [if_neg (show ¬ (false = true) by decide)] at H
    by_cases c8 : (wrap64 ((wrap64 (s0_1 + 1)) - 1)) < (s0_0.length : Int)
    ·rw [if_pos c8] at H
     have c8b0 : decide ((wrap64 ((wrap64 (s0_1 + 1)) - 1)) < (s0_0.length : Int)) = true := decide_eq_true c8
     clear c8
     obtain ⟨ji9, hji9⟩ : ∃ j_ : Int, (wrap64 ((wrap64 (s0_1 + 1)) - 1)) = j_ := ⟨_, rfl⟩
     (first | rw [hji9] at H | simp only [hji9] at H)
     (try rw [hji9] at c8b0)
     have hji9w : (IntKind.i64.wrap ((wrap64 (s0_1 + 1)) - 1)) = ji9 := (i64_w _).trans hji9
     by_cases c10 : 0 ≤ (ji9)
     ·rw [if_pos c10] at H
      have c10b0 : decide (0 ≤ (ji9)) = true := decide_eq_true c10
      clear c10
      by_cases c11 : a1 = 0
      ·rw [if_pos c11] at H
       exact absurd H (by simp)
      ·rw [if_neg c11] at H
       have c11b0 : (a1 == 0) = false := beq_eq_false_iff_ne.mpr c11
       have c11b1 : (a1 != 0) = true := bne_iff_ne.mpr c11
       simp only [Option.some.injEq, Prod.mk.injEq] at H
       obtain ⟨rfl, rfl⟩ := H
       obtain ⟨ASz12_0, cSz12_0, HGz12, hgz12, HSz12_0⟩ := HI0.out
       have hcz12_0 := cellS55_0 HGz12
       have hcz12_1 := cellS55_1 HGz12
       have hfz12_1 := blk_frozen HGz12 1; clear HGz12 hgz12
       have p104 : 0 ≤ ((ji9) : Int) := of_decide_eq_true (by first | (with_reducible assumption) | assumption)
       have q104 : (ji9) < (s0_0.length : Int) := of_decide_eq_true (by first | (with_reducible assumption) | assumption)
       obtain ⟨ad104, e104, hx104_0⟩ := Kd.at_int HSz12_0 (ji9) p104 q104
       cases e104
       replace hx104_0 := pw_cell_below HB.out hx104_0
       replace p104 := eq_true p104
       replace q104 := eq_true q104
       go_wp2
       repeat (go_quiet (fail); try go_wp2)
       go_ret
       exact ⟨by first | rfl | (simp [errW_none, errW_some] <;> rfl) | (simp only [← hji9]; first | rfl | (simp [errW_none, errW_some] <;> rfl)) | (simp [*, errW_none, errW_some] <;> rfl), is55_ HI0.out, hb55_ HB.out, hkA_ HK.out⟩
     ·rw [if_neg c10] at H
      exact absurd H (by simp)
    ·rw [if_neg c8] at H
     have c8b0 : decide ((wrap64 ((wrap64 (s0_1 + 1)) - 1)) < (s0_0.length : Int)) = false := decide_eq_false c8
     clear c8
     by_cases c13 : (s0_0.length : Int) = 0
     ·rw [if_pos c13] at H
      exact absurd H (by simp)
     ·rw [if_neg c13] at H
      have c13b0 : ((s0_0.length : Int) == 0) = false := beq_eq_false_iff_ne.mpr c13
      have c13b1 : ((s0_0.length : Int) != 0) = true := bne_iff_ne.mpr c13
      have c13b2 : ¬ (s0_0 = []) := fun h_ => c13 (by rw [h_]; rfl)
      obtain ⟨ji14, hji14⟩ : ∃ j_ : Int, (Int.tmod (wrap64 ((wrap64 (s0_1 + 1)) - 1)) (s0_0.length : Int)) = j_ := ⟨_, rfl⟩
      (first | rw [hji14] at H | simp only [hji14] at H)
      by_cases c15 : 0 ≤ (ji14)
      ·rw [if_pos c15] at H
       have c15b0 : decide (0 ≤ (ji14)) = true := decide_eq_true c15
       clear c15
       by_cases c16 : (ji14) < (s0_0.length : Int)
       ·rw [if_pos c16] at H
        have c16b0 : decide ((ji14) < (s0_0.length : Int)) = true := decide_eq_true c16
        clear c16
        obtain ⟨ji17, hji17⟩ : ∃ j_ : Int, (Int.tmod (wrap64 ((wrap64 ((wrap64 ((wrap64 (s0_1 + 1)) - 1)) * 7)) + 3)) (s0_0.length : Int)) = j_ := ⟨_, rfl⟩
        (first | rw [hji17] at H | simp only [hji17] at H)
        by_cases c18 : 0 ≤ (ji17)
        ·rw [if_pos c18] at H
         have c18b0 : decide (0 ≤ (ji17)) = true := decide_eq_true c18
         clear c18
         by_cases c19 : (ji17) < (s0_0.length : Int)
         ·rw [if_pos c19] at H
          have c19b0 : decide ((ji17) < (s0_0.length : Int)) = true := decide_eq_true c19
          clear c19
          by_cases c20 : a1 = 0
          ·rw [if_pos c20] at H
           exact absurd H (by simp)
          ·rw [if_neg c20] at H
           have c20b0 : (a1 == 0) = false := beq_eq_false_iff_ne.mpr c20
           have c20b1 : (a1 != 0) = true := bne_iff_ne.mpr c20
           simp only [Option.some.injEq, Prod.mk.injEq] at H
           obtain ⟨rfl, rfl⟩ := H
           obtain ⟨ASz21_0, cSz21_0, HGz21, hgz21, HSz21_0⟩ := HI0.out
           have hcz21_0 := cellS55_0 HGz21
           have hcz21_1 := cellS55_1 HGz21
           have hfz21_1 := blk_frozen HGz21 1; clear HGz21 hgz21
           have p105 : 0 ≤ ((ji14) : Int) := of_decide_eq_true (by first | (with_reducible assumption) | assumption)
           have q105 : (ji14) < (s0_0.length : Int) := of_decide_eq_true (by first | (with_reducible assumption) | assumption)
           obtain ⟨ad105, e105, hx105_0⟩ := Kd.at_int HSz21_0 (ji14) p105 q105
           cases e105
           replace hx105_0 := pw_cell_below HB.out hx105_0
           replace p105 := eq_true p105
           replace q105 := eq_true q105
           have p106 : 0 ≤ ((ji17) : Int) := of_decide_eq_true (by first | (with_reducible assumption) | assumption)
           have q106 : (ji17) < (s0_0.length : Int) := of_decide_eq_true (by first | (with_reducible assumption) | assumption)
           obtain ⟨ad106, e106, hx106_0⟩ := Kd.at_int HSz21_0 (ji17) p106 q106
           obtain rfl : ad105 = ad106 := (by injection e106)
           replace hx106_0 := pw_cell_below HB.out hx106_0
           replace p106 := eq_true p106
           replace q106 := eq_true q106
           go_wp2
           repeat (go_quiet (fail); try go_wp2)
           go_ret
           exact ⟨by first | rfl | (simp [errW_none, errW_some] <;> rfl) | (simp only [← hji14, ← hji17]; first | rfl | (simp [errW_none, errW_some] <;> rfl)) | (simp [*, errW_none, errW_some] <;> rfl), is55_ HI0.out, hb55_ HB.out, hkA_ HK.out⟩
         ·rw [if_neg c19] at H
          exact absurd H (by simp)
        ·rw [if_neg c18] at H
         exact absurd H (by simp)
       ·rw [if_neg c16] at H
        exact absurd H (by simp)
      ·rw [if_neg c15] at H
       exact absurd H (by simp)
def spec_DrawListening.l0 : Nat → Int → List (S33) → List Int → Int → List Int → Int → Option (Int × (List (S33)) × List Int)
 | 0, _, _, _, _, _, _ => none
 | k + 1, x6, x7, x8, x9, x110000, x110001 => if x9 > 0 then ((spec_l20Rd_pick.f k x110000 x110001 30).bind fun bt120 => ((spec_l20Rd_pick.f k x110000 bt120.2 6).bind fun bt122 => (if x7.length < 8796093022208 then ((spec_l20Rd_pick.f k x110000 bt122.2 6).bind fun bt127 => (if x8.length < 17592186044416 then (spec_DrawListening.l0 k x6 (x7 ++ [(⟨bt120.1, wrap64 ((wrap64 (bt120.1 + 1)) + bt122.1)⟩ : S33)]) (x8 ++ [bt127.1]) (wrap64 (x9 - 1)) x110000 bt127.2) else (none))) else (none)))) else (some (x6, x7, x8))
def spec_DrawListening.f (k : Nat) (l0 : List Int) : Option (Int × (List (S33)) × List Int) := (spec_l20Open.f l0).bind fun bt107 => ((spec_l20Rd_pick.f k bt107.1 bt107.2 20).bind fun bt110 => ((spec_l20Rd_pick.f k bt107.1 bt110.2 24).bind fun bt118 => (spec_DrawListening.l0 k (wrap64 (4 + bt110.1)) (([] : List (S33))) (([] : List Int)) (wrap64 (2 + bt118.1)) bt107.1 bt118.2)))
theorem spec_DrawListening.mono_l : ∀ k, (∀ y0 y1 y2 y3 y4 y5, LeO (spec_DrawListening.l0 k y0 y1 y2 y3 y4 y5) (spec_DrawListening.l0 (k + 1) y0 y1 y2 y3 y4 y5))
 | 0 => fun _ _ _ _ _ _ r h => by simp [spec_DrawListening.l0] at h
 | k + 1 => by
  have ih0 := spec_DrawListening.mono_l k
  ·intro y0 y1 y2 y3 y4 y5
   unfold spec_DrawListening.l0
   repeat' first | (with_reducible first | apply ih0 | apply spec_l20Rd_pick.mono | exact LeO.refl _ | exact LeO.none _ | refine LeO.ite ?_ ?_ | refine LeO.bind ?_ fun _ => ?_) | apply ih0 | apply spec_l20Rd_pick.mono | exact LeO.none _ | refine LeO.ite ?_ ?_ | refine LeO.bind ?_ fun _ => ?_
theorem spec_DrawListening.mono : ∀ a0 k, LeO (spec_DrawListening.f k a0) (spec_DrawListening.f (k + 1) a0) := by
 intro a0 k
 have ih0 := spec_DrawListening.mono_l k
 unfold spec_DrawListening.f
 repeat' first | (with_reducible first | apply ih0 | apply spec_l20Rd_pick.mono | exact LeO.refl _ | exact LeO.none _ | refine LeO.ite ?_ ?_ | refine LeO.bind ?_ fun _ => ?_) | apply ih0 | apply spec_l20Rd_pick.mono | exact LeO.none _ | refine LeO.ite ?_ ?_ | refine LeO.bind ?_ fun _ => ?_
set_option maxHeartbeats 8000000 in
set_option maxRecDepth 100000 in
theorem spec_DrawListening.calls (k : Nat) (A0 : Option Addr) (c0 : Nat) (l0 : List Int) (r1 : Int) (r2 : List (S33)) (r3 : List Int) (w : World) (hr0 : Kd.C (Kd.int .u8) w A0 l0.length l0) (hc0 : l0.length ≤ c0) (h : spec_DrawListening.f k l0 = some (r1, r2, r3)) :
  Calls Try.prog 4 #[.slice A0 l0.length c0] w fun e w' => ∃ v1_ v2_ : Value, e = .returned (.tuple #[.int .i64 r1, v1_, v2_]) ∧ Kd.R k33 33 w' w.heap.size (fun _ => True) v1_ r2 ∧ Kd.R (Kd.int .i64) 3 w' w.heap.size (fun _ => True) v2_ r3 ∧ Below w.heap.size w w' := by
 have hu33 := Try.underlying33; have HR0 := Aside0.mk hr0; have HC0 := Aside0.mk hc0; clear hr0 hc0
 have HB := Aside0.mk (Below.refl w.heap.size w)
 have H : ((spec_l20Open.f l0).bind fun bt107 => ((spec_l20Rd_pick.f k bt107.1 bt107.2 20).bind fun bt110 => ((spec_l20Rd_pick.f k bt107.1 bt110.2 24).bind fun bt118 => (spec_DrawListening.l0 k (wrap64 (4 + bt110.1)) (([] : List (S33))) (([] : List Int)) (wrap64 (2 + bt118.1)) bt107.1 bt118.2)))) = some (r1, r2, r3) := h
 clear h
 replace H := Option.bind_eq_some_iff.mp H
 obtain ⟨⟨t107, t108⟩, A20, H⟩ := H
 (try dsimp only at H)
 have A2 := Aside0.mk A20; clear A20
 replace H := Option.bind_eq_some_iff.mp H
 obtain ⟨⟨t110, t111⟩, A30, H⟩ := H
 (try dsimp only at H)
 have A3 := Aside0.mk A30; clear A30
 obtain ⟨y112, hy112⟩ : ∃ y_ : List (S33), y_ = (([] : List (S33))) := ⟨_, rfl⟩
 (first | replace H := sb_ hy112 H | rw [← hy112] at H)
 have Ny112 := Aside0.mk hy112; clear hy112
 obtain ⟨y115, hy115⟩ : ∃ y_ : List Int, y_ = (([] : List Int)) := ⟨_, rfl⟩
 (first | replace H := sb_ hy115 H | rw [← hy115] at H)
 have Ny115 := Aside0.mk hy115; clear hy115
 replace H := Option.bind_eq_some_iff.mp H
 obtain ⟨⟨t118, t119⟩, A40, H⟩ := H
 (try dsimp only at H)
 have A4 := Aside0.mk A40; clear A40
 have H' := Aside0.mk H
 clear H
 go_enter Try.func4, Try.ntmps4
 go_wp2_with (first | ((with_reducible refine gate_callee (f := 15) rfl ?_); refine goesL_ (some 12) rfl rfl Try.func15 (by kernel_rfl) rfl #[.slice A0 l0.length c0] rfl ar_ ?_; (with_reducible refine (spec_l20Open.calls _ _ l0 t107 t108 w _ ?side1 ?side2 ?side3 A2.out).mono ?_); (case side1 => exact hbA_ HB.out); (case side2 => exact HR0.out); (case side3 => exact HC0.out); rintro e w5 ⟨g109, rfl, hi, hb, hb2⟩; refine ⟨_, rfl, ?_⟩; replace HB := Aside0.mk (hb); have HI109 := Aside0.mk (hi); (try clear hb); (try clear hb2); (try clear hk); (try clear hi)) | ((with_reducible refine gate_callee (f := 16) rfl ?_); refine goesL_ (some 14) rfl rfl Try.func16 (by kernel_rfl) rfl #[.pointer (some ⟨g109, 0, none⟩), .int .i64 20] rfl ar_ ?_; (with_reducible refine (spec_l20Rd_pick.calls k g109 t107 t108 20 t110 t111 w _ ?side1 ?side2 A3.out).mono ?_); (case side1 => exact is55_ HI109.out); (case side2 => exact hb55_ HB.out); rintro e w6 ⟨rfl, hi, hb, hk⟩; refine ⟨_, rfl, ?_⟩; replace HB := Aside0.mk (hb); replace HI109 := Aside0.mk (hi); (try clear hb); (try clear hb2); (try clear hk); (try clear hi)) | ((with_reducible refine gate_dst (N := 16) rfl ?_); refine Kd.R_lit k33 _ 33 ?hg (N := 16) ?hd (xs := ([] : List (S33))) (inner := []) (ok := fun _ => True) (okp := fun _ => True) ?hr ?hp (fun _ hk => hk) trivial (Below.refl _ _) (Nat.le_refl _) (by simp) ?_; (case hd => rfl); (case hg => rfl); (case hr => first | (go_simp; done) | (go_simp; rfl)); (case hp => exact (Reps.none _ _)); intro v113 w7 ho8 hb hg_ hnew_; clear hg_ hnew_; (first | rw [← Ny112.out] at ho8 | (simp only [Int.reduceToNat] at ho8; rw [← Ny112.out] at ho8)); have HO114 := Aside0.mk (Kd.R_lower ho8 (below_size (hb55_ HB.out))); replace HI109 := (ib55_ HI109 hb); replace HB := (bs55_ HB hb); clear hb ho8) | ((with_reducible refine gate_dst (N := 17) rfl ?_); refine Kd.R_lit (Kd.int .i64) _ 3 ?hg (N := 17) ?hd (xs := ([] : List Int)) (inner := []) (ok := fun _ => True) (okp := fun _ => True) ?hr ?hp (fun _ hk => hk) trivial (Below.refl _ _) (Nat.le_refl _) (by simp) ?_; (case hd => rfl); (case hg => rfl); (case hr => first | (go_simp; done) | (go_simp; rfl)); (case hp => exact (Reps.none _ _)); intro v116 w9 ho10 hb hg_ hnew_; clear hg_ hnew_; (first | rw [← Ny115.out] at ho10 | (simp only [Int.reduceToNat] at ho10; rw [← Ny115.out] at ho10)); replace HO114 := Aside0.mk (Kd.R_below (kR_ HO114.out) hb); have HO117 := Aside0.mk (Kd.R_lower ho10 (below_size (hb55_ HB.out))); replace HI109 := (ib55_ HI109 hb); replace HB := (bs55_ HB hb); clear hb ho10) | ((with_reducible refine gate_callee (f := 16) rfl ?_); refine goesL_ (some 19) rfl rfl Try.func16 (by kernel_rfl) rfl #[.pointer (some ⟨g109, 0, none⟩), .int .i64 24] rfl ar_ ?_; (with_reducible refine (spec_l20Rd_pick.calls k g109 t107 t111 24 t118 t119 w _ ?side1 ?side2 A4.out).mono ?_); (case side1 => exact is55_ HI109.out); (case side2 => exact hb55_ HB.out); rintro e w11 ⟨rfl, hi, hb, hk⟩; refine ⟨_, rfl, ?_⟩; replace HO114 := (rk55_ HI109 HO114 hk); replace HO117 := (rk55_ HI109 HO117 hk); replace HB := Aside0.mk (hb); replace HI109 := Aside0.mk (hi); (try clear hb); (try clear hb2); (try clear hk); (try clear hi)))
 go_loopg [7, 8, 9] k (fun kq v7 v8 v9 w' => ∃ (x7_1 : List (S33)) (x8_1 : List Int) (x9_1 : Int) (x110001_1 : Int), v9 = .int .i64 x9_1 ∧ Aside0 (spec_DrawListening.l0 kq (wrap64 (4 + t110)) x7_1 x8_1 x9_1 t107 x110001_1 = some (r1, r2, r3)) ∧ Aside0 (kq ≤ k) ∧ Aside0 (Kd.R k33 33 w' w.heap.size (fun _ => True) v7 x7_1) ∧ Aside0 (Kd.R (Kd.int .i64) 3 w' w.heap.size (fun _ => True) v8 x8_1) ∧ Aside0 (IsS55 w w' g109 t107 x110001_1) ∧ Aside0 (Below w.heap.size w w'))
 case atStart => exact ⟨(y112), (y115), (wrap64 (2 + t118)), (t119), (by first | rfl | (simp; done) | (simp [*]; done)), H', ⟨Nat.le_refl _⟩, ⟨kR_ HO114.out⟩, ⟨kR_ HO117.out⟩, ⟨is55_ HI109.out⟩, ⟨hb55_ HB.out⟩⟩
 case round =>
  clear H'; (try clear c1); (try clear p2); (try clear c4); (try clear p6)
  obtain ⟨x7_1, x8_1, x9_1, x110001_1, rfl, HA, HK1, HO_7, HO_8, HI109, HB⟩ := hrel
  cases gk with
  | zero => exact absurd HA.out (by simp [spec_DrawListening.l0])
  | succ k1 =>
   have H := HA.out; clear HA
   simp only [spec_DrawListening.l0] at H
   by_cases c12 : x9_1 > 0
   ·rw [if_pos c12] at H
    have c12b0 : decide (0 < x9_1) = true := decide_eq_true c12
    clear c12
    replace H := Option.bind_eq_some_iff.mp H
    obtain ⟨⟨t120, t121⟩, A130, H⟩ := H
    (try dsimp only at H)
    have A13 := Aside0.mk A130; clear A130
    replace H := Option.bind_eq_some_iff.mp H
    obtain ⟨⟨t122, t123⟩, A140, H⟩ := H
    (try dsimp only at H)
    have A14 := Aside0.mk A140; clear A140
    by_cases c15 : x7_1.length < 8796093022208
    ·rw [if_pos c15] at H
     have LMc15 := Aside0.mk c15; clear c15
     obtain ⟨y124, hy124⟩ : ∃ y_ : List (S33), y_ = (x7_1 ++ [(⟨t120, wrap64 ((wrap64 (t120 + 1)) + t122)⟩ : S33)]) := ⟨_, rfl⟩
     (first | replace H := sb_ hy124 H | rw [← hy124] at H)
     have Ny124 := Aside0.mk hy124; clear hy124
     replace H := Option.bind_eq_some_iff.mp H
     obtain ⟨⟨t127, t128⟩, A160, H⟩ := H
     (try dsimp only at H)
     have A16 := Aside0.mk A160; clear A160
     by_cases c17 : x8_1.length < 17592186044416
     ·rw [if_pos c17] at H
      have LMc17 := Aside0.mk c17; clear c17
      obtain ⟨y129, hy129⟩ : ∃ y_ : List Int, y_ = (x8_1 ++ [t127]) := ⟨_, rfl⟩
      (first | replace H := sb_ hy129 H | rw [← hy129] at H)
      have Ny129 := Aside0.mk hy129; clear hy129
      have H' := Aside0.mk H
      clear H
      go_wp2_with (first | ((with_reducible refine gate_callee (f := 16) rfl ?_); refine goesL_ (some 26) rfl rfl Try.func16 (by kernel_rfl) rfl #[.pointer (some ⟨g109, 0, none⟩), .int .i64 30] rfl ar_ ?_; (with_reducible refine (spec_l20Rd_pick.calls k1 g109 t107 x110001_1 30 t120 t121 w _ ?side1 ?side2 A13.out).mono ?_); (case side1 => exact is55_ HI109.out); (case side2 => exact hb55_ HB.out); rintro e w18 ⟨rfl, hi, hb, hk⟩; refine ⟨_, rfl, ?_⟩; replace HO_7 := (rk55_ HI109 HO_7 hk); replace HO_8 := (rk55_ HI109 HO_8 hk); replace HB := Aside0.mk (hb); replace HI109 := Aside0.mk (hi); (try clear hb); (try clear hb2); (try clear hk); (try clear hi)) | ((with_reducible refine gate_callee (f := 16) rfl ?_); refine goesL_ (some 32) rfl rfl Try.func16 (by kernel_rfl) rfl #[.pointer (some ⟨g109, 0, none⟩), .int .i64 6] rfl ar_ ?_; (with_reducible refine (spec_l20Rd_pick.calls k1 g109 t107 t121 6 t122 t123 w _ ?side1 ?side2 A14.out).mono ?_); (case side1 => exact is55_ HI109.out); (case side2 => exact hb55_ HB.out); rintro e w19 ⟨rfl, hi, hb, hk⟩; refine ⟨_, rfl, ?_⟩; replace HO_7 := (rk55_ HI109 HO_7 hk); replace HO_8 := (rk55_ HI109 HO_8 hk); replace HB := Aside0.mk (hb); replace HI109 := Aside0.mk (hi); (try clear hb); (try clear hb2); (try clear hk); (try clear hi)) | ((with_reducible refine gate_builtin (b := .append) (xs := #[.tmp 27, .tmp 35]) rfl ?_); at_builtin; refine Kd.R_append k33 (w0 := w) w.heap.size rfl (.tmp 27) (.tmp 35) 23 33 (.agg #[(.int .i64 0), (.int .i64 0)]) 16 rfl Try.underlying23 info33 rfl (by decide) (by omega) u7 x7_1 (⟨t120, wrap64 ((wrap64 (t120 + 1)) + t122)⟩ : S33) [.int .i64 t120, .int .i64 (wrap64 ((wrap64 (t120 + 1)) + t122))] (fun _ => True) (fun _ => False) rfl rfl ?aP (fun _ hk => hk.elim) ?aF ?aO ?aB ?aS ?aL ?_; (case aP => exact k33_mkM _ _ _ (⟨t120, wrap64 ((wrap64 (t120 + 1)) + t122)⟩ : S33)); (case aB => exact (hb55_ HB.out)); (case aF => exact (fun _ _ => trivial)); (case aO => exact (kR_ HO_7.out)); (case aS => exact (below_size (hb55_ HB.out))); (case aL => have := LMc15.out; omega); intro v125 w20 ho hb hg hat; rw [← Ny124.out] at ho; replace HO_8 := Aside0.mk (Kd.R_over' (kR_ HO_8.out) (Kd.R_typed (kR_ HO_7.out)) (by decide) hg); replace HI109 := Aside0.mk (IsS55.grown (is55_ HI109.out) hg (IsS55.own_ne HI109.out HO_7.out (by decide))); replace HB := Aside0.mk (hb); have HO126 := Aside0.mk (ho); clear HO_7; clear ho hb hg hat) | ((with_reducible refine gate_callee (f := 16) rfl ?_); refine goesL_ (some 39) rfl rfl Try.func16 (by kernel_rfl) rfl #[.pointer (some ⟨g109, 0, none⟩), .int .i64 6] rfl ar_ ?_; (with_reducible refine (spec_l20Rd_pick.calls k1 g109 t107 t123 6 t127 t128 w _ ?side1 ?side2 A16.out).mono ?_); (case side1 => exact is55_ HI109.out); (case side2 => exact hb55_ HB.out); rintro e w21 ⟨rfl, hi, hb, hk⟩; refine ⟨_, rfl, ?_⟩; replace HO_8 := (rk55_ HI109 HO_8 hk); replace HO126 := (rk55_ HI109 HO126 hk); replace HB := Aside0.mk (hb); replace HI109 := Aside0.mk (hi); (try clear hb); (try clear hb2); (try clear hk); (try clear hi)) | ((with_reducible refine gate_builtin (b := .append) (xs := #[.tmp 37, .tmp 40]) rfl ?_); at_builtin; refine Kd.R_append (Kd.int .i64) (w0 := w) w.heap.size rfl (.tmp 37) (.tmp 40) 24 3 (.int .i64 0) 8 rfl Try.underlying24 info3 rfl (by decide) (by omega) u8 x8_1 t127 [.int .i64 t127] (fun _ => True) (fun _ => False) rfl rfl ?aP (fun _ hk => hk.elim) ?aF ?aO ?aB ?aS ?aL ?_; (case aP => exact rfl); (case aB => exact (hb55_ HB.out)); (case aF => exact (fun _ _ => trivial)); (case aO => exact (kR_ HO_8.out)); (case aS => exact (below_size (hb55_ HB.out))); (case aL => have := LMc17.out; omega); intro v130 w22 ho hb hg hat; rw [← Ny129.out] at ho; replace HI109 := Aside0.mk (IsS55.grown (is55_ HI109.out) hg (IsS55.own_ne HI109.out HO_8.out (by decide))); replace HO126 := Aside0.mk (Kd.R_over' (kR_ HO126.out) (Kd.R_typed (kR_ HO_8.out)) (by decide) hg); replace HB := Aside0.mk (hb); have HO131 := Aside0.mk (ho); clear HO_8; clear ho hb hg hat))
      go_roundg k1
      case measure => have := HK1.out; omega
      case rel => exact ⟨(y124), (y129), (wrap64 (x9_1 - 1)), (t128), (by first | rfl | (simp; done) | (simp [*]; done)), H', ⟨by have := HK1.out; omega⟩, ⟨kR_ HO126.out⟩, ⟨kR_ HO131.out⟩, ⟨is55_ HI109.out⟩, ⟨hb55_ HB.out⟩⟩
     ·rw [if_neg c17] at H
      exact absurd H (by simp)
    ·rw [if_neg c15] at H
     exact absurd H (by simp)
   ·rw [if_neg c12] at H
    have c12b0 : decide (0 < x9_1) = false := decide_eq_false c12
    clear c12
    simp only [Option.some.injEq, Prod.mk.injEq] at H
    obtain ⟨rfl, rfl, rfl⟩ := H
    go_wp2
    go_ret3
    exact ⟨_, _, by first | rfl | (simp [errW_none, errW_some] <;> rfl) | (simp [*, errW_none, errW_some] <;> rfl), (by first | exact kR_ HO_7.out | exact Kd.R_sym rfl HO_7.out HO_8.out), (by first | exact kR_ HO_8.out | exact Kd.R_sym rfl HO_8.out HO_7.out), hb55_ HB.out⟩
def spec_Ear2.f (a0 : Int) : Option (Int × Int × List Int × (List (S50))) := some (0, a0, ([] : List Int), ([] : List (S50)))
set_option maxHeartbeats 8000000 in
set_option maxRecDepth 100000 in
theorem spec_Ear2.calls (a0 : Int) (r1 : Int) (r2 : Int) (r3 : List Int) (r4 : List (S50)) (w : World) (h : spec_Ear2.f a0 = some (r1, r2, r3, r4)) :
  Calls Try.prog 5 #[.int .i64 a0] w fun e w' => ∃ v2_ v3_ : Value, e = .returned (.agg #[.int .i64 r1, .int .i64 r2, v2_, v3_]) ∧ Kd.R (Kd.int .u8) 5 w' w.heap.size (fun _ => True) v2_ r3 ∧ Kd.R k50 50 w' w.heap.size (fun _ => True) v3_ r4 ∧ Below w.heap.size w w' := by
 have hu29 := Try.underlying29
 have HB := Aside0.mk (Below.refl w.heap.size w)
 have H : (some (0, a0, ([] : List Int), ([] : List (S50)))) = some (r1, r2, r3, r4) := h
 clear h
 simp only [Option.some.injEq, Prod.mk.injEq] at H
 obtain ⟨rfl, rfl, rfl, rfl⟩ := H
 go_enter Try.func5, Try.ntmps5
 go_wp2_with (first | ((with_reducible refine gate_dst (N := 2) rfl ?_); refine box_ (N := 2) (cs := #[.int .i64 0, .int .i64 0, .slice none 0 0, .slice none 0 0]) (t := 29) (fun gb132 hg w2 hbox hb => ?_); have BK132 := Aside0.mk (hbox); have GW132 := ge_ hg HB; have GE132 := ge_ hg HB; replace HB := (bs_ HB hb); clear hb hbox hg; have Z3 := zz4 BK132))
 refine bodyPost_ret (results_cell_row rfl _ _ gb132 29 #[.int .i64 0, .int .i64 a0, .slice none 0 0, .slice none 0 0] (0, 0) _ rfl (by refine kb_ ?_; refine pz4 (cs := #[.int .i64 0, .int .i64 0, .slice none 0 0, .slice none 0 0]) ?_; refine kb_ ?_; exact BK132.out) Try.underlying29 rfl (by kernel_rfl)) rfl ?_
 exact ⟨_, _, by first | rfl | (simp [errW_none, errW_some] <;> rfl) | (simp [*, errW_none, errW_some] <;> rfl), by first | exact Kd.R_nil _ _ _ _ _ | exact Kd.N_nil _ _ _ _ _ | exact Kd.V_nil _ _ _ _ _ | exact Kd.Q_nil _ _ _ _ _ | exact Kd.S_nil _ _ _ _ _, by first | exact Kd.R_nil _ _ _ _ _ | exact Kd.N_nil _ _ _ _ _ | exact Kd.V_nil _ _ _ _ _ | exact Kd.Q_nil _ _ _ _ _ | exact Kd.S_nil _ _ _ _ _, hbA_ HB.out⟩
def spec_l20Stream.f (a0 : Int) : Option (Int) := some ((wrap64 (97 + (Int.tmod (wrap64 ((wrap64 (a0 * 7)) + (wrap64 (Int.tdiv a0 5)))) 26))) % 256)
set_option maxHeartbeats 8000000 in
set_option maxRecDepth 100000 in
theorem spec_l20Stream.calls (a0 : Int) (r : Int) (w : World) (h : spec_l20Stream.f a0 = some r) :
  Calls Try.prog 28 #[.int .i64 a0] w fun e w' => e = .returned (.int .u8 r) ∧ Drawn0 w w' := by
 have H : (some ((wrap64 (97 + (Int.tmod (wrap64 ((wrap64 (a0 * 7)) + (wrap64 (Int.tdiv a0 5)))) 26))) % 256)) = some r := h
 clear h
 obtain rfl := Option.some.inj H
 go_enter Try.func28, Try.ntmps28
 go_wp2
 go_ret
 exact ⟨by first | rfl | (simp; done) | (simp [*]; done), by repeat (first | exact Drawn0.refl _ | apply Drawn0.step)⟩
def spec_l20Heard.l0 : Nat → Int → Int → List Int → Int → Option (List Int)
 | 0, _, _, _, _ => none
 | k + 1, x0, x1, x5, x6 => if x6 < x1 then ((spec_l20Stream.f (wrap64 (x0 + x6))).bind fun t136 => (if x5.length < 140737488355328 then (spec_l20Heard.l0 k x0 x1 (x5 ++ [t136]) (wrap64 (x6 + 1))) else (none))) else (some x5)
def spec_l20Heard.f (k : Nat) (a0 : Int) (a1 : Int) : Option (List Int) := spec_l20Heard.l0 k a0 a1 (([] : List Int)) 0
theorem spec_l20Heard.mono_l : ∀ k, (∀ y0 y1 y2 y3, LeO (spec_l20Heard.l0 k y0 y1 y2 y3) (spec_l20Heard.l0 (k + 1) y0 y1 y2 y3))
 | 0 => fun _ _ _ _ r h => by simp [spec_l20Heard.l0] at h
 | k + 1 => by
  have ih0 := spec_l20Heard.mono_l k
  ·intro y0 y1 y2 y3
   unfold spec_l20Heard.l0
   repeat' first | (with_reducible first | apply ih0 | exact LeO.refl _ | exact LeO.none _ | refine LeO.ite ?_ ?_ | refine LeO.bind ?_ fun _ => ?_) | apply ih0 | exact LeO.none _ | refine LeO.ite ?_ ?_ | refine LeO.bind ?_ fun _ => ?_
theorem spec_l20Heard.mono : ∀ a0 a1 k, LeO (spec_l20Heard.f k a0 a1) (spec_l20Heard.f (k + 1) a0 a1) := by
 intro a0 a1 k
 have ih0 := spec_l20Heard.mono_l k
 unfold spec_l20Heard.f
 repeat' first | (with_reducible first | apply ih0 | exact LeO.refl _ | exact LeO.none _ | refine LeO.ite ?_ ?_ | refine LeO.bind ?_ fun _ => ?_) | apply ih0 | exact LeO.none _ | refine LeO.ite ?_ ?_ | refine LeO.bind ?_ fun _ => ?_
set_option maxHeartbeats 8000000 in
set_option maxRecDepth 100000 in
theorem spec_l20Heard.calls (k : Nat) (a0 : Int) (a1 : Int) (r : List Int) (w : World) (h : spec_l20Heard.f k a0 a1 = some r) :
  Calls Try.prog 17 #[.int .i64 a0, .int .i64 a1] w fun e w' => ∃ v0_ : Value, e = .returned (v0_) ∧ Kd.R (Kd.int .u8) 5 w' w.heap.size (fun _ => True) v0_ r ∧ Below w.heap.size w w' := by
 have HB := Aside0.mk (Below.refl w.heap.size w)
 have H : (spec_l20Heard.l0 k a0 a1 (([] : List Int)) 0) = some r := h
 clear h
 obtain ⟨y133, hy133⟩ : ∃ y_ : List Int, y_ = (([] : List Int)) := ⟨_, rfl⟩
 (first | replace H := sb_ hy133 H | rw [← hy133] at H)
 have Ny133 := Aside0.mk hy133; clear hy133
 have H' := Aside0.mk H
 clear H
 go_enter Try.func17, Try.ntmps17
 go_wp2_with (first | ((with_reducible refine gate_dst (N := 7) rfl ?_); refine Kd.R_lit (Kd.int .u8) _ 5 ?hg (N := 7) ?hd (xs := ([] : List Int)) (inner := []) (ok := fun _ => True) (okp := fun _ => True) ?hr ?hp (fun _ hk => hk) trivial (Below.refl _ _) (Nat.le_refl _) (by simp) ?_; (case hd => rfl); (case hg => rfl); (case hr => first | (go_simp; done) | (go_simp; rfl)); (case hp => exact (Reps.none _ _)); intro v134 w3 ho4 hb hg_ hnew_; clear hg_ hnew_; (first | rw [← Ny133.out] at ho4 | (simp only [Int.reduceToNat] at ho4; rw [← Ny133.out] at ho4)); have HO135 := Aside0.mk (Kd.R_lower ho4 (below_size (hbA_ HB.out))); replace HB := (bs_ HB hb); clear hb ho4))
 go_loopg [5, 6] k (fun kq v5 v6 w' => ∃ (x5_1 : List Int) (x6_1 : Int), v6 = .int .i64 x6_1 ∧ Aside0 (spec_l20Heard.l0 kq a0 a1 x5_1 x6_1 = some r) ∧ Aside0 (kq ≤ k) ∧ Aside0 (Kd.R (Kd.int .u8) 5 w' w.heap.size (fun _ => True) v5 x5_1) ∧ Aside0 (Below w.heap.size w w'))
 case atStart => exact ⟨(y133), (0), (by first | rfl | (simp; done) | (simp [*]; done)), H', ⟨Nat.le_refl _⟩, ⟨kR_ HO135.out⟩, ⟨hbA_ HB.out⟩⟩
 case round =>
  clear H'; (try clear c1); (try clear p2)
  obtain ⟨x5_1, x6_1, rfl, HA, HK1, HO_5, HB⟩ := hrel
  cases gk with
  | zero => exact absurd HA.out (by simp [spec_l20Heard.l0])
  | succ k1 =>
   have H := HA.out; clear HA
   simp only [spec_l20Heard.l0] at H
   by_cases c5 : x6_1 < a1
   ·rw [if_pos c5] at H
    have c5b0 : decide (x6_1 < a1) = true := decide_eq_true c5
    clear c5
    replace H := Option.bind_eq_some_iff.mp H
    obtain ⟨t136, A60, H⟩ := H
    (try dsimp only at H)
    have A6 := Aside0.mk A60; clear A60
    by_cases c7 : x5_1.length < 140737488355328
    ·rw [if_pos c7] at H
     have LMc7 := Aside0.mk c7; clear c7
     obtain ⟨y137, hy137⟩ : ∃ y_ : List Int, y_ = (x5_1 ++ [t136]) := ⟨_, rfl⟩
     (first | replace H := sb_ hy137 H | rw [← hy137] at H)
     have Ny137 := Aside0.mk hy137; clear hy137
     have H' := Aside0.mk H
     clear H
     go_wp2_with (first | ((with_reducible refine gate_callee (f := 28) rfl ?_); refine goesL_ (some 17) rfl rfl Try.func28 (by kernel_rfl) rfl #[.int .i64 (wrap64 (a0 + x6_1))] rfl ar_ ?_; (with_reducible refine (spec_l20Stream.calls (wrap64 (a0 + x6_1)) t136 _ A6.out).mono ?_); rintro e w' ⟨rfl, ⟨nd, rfl⟩⟩; refine ⟨_, rfl, ?_⟩) | ((with_reducible refine gate_builtin (b := .append) (xs := #[.tmp 13, .tmp 18]) rfl ?_); at_builtin; refine Kd.R_append (Kd.int .u8) (w0 := w) w.heap.size rfl (.tmp 13) (.tmp 18) 22 5 (.int .u8 0) 1 rfl Try.underlying22 info5 rfl (by decide) (by omega) u5 x5_1 t136 [.int .u8 t136] (fun _ => True) (fun _ => False) rfl rfl ?aP (fun _ hk => hk.elim) ?aF ?aO ?aB ?aS ?aL ?_; (case aP => exact rfl); (case aB => exact (hbA_ HB.out)); (case aF => exact (fun _ _ => trivial)); (case aO => exact (kR_ HO_5.out)); (case aS => exact (below_size (hbA_ HB.out))); (case aL => have := LMc7.out; omega); intro v138 w8 ho hb hg hat; rw [← Ny137.out] at ho; replace HB := Aside0.mk (hb); have HO139 := Aside0.mk (ho); clear HO_5; clear ho hb hg hat))
     go_roundg k1
     case measure => have := HK1.out; omega
     case rel => exact ⟨(y137), (wrap64 (x6_1 + 1)), (by first | rfl | (simp; done) | (simp [*]; done)), H', ⟨by have := HK1.out; omega⟩, ⟨kR_ HO139.out⟩, ⟨hbA_ HB.out⟩⟩
    ·rw [if_neg c7] at H
     exact absurd H (by simp)
   ·rw [if_neg c5] at H
    have c5b0 : decide (x6_1 < a1) = false := decide_eq_false c5
    clear c5
    obtain rfl := Option.some.inj H
    go_wp2
    go_ret
    exact ⟨_, by first | rfl | (simp [errW_none, errW_some] <;> rfl) | (simp [*, errW_none, errW_some] <;> rfl), kR_ HO_5.out, hbA_ HB.out⟩
def spec_StreamFrom.f (k : Nat) (a0 : Int) (a1 : Int) : Option (List Int) := (spec_l20Heard.f k a0 a1).bind fun t140 => (some t140)
theorem spec_StreamFrom.mono : ∀ a0 a1 k, LeO (spec_StreamFrom.f k a0 a1) (spec_StreamFrom.f (k + 1) a0 a1) := by
 intro a0 a1 k
 unfold spec_StreamFrom.f
 repeat' first | (with_reducible first | apply spec_l20Heard.mono | exact LeO.refl _ | exact LeO.none _ | refine LeO.ite ?_ ?_ | refine LeO.bind ?_ fun _ => ?_) | apply spec_l20Heard.mono | exact LeO.none _ | refine LeO.ite ?_ ?_ | refine LeO.bind ?_ fun _ => ?_
set_option maxHeartbeats 8000000 in
set_option maxRecDepth 100000 in
theorem spec_StreamFrom.calls (k : Nat) (a0 : Int) (a1 : Int) (r : List Int) (w : World) (h : spec_StreamFrom.f k a0 a1 = some r) :
  Calls Try.prog 6 #[.int .i64 a0, .int .i64 a1] w fun e w' => ∃ v0_ : Value, e = .returned (v0_) ∧ Kd.R (Kd.int .u8) 5 w' w.heap.size (fun _ => True) v0_ r ∧ Below w.heap.size w w' := by
 have HB := Aside0.mk (Below.refl w.heap.size w)
 have H : ((spec_l20Heard.f k a0 a1).bind fun t140 => (some t140)) = some r := h
 clear h
 replace H := Option.bind_eq_some_iff.mp H
 obtain ⟨t140, A30, H⟩ := H
 (try dsimp only at H)
 have A3 := Aside0.mk A30; clear A30
 obtain rfl := Option.some.inj H
 go_enter Try.func6, Try.ntmps6
 go_wp2_with (first | ((with_reducible refine gate_callee (f := 17) rfl ?_); refine goesL_ (some 7) rfl rfl Try.func17 (by kernel_rfl) rfl #[.int .i64 a0, .int .i64 a1] rfl ar_ ?_; (with_reducible refine (spec_l20Heard.calls k a0 a1 t140 _ A3.out).mono ?_); rintro e w4 ⟨v141, rfl, ho0, hb⟩; refine ⟨_, rfl, ?_⟩; have HO142 := Aside0.mk (Kd.R_lower ho0 (below_size (hbA_ HB.out))); replace HB := (bs_ HB hb); (try clear hb); (try clear hb2); (try clear hk); (try clear hi); (try clear ho0)))
 go_ret
 exact ⟨_, by first | rfl | (simp [errW_none, errW_some] <;> rfl) | (simp [*, errW_none, errW_some] <;> rfl), kR_ HO142.out, hbA_ HB.out⟩
def impl_in.f (a0 : Int) (a1 : Int) (a2 : Int) : Option (Bool) := if a0 ≥ a1 then (some (decide (a0 ≤ a2))) else (some false)
set_option maxHeartbeats 8000000 in
set_option maxRecDepth 100000 in
theorem impl_in.calls (a0 : Int) (a1 : Int) (a2 : Int) (r : Bool) (w : World) (h : impl_in.f a0 a1 a2 = some r) :
  Calls Try.prog 18 #[.int .i64 a0, .int .i64 a1, .int .i64 a2] w fun e w' => e = .returned (.bool r) ∧ Drawn0 w w' := by
 have H : (if a0 ≥ a1 then (some (decide (a0 ≤ a2))) else (some false)) = some r := h
 clear h
 by_cases c4 : a0 ≥ a1
 ·rw [if_pos c4] at H
  have c4b0 : decide (a1 ≤ a0) = true := decide_eq_true c4
  clear c4
  obtain rfl := Option.some.inj H
  go_enter Try.func18, Try.ntmps18
  go_wp2
  go_ret
  exact ⟨by first | rfl | (simp; done) | (simp [*]; done), by repeat (first | exact Drawn0.refl _ | apply Drawn0.step)⟩
 ·rw [if_neg c4] at H
  have c4b0 : decide (a1 ≤ a0) = false := decide_eq_false c4
  clear c4
  obtain rfl := Option.some.inj H
  go_enter Try.func18, Try.ntmps18
  go_wp2
  go_ret
  exact ⟨by first | rfl | (simp; done) | (simp [*]; done), by repeat (first | exact Drawn0.refl _ | apply Drawn0.step)⟩
def impl_Ear_free.f (a0_0 : Int) (a0_1 : Int) (l0_2 : List Int) (l0_3 : List (S50)) : Option (Int) := some (wrap64 (a0_1 - (l0_2.length : Int)))
set_option maxHeartbeats 8000000 in
set_option maxRecDepth 100000 in
theorem impl_Ear_free.calls (a0_0 : Int) (a0_1 : Int) (A0_2 : Option Addr) (c0_2 : Nat) (l0_2 : List Int) (A0_3 : Option Addr) (c0_3 : Nat) (l0_3 : List (S50)) (r : Int) (w : World) (hr0_2 : Kd.C (Kd.int .u8) w A0_2 l0_2.length l0_2) (hc0_2 : l0_2.length ≤ c0_2) (hr0_3 : Kd.C k50 w A0_3 l0_3.length l0_3) (hc0_3 : l0_3.length ≤ c0_3) (h : impl_Ear_free.f a0_0 a0_1 l0_2 l0_3 = some r) :
  Calls Try.prog 26 #[.agg #[.int .i64 a0_0, .int .i64 a0_1, .slice A0_2 l0_2.length c0_2, .slice A0_3 l0_3.length c0_3]] w fun e w' => e = .returned (.int .i64 r) ∧ Below w.heap.size w w' := by
 have hu29 := Try.underlying29; have HR0_2 := Aside0.mk hr0_2; have HC0_2 := Aside0.mk hc0_2; clear hr0_2 hc0_2; have HR0_3 := Aside0.mk hr0_3; have HC0_3 := Aside0.mk hc0_3; clear hr0_3 hc0_3
 have HB := Aside0.mk (Below.refl w.heap.size w)
 have H : (some (wrap64 (a0_1 - (l0_2.length : Int)))) = some r := h
 clear h
 obtain rfl := Option.some.inj H
 go_enter Try.func26, Try.ntmps26
 go_wp2_with (first | ((with_reducible refine gate_dst (N := 1) rfl ?_); refine box_ (N := 1) (cs := #[.int .i64 a0_0, .int .i64 a0_1, .slice A0_2 l0_2.length c0_2, .slice A0_3 l0_3.length c0_3]) (t := 29) (fun gb143 hg w2 hbox hb => ?_); have BK143 := Aside0.mk (hbox); have GW143 := ge_ hg HB; have GE143 := ge_ hg HB; replace HB := (bs_ HB hb); clear hb hbox hg; have Z3 := zz4 BK143))
 go_ret
 exact ⟨by first | rfl | (simp [errW_none, errW_some] <;> rfl) | (simp [*, errW_none, errW_some] <;> rfl), hbA_ HB.out⟩
mutual
def impl_EarOk.j0 : Nat → Bool → Int → Int → List Int → List (S50) → Option (Bool)
 | 0, _, _, _, _, _ => none
 | k + 1, x19, x145000, x145001, x145002, x145003 => if x19 = true then (some false) else (impl_EarOk.l0 k x145003 (x145003.length : Int) 0 x145000 x145001 x145002 x145003)
def impl_EarOk.l0 : Nat → List (S50) → Int → Int → Int → Int → List Int → List (S50) → Option (Bool)
 | 0, _, _, _, _, _, _, _ => none
 | k + 1, x21, x22, x23, x145000, x145001, x145002, x145003 => if x23 < x22 then (if 0 ≤ x23 then (if x23 < (x21.length : Int) then ((impl_Ear_free.f x145000 x145001 x145002 x145003).bind fun t150 => ((impl_in.f ((rd_T50 x21 x23).f0) (wrap64 (x145000 + 1)) (wrap64 ((wrap64 (x145000 + t150)) - 1))).bind fun t151 => (if t151 = true then (if x23 > 0 then (if 0 ≤ (wrap64 (x23 - 1)) then (if (wrap64 (x23 - 1)) < (x145003.length : Int) then (impl_EarOk.j2 k x21 x22 x23 (decide (((rd_T50 x145003 (wrap64 (x23 - 1))).f0) ≥ ((rd_T50 x21 x23).f0))) x145000 x145001 x145002 x145003) else (none)) else (none)) else (impl_EarOk.j2 k x21 x22 x23 false x145000 x145001 x145002 x145003)) else (impl_EarOk.j2 k x21 x22 x23 true x145000 x145001 x145002 x145003)))) else (none)) else (none)) else (some true)
def impl_EarOk.j2 : Nat → List (S50) → Int → Int → Bool → Int → Int → List Int → List (S50) → Option (Bool)
 | 0, _, _, _, _, _, _, _, _ => none
 | k + 1, x21, x22, x23, x56, x145000, x145001, x145002, x145003 => if x56 = true then (some false) else (impl_EarOk.l0 k x21 x22 (wrap64 (x23 + 1)) x145000 x145001 x145002 x145003)
end
def impl_EarOk.f (k : Nat) (a0_0 : Int) (a0_1 : Int) (l0_2 : List Int) (l0_3 : List (S50)) : Option (Bool) := (impl_in.f a0_0 0 1000000).bind fun t145 => (if t145 = true then ((impl_in.f a0_1 1 32).bind fun t146 => (if t146 = true then ((impl_Ear_free.f a0_0 a0_1 l0_2 l0_3).bind fun t147 => (impl_EarOk.j0 k (decide (t147 < 0)) a0_0 a0_1 l0_2 l0_3)) else (impl_EarOk.j0 k true a0_0 a0_1 l0_2 l0_3))) else (impl_EarOk.j0 k true a0_0 a0_1 l0_2 l0_3))
theorem impl_EarOk.mono_l : ∀ k, (∀ y0 y1 y2 y3 y4, LeO (impl_EarOk.j0 k y0 y1 y2 y3 y4) (impl_EarOk.j0 (k + 1) y0 y1 y2 y3 y4)) ∧ (∀ y0 y1 y2 y3 y4 y5 y6, LeO (impl_EarOk.l0 k y0 y1 y2 y3 y4 y5 y6) (impl_EarOk.l0 (k + 1) y0 y1 y2 y3 y4 y5 y6)) ∧ (∀ y0 y1 y2 y3 y4 y5 y6 y7, LeO (impl_EarOk.j2 k y0 y1 y2 y3 y4 y5 y6 y7) (impl_EarOk.j2 (k + 1) y0 y1 y2 y3 y4 y5 y6 y7))
 | 0 => ⟨fun _ _ _ _ _ r h => by simp [impl_EarOk.j0] at h, fun _ _ _ _ _ _ _ r h => by simp [impl_EarOk.l0] at h, fun _ _ _ _ _ _ _ _ r h => by simp [impl_EarOk.j2] at h⟩
 | k + 1 => by
  obtain ⟨ih0, ih1, ih2⟩ := impl_EarOk.mono_l k
  refine ⟨?_, ?_, ?_⟩
  ·intro y0 y1 y2 y3 y4
   unfold impl_EarOk.j0
   repeat' first | (with_reducible first | apply ih0 | apply ih1 | apply ih2 | exact LeO.refl _ | exact LeO.none _ | refine LeO.ite ?_ ?_ | refine LeO.bind ?_ fun _ => ?_) | apply ih0 | apply ih1 | apply ih2 | exact LeO.none _ | refine LeO.ite ?_ ?_ | refine LeO.bind ?_ fun _ => ?_
  ·intro y0 y1 y2 y3 y4 y5 y6
   unfold impl_EarOk.l0
   repeat' first | (with_reducible first | apply ih0 | apply ih1 | apply ih2 | exact LeO.refl _ | exact LeO.none _ | refine LeO.ite ?_ ?_ | refine LeO.bind ?_ fun _ => ?_) | apply ih0 | apply ih1 | apply ih2 | exact LeO.none _ | refine LeO.ite ?_ ?_ | refine LeO.bind ?_ fun _ => ?_
  ·intro y0 y1 y2 y3 y4 y5 y6 y7
   unfold impl_EarOk.j2
   repeat' first | (with_reducible first | apply ih0 | apply ih1 | apply ih2 | exact LeO.refl _ | exact LeO.none _ | refine LeO.ite ?_ ?_ | refine LeO.bind ?_ fun _ => ?_) | apply ih0 | apply ih1 | apply ih2 | exact LeO.none _ | refine LeO.ite ?_ ?_ | refine LeO.bind ?_ fun _ => ?_
theorem impl_EarOk.mono : ∀ a0 a1 a2 a3 k, LeO (impl_EarOk.f k a0 a1 a2 a3) (impl_EarOk.f (k + 1) a0 a1 a2 a3) := by
 intro a0 a1 a2 a3 k
 obtain ⟨ih0, ih1, ih2⟩ := impl_EarOk.mono_l k
 unfold impl_EarOk.f
 repeat' first | (with_reducible first | apply ih0 | apply ih1 | apply ih2 | exact LeO.refl _ | exact LeO.none _ | refine LeO.ite ?_ ?_ | refine LeO.bind ?_ fun _ => ?_) | apply ih0 | apply ih1 | apply ih2 | exact LeO.none _ | refine LeO.ite ?_ ?_ | refine LeO.bind ?_ fun _ => ?_
def impl_EarOk.T6 : Bool × List (List Nat × List Nat) := (true, [([], []), ([0], [0]), ([], []), ([2], [2]), ([3], [3]), ([], []), ([5], [5]), ([], []), ([7], [7]), ([6, 8], [6, 8]), ([9], [9]), ([1, 4, 10, 8], [1, 4, 10]), ([11], [11]), ([12, 11], [12]), ([13], [13]), ([14, 13], [13, 14]), ([15, 13, 13], [13, 15]), ([16], [16]), ([17, 16], [16, 17]), ([16], [16]), ([19, 16], [16, 19]), ([18, 20, 16], [16, 18, 20]), ([21, 16], [16, 21]), ([22, 16], [16, 22]), ([16], [16]), ([24, 16], [16, 24]), ([23, 25, 16], [16, 23, 25]), ([16, 26, 13], [13, 16, 26]), ([13, 27], [13, 27])])
def impl_EarOk.B6 : List Nat := [0, 1, 0, 4, 12, 0, 32, 0, 128, 480, 992, 2047, 4095, 8191, 16383, 32767, 65535, 131071, 262143, 131071, 655359, 2097151, 4194303, 8388607, 131071, 16908287, 67108863, 134217727, 268435455]
theorem impl_EarOk.tab6 : rtab .any (opsOf Try.f11 6) = impl_EarOk.T6 := by kernel_rfl
theorem impl_EarOk.bits6 : waitsOk impl_EarOk.T6.2 impl_EarOk.B6 = true := by kernel_rfl
set_option maxHeartbeats 8000000 in
set_option maxRecDepth 100000 in
theorem impl_EarOk.calls (k : Nat) (a0_0 : Int) (a0_1 : Int) (A0_2 : Option Addr) (c0_2 : Nat) (l0_2 : List Int) (A0_3 : Option Addr) (c0_3 : Nat) (l0_3 : List (S50)) (r : Bool) (w : World) (hr0_2 : Kd.C (Kd.int .u8) w A0_2 l0_2.length l0_2) (hc0_2 : l0_2.length ≤ c0_2) (hr0_3 : Kd.C k50 w A0_3 l0_3.length l0_3) (hc0_3 : l0_3.length ≤ c0_3) (h : impl_EarOk.f k a0_0 a0_1 l0_2 l0_3 = some r) :
  Calls Try.prog 11 #[.agg #[.int .i64 a0_0, .int .i64 a0_1, .slice A0_2 l0_2.length c0_2, .slice A0_3 l0_3.length c0_3]] w fun e w' => e = .returned (.bool r) ∧ Below w.heap.size w w' := by
 have hu29 := Try.underlying29; have hu50 := Try.underlying50; have HR0_2 := Aside0.mk hr0_2; have HC0_2 := Aside0.mk hc0_2; clear hr0_2 hc0_2; have HR0_3 := Aside0.mk hr0_3; have HC0_3 := Aside0.mk hc0_3; clear hr0_3 hc0_3
 have HB := Aside0.mk (Below.refl w.heap.size w)
 have H : ((impl_in.f a0_0 0 1000000).bind fun t145 => (if t145 = true then ((impl_in.f a0_1 1 32).bind fun t146 => (if t146 = true then ((impl_Ear_free.f a0_0 a0_1 l0_2 l0_3).bind fun t147 => (impl_EarOk.j0 k (decide (t147 < 0)) a0_0 a0_1 l0_2 l0_3)) else (impl_EarOk.j0 k true a0_0 a0_1 l0_2 l0_3))) else (impl_EarOk.j0 k true a0_0 a0_1 l0_2 l0_3))) = some r := h
 clear h; have HC2 := Aside0.mk H; clear H
 go_enter Try.func11, Try.ntmps11
 go_upto_region 1 with (first | ((with_reducible refine gate_dst (N := 1) rfl ?_); refine box_ (N := 1) (cs := #[.int .i64 a0_0, .int .i64 a0_1, .slice A0_2 l0_2.length c0_2, .slice A0_3 l0_3.length c0_3]) (t := 29) (fun gb144 hg w3 hbox hb => ?_); have BK144 := Aside0.mk (hbox); have GW144 := ge_ hg HB; have GE144 := ge_ hg HB; replace HB := (bs_ HB hb); clear hb hbox hg))
 (try simp only [Act.put, List.setIfInBounds_toArray, List.set_cons_zero, List.set_cons_succ])
 go_cut [19] (fun v19 wc => ∃ (kq : Nat) (x19_1 : Bool), v19 = .bool x19_1 ∧ Aside0 (impl_EarOk.j0 kq x19_1 a0_0 a0_1 l0_2 l0_3 = some r) ∧ Aside0 (kq ≤ k) ∧ Aside0 (wc.heap[gb144]? = some (.cells #[.int .i64 a0_0, .int .i64 a0_1, (.slice A0_2 l0_2.length c0_2), (.slice A0_3 l0_3.length c0_3)] 29 (0, 0))) ∧ Aside0 (Below w.heap.size w wc))
 case first =>
  have H := HC2.out; clear HC2
  replace H := Option.bind_eq_some_iff.mp H
  obtain ⟨t145, A40, H⟩ := H
  (try dsimp only at H)
  have A4 := Aside0.mk A40; clear A40
  by_cases c5 : t145 = true
  ·subst c5
   rw [if_pos rfl] at H
   replace H := Option.bind_eq_some_iff.mp H
   obtain ⟨t146, A60, H⟩ := H
   (try dsimp only at H)
   have A6 := Aside0.mk A60; clear A60
   by_cases c7 : t146 = true
   ·subst c7
    rw [if_pos rfl] at H
    replace H := Option.bind_eq_some_iff.mp H
    obtain ⟨t147, A80, H⟩ := H
    (try dsimp only at H)
    have A8 := Aside0.mk A80; clear A80
    have H' := Aside0.mk H
    clear H; have Z9 := zz4 BK144
    go_wp2_with (first | ((with_reducible refine gate_callee (f := 18) rfl ?_); refine goesL_ (some 7) rfl rfl Try.func18 (by kernel_rfl) rfl #[.int .i64 a0_0, .int .i64 0, .int .i64 1000000] rfl ar_ ?_; (with_reducible refine (impl_in.calls a0_0 0 1000000 true _ A4.out).mono ?_); rintro e w' ⟨rfl, ⟨nd, rfl⟩⟩; refine ⟨_, rfl, ?_⟩) | (go_at_call 18; (with_reducible refine (impl_in.calls a0_1 1 32 true _ A6.out).mono ?_); rintro e w' ⟨rfl, ⟨nd, rfl⟩⟩) | (go_at_call 26; (with_reducible refine (impl_Ear_free.calls a0_0 a0_1 _ _ l0_2 _ _ l0_3 t147 _ ?side1 ?side2 ?side3 ?side4 A8.out).mono ?_); (case side1 => exact kC_ (Kd.C_below HR0_2.out (hbA_ HB.out))); (case side2 => exact HC0_2.out); (case side3 => exact kC_ (Kd.C_below HR0_3.out (hbA_ HB.out))); (case side4 => exact HC0_3.out); rintro e w10 ⟨rfl, hb⟩; replace BK144 := (bbA_ BK144 hb); replace HB := (bs_ HB hb); (try clear hb); (try clear hb2); (try clear hk); (try clear hi)))
    go_meet
    case rel => exact ⟨_, (decide (t147 < 0)), (by first | rfl | (simp; done) | (simp [*]; done)), H', ⟨by first | omega | exact Nat.le_refl _⟩, ⟨by refine kb_ ?_; exact BK144.out⟩, ⟨hbA_ HB.out⟩⟩
   ·replace c7 := Bool.eq_false_iff.mpr c7
    subst c7
    rw [if_neg (show ¬ (false = true) by decide)] at H
    have H' := Aside0.mk H
    clear H; have Z11 := zz4 BK144
    go_wp2_with (first | ((with_reducible refine gate_callee (f := 18) rfl ?_); refine goesL_ (some 7) rfl rfl Try.func18 (by kernel_rfl) rfl #[.int .i64 a0_0, .int .i64 0, .int .i64 1000000] rfl ar_ ?_; (with_reducible refine (impl_in.calls a0_0 0 1000000 true _ A4.out).mono ?_); rintro e w' ⟨rfl, ⟨nd, rfl⟩⟩; refine ⟨_, rfl, ?_⟩) | (go_at_call 18; (with_reducible refine (impl_in.calls a0_1 1 32 false _ A6.out).mono ?_); rintro e w' ⟨rfl, ⟨nd, rfl⟩⟩))
    go_meet
    case rel => exact ⟨_, (true), (by first | rfl | (simp; done) | (simp [*]; done)), H', ⟨by first | omega | exact Nat.le_refl _⟩, ⟨by refine kb_ ?_; exact BK144.out⟩, ⟨hbA_ HB.out⟩⟩
  ·replace c5 := Bool.eq_false_iff.mpr c5
   subst c5
   rw [if_neg (show ¬ (false = true) by decide)] at H
   have H' := Aside0.mk H
   clear H; have Z12 := zz4 BK144
   go_wp2_with (first | ((with_reducible refine gate_callee (f := 18) rfl ?_); refine goesL_ (some 7) rfl rfl Try.func18 (by kernel_rfl) rfl #[.int .i64 a0_0, .int .i64 0, .int .i64 1000000] rfl ar_ ?_; (with_reducible refine (impl_in.calls a0_0 0 1000000 false _ A4.out).mono ?_); rintro e w' ⟨rfl, ⟨nd, rfl⟩⟩; refine ⟨_, rfl, ?_⟩))
   go_meet
   case rel => exact ⟨_, (true), (by first | rfl | (simp; done) | (simp [*]; done)), H', ⟨by first | omega | exact Nat.le_refl _⟩, ⟨by refine kb_ ?_; exact BK144.out⟩, ⟨hbA_ HB.out⟩⟩
 case rest =>
  clear HC2; (try clear c1); (try clear p2); (try clear c5); (try clear c7); (try clear c11); (try clear Z11); (try clear Z12); (try clear Z9)
  obtain ⟨kq, x19_1, rfl, HA, HJ1, BK144, HB⟩ := hcut
  cases kq with
  | zero => exact absurd HA.out (by simp [impl_EarOk.j0])
  | succ kj1 =>
   have H := HA.out; clear HA
   simp only [impl_EarOk.j0] at H
   by_cases c13 : x19_1 = true
   ·subst c13
    rw [if_pos rfl] at H
    obtain rfl := Option.some.inj H
    go_wp2
    go_ret
    exact ⟨by first | rfl | (simp [errW_none, errW_some] <;> rfl) | (simp [*, errW_none, errW_some] <;> rfl), hbA_ HB.out⟩
   ·replace c13 := Bool.eq_false_iff.mpr c13
    subst c13
    rw [if_neg (show ¬ (false = true) by decide)] at H
    have H' := Aside0.mk H
    clear H; have Z14 := zz4 BK144
    go_wp2
    go_loopg [23] kj1 (fun kq v23 w' => ∃ (x23_2 : Int), v23 = .int .i64 x23_2 ∧ Aside0 (impl_EarOk.l0 kq l0_3 (l0_3.length : Int) x23_2 a0_0 a0_1 l0_2 l0_3 = some r) ∧ Aside0 (kq ≤ kj1) ∧ Aside0 (w'.heap[gb144]? = some (.cells #[.int .i64 a0_0, .int .i64 a0_1, (.slice A0_2 l0_2.length c0_2), (.slice A0_3 l0_3.length c0_3)] 29 (0, 0))) ∧ Aside0 (Below w.heap.size w w'))
    case atStart => exact ⟨(0), (by first | rfl | (simp; done) | (simp [*]; done)), H', ⟨Nat.le_refl _⟩, ⟨by refine kb_ ?_; exact BK144.out⟩, ⟨hbA_ HB.out⟩⟩
    case round =>
     clear H'; (try clear c1); (try clear p2); (try clear c5); (try clear c7); (try clear c11); (try clear c13); (try clear Z11); (try clear Z12); (try clear Z14); (try clear Z9); (try clear p2)
     obtain ⟨x23_2, rfl, HA, HK2, BK144, HB⟩ := hrel
     cases gk with
     | zero => exact absurd HA.out (by simp [impl_EarOk.l0])
     | succ k2 =>
      have H := HA.out; clear HA
      simp only [impl_EarOk.l0] at H
      by_cases c15 : x23_2 < (l0_3.length : Int)
      ·rw [if_pos c15] at H
       have c15b0 : decide (x23_2 < (l0_3.length : Int)) = true := decide_eq_true c15
       clear c15
       by_cases c16 : 0 ≤ x23_2
       ·rw [if_pos c16] at H
        have c16b0 : decide (0 ≤ x23_2) = true := decide_eq_true c16
        clear c16
        by_cases c17 : x23_2 < (l0_3.length : Int)
        ·rw [if_pos c17] at H
         have c17b0 : decide (x23_2 < (l0_3.length : Int)) = true := decide_eq_true c17
         clear c17; have HC18 := Aside0.mk H; clear H
         have p148 : 0 ≤ (x23_2 : Int) := of_decide_eq_true (by first | (with_reducible assumption) | assumption)
         have q148 : x23_2 < (l0_3.length : Int) := of_decide_eq_true (by first | (with_reducible assumption) | assumption)
         obtain ⟨ad148, e148, hx148_0, hx148_1⟩ := at_T50 HR0_3.out x23_2 p148 q148
         cases e148
         replace hx148_0 := cc_ HB hx148_0
         replace hx148_1 := cc_ HB hx148_1
         replace p148 := eq_true p148
         replace q148 := eq_true q148
         go_upto_region 6 with (first | ((with_reducible refine gate_dst (N := 4) rfl ?_); refine box_ (N := 4) (cs := #[.int .i64 0, .int .u8 0]) (t := 50) (fun gb149 hg w19 hbox hb => ?_); have BK149 := Aside0.mk (hbox); have GW149 := ge_ hg HB; have GE149 := ge_ hg HB; replace HB := (bs_ HB hb); have NB144_149 := nl_ hg BK144; have NB149_144 := ng_ hg BK144; replace BK144 := (bbA_ BK144 hb); clear hb hbox hg; have hnb20 := NB149_144.out; have hnc20 := NB144_149.out; have Z21 := zz2 BK149))
         (try simp only [Act.put, List.setIfInBounds_toArray, List.set_cons_zero, List.set_cons_succ])
         go_cut [56] (fun v56 wc => ∃ (kq : Nat) (x56_17 : Bool), v56 = .bool x56_17 ∧ Aside0 (impl_EarOk.j2 kq l0_3 (l0_3.length : Int) x23_2 x56_17 a0_0 a0_1 l0_2 l0_3 = some r) ∧ Aside0 (kq ≤ k2) ∧ Aside0 (wc.heap[gb144]? = some (.cells #[.int .i64 a0_0, .int .i64 a0_1, (.slice A0_2 l0_2.length c0_2), (.slice (some ad148) l0_3.length c0_3)] 29 (0, 0))) ∧ Aside0 (wc.heap[gb149]? = some (.cells #[.int .i64 ((rd_T50 l0_3 x23_2).f0), .int .u8 ((rd_T50 l0_3 x23_2).f1)] 50 (0, 0))) ∧ Aside0 (Below w.heap.size w wc))
         case first =>
          have H := HC18.out; clear HC18
          replace H := Option.bind_eq_some_iff.mp H
          obtain ⟨t150, A220, H⟩ := H
          (try dsimp only at H)
          have A22 := Aside0.mk A220; clear A220
          replace H := Option.bind_eq_some_iff.mp H
          obtain ⟨t151, A230, H⟩ := H
          (try dsimp only at H)
          have A23 := Aside0.mk A230; clear A230
          by_cases c24 : t151 = true
          ·subst c24
           rw [if_pos rfl] at H
           by_cases c25 : x23_2 > 0
           ·rw [if_pos c25] at H
            have c25b0 : decide (0 < x23_2) = true := decide_eq_true c25
            clear c25
            (first | rw [c25b0] | (simp only [i64_w, i32_w]; rw [c25b0]) | skip)
            obtain ⟨ji26, hji26⟩ : ∃ j_ : Int, (wrap64 (x23_2 - 1)) = j_ := ⟨_, rfl⟩
            (first | rw [hji26] at H | simp only [hji26] at H)
            (try rw [hji26] at A22)
            (try rw [hji26] at A23)
            have hji26w : (IntKind.i64.wrap (x23_2 - 1)) = ji26 := (i64_w _).trans hji26
            by_cases c27 : 0 ≤ (ji26)
            ·rw [if_pos c27] at H
             have c27b0 : decide (0 ≤ (ji26)) = true := decide_eq_true c27
             clear c27
             by_cases c28 : (ji26) < (l0_3.length : Int)
             ·rw [if_pos c28] at H
              have c28b0 : decide ((ji26) < (l0_3.length : Int)) = true := decide_eq_true c28
              clear c28
              have H' := Aside0.mk H
              clear H
              try go_wp2
              obtain ⟨w29, h_w29⟩ : ∃ w_, ((w19.setCell ⟨gb149, 0, none⟩ (.int .i64 ((rd_T50 l0_3 x23_2).f0))).setCell ⟨gb149, 1, none⟩ (.int .u8 ((rd_T50 l0_3 x23_2).f1))) = w_ := ⟨_, rfl⟩
              have n0_ : Aside0 (w29.heap[gb144]? = some (.cells #[.int .i64 a0_0, .int .i64 a0_1, .slice A0_2 l0_2.length c0_2, .slice (some ad148) l0_3.length c0_3] 29 (0, 0))) := ⟨by subst h_w29; exact kf_ BK144.out⟩
              have n1_ : Aside0 (w29.heap[gb149]? = some (.cells #[.int .i64 ((rd_T50 l0_3 x23_2).f0), .int .u8 ((rd_T50 l0_3 x23_2).f1)] 50 (0, 0))) := ⟨by subst h_w29; refine kb_ ?_; refine pz2 (cs := #[.int .i64 0, .int .u8 0]) ?_; refine kb_ ?_; exact BK149.out⟩
              have n2_ : Aside0 (Below w.heap.size w w29) := ⟨by subst h_w29; exact hbA_ HB.out⟩
              (try clear BK144); (try clear BK149); (try clear HB)
              (try rw [h_w29]); clear h_w29
              have BK144 := n0_; have BK149 := n1_; have HB := n2_; clear n0_ n1_ n2_; replace BK144 := Aside0.mk (blk_drew BK144.out); replace BK149 := Aside0.mk (blk_drew BK149.out); replace HB := (bd_ HB)
              have p152 : 0 ≤ ((ji26) : Int) := of_decide_eq_true (by first | (with_reducible assumption) | assumption)
              have q152 : (ji26) < (l0_3.length : Int) := of_decide_eq_true (by first | (with_reducible assumption) | assumption)
              obtain ⟨ad152, e152, hx152_0, hx152_1⟩ := at_T50 HR0_3.out (ji26) p152 q152
              have hw152_1 := hx152_1; have hw152_0 := hx152_0
              obtain rfl : ad148 = ad152 := (by injection e152)
              replace hx152_0 := cc_ HB hx152_0
              replace hx152_1 := cc_ HB hx152_1
              replace p152 := eq_true p152
              replace q152 := eq_true q152
              refine start_ (n := 29) (S := fun w' => w'.cell? ⟨gb149, 0, none⟩ = some (.int .i64 ((rd_T50 l0_3 x23_2).f0)) ∧ w'.cell? ⟨gb149, 1, none⟩ = some (.int .u8 ((rd_T50 l0_3 x23_2).f1)) ∧ w'.cell? ⟨gb144, 0, none⟩ = some (.int .i64 a0_0) ∧ w'.cell? ⟨gb144, 1, none⟩ = some (.int .i64 a0_1) ∧ w'.cell? ⟨gb144, 2, none⟩ = some (.slice A0_2 l0_2.length c0_2) ∧ w'.cell? ⟨gb144, 3, none⟩ = some (.slice (some ad148) l0_3.length c0_3) ∧ w'.cell? (ad148.add (((ji26)).toNat * 2)) = some (.int .i64 ((rd_T50 l0_3 (ji26)).f0)) ∧ w'.cell? ⟨(ad148.add (((ji26)).toNat * 2)).block, (ad148.add (((ji26)).toNat * 2)).off + 1, none⟩ = some (.int .u8 ((rd_T50 l0_3 (ji26)).f1))) (ds := []) #[false, false, false, false, false, false, false, false, false, false, false, false, false, false, false, false, false, false, false, false, false, false, false, false, false, false, false, false, false] (by kernel_rfl) rfl rfl ⟨bc_ BK149 0, bc_ BK149 1, bc_ BK144 0, bc_ BK144 1, bc_ BK144 2, bc_ BK144 3, (cc_ HB hw152_0), (cc_ HB hw152_1)⟩ (fun hHeld => ?_); refine with_tabW impl_EarOk.tab6 impl_EarOk.bits6 (fun HT_ HW_ => ?_)
              generalize w29.drew = w30 at BK144 BK149 HB hx152_0 hx152_1 hHeld ⊢
              refine pu_ (i := 0) (N := some 28) HT_ ?_; refine pu_ (i := 2) (N := some 30) HT_ ?_; refine pu_ (i := 5) (N := some 33) HT_ ?_; refine tk_ (i := 1) (N := some 29) HT_ HW_ hHeld ?_; refine tk_ (i := 3) (N := some 31) HT_ HW_ hHeld ?_; refine pu_ (i := 4) (N := some 32) HT_ ?_; refine tk_ (i := 6) (N := some 34) HT_ HW_ hHeld ?_; refine tk_ (i := 7) (N := some 35) HT_ HW_ hHeld ?_
              refine on_ (i := 8) (N := some 36) HT_ (fun K hK => ?_)
              refine goes_ Try.func26 (by kernel_rfl) rfl #[.agg #[.int .i64 a0_0, .int .i64 a0_1, .slice A0_2 l0_2.length c0_2, .slice (some ad148) l0_3.length c0_3]] (by rfl) rfl rfl ar_ ?_
              with_reducible refine (impl_Ear_free.calls a0_0 a0_1 _ _ l0_2 _ _ l0_3 t150 _ ?side1 ?side2 ?side3 ?side4 A22.out).mono ?_
              (case side1 => exact kC_ (Kd.C_below HR0_2.out HB.out))
              (case side2 => exact HC0_2.out)
              (case side3 => exact kC_ (Kd.C_below HR0_3.out HB.out))
              (case side4 => exact HC0_3.out)
              rintro e w31 ⟨rfl, hb⟩
              refine ⟨_, rfl, ?_⟩
              replace BK144 := (bbA_ BK144 hb); replace BK149 := (bbA_ BK149 hb); replace HB := (bs_ HB hb); (try clear hb); (try clear hb2); (try clear hk); (try clear hi)
              refine hK.out _ _ ⟨bc_ BK149 0, bc_ BK149 1, bc_ BK144 0, bc_ BK144 1, bc_ BK144 2, bc_ BK144 3, (by first | exact cc_ HB hw152_0 | exact cc_ ⟨hbA_ HB.out⟩ hw152_0), (by first | exact cc_ HB hw152_1 | exact cc_ ⟨hbA_ HB.out⟩ hw152_1)⟩ (fun hHeld => ?_)
              clear hK K; refine nm_ 36 ?_; refine pu_ (i := 9) (N := some 37) HT_ ?_; refine pu_ (i := 10) (N := some 38) HT_ ?_
              refine on_ (i := 11) (N := some 39) HT_ (fun K hK => ?_)
              refine goes_ Try.func18 (by kernel_rfl) rfl #[.int .i64 ((rd_T50 l0_3 x23_2).f0), .int .i64 (wrap64 (a0_0 + 1)), .int .i64 (wrap64 ((wrap64 (a0_0 + t150)) - 1))] (by rfl) rfl rfl ar_ ?_
              with_reducible refine (impl_in.calls ((rd_T50 l0_3 x23_2).f0) (wrap64 (a0_0 + 1)) (wrap64 ((wrap64 (a0_0 + t150)) - 1)) true _ A23.out).mono ?_
              rintro e w' ⟨rfl, ⟨nd, rfl⟩⟩
              refine ⟨_, rfl, ?_⟩
              refine hK.out _ _ ⟨bc_ BK149 0, bc_ BK149 1, bc_ BK144 0, bc_ BK144 1, bc_ BK144 2, bc_ BK144 3, (by first | exact cc_ HB hw152_0 | exact cc_ ⟨hbA_ HB.out⟩ hw152_0), (by first | exact cc_ HB hw152_1 | exact cc_ ⟨hbA_ HB.out⟩ hw152_1)⟩ (fun hHeld => ?_)
              clear hK K; refine nm_ 39 ?_; refine pu_ (i := 12) (N := some 40) HT_ ?_; refine pu_ (i := 13) (N := some 41) HT_ ?_; refine pu_ (i := 14) (N := some 42) HT_ ?_; refine pu_ (i := 15) (N := some 43) HT_ ?_; refine pu_ (i := 16) (N := some 44) HT_ ?_; refine pu_ (i := 17) (N := some 45) HT_ ?_; refine pu_ (i := 19) (N := some 47) HT_ ?_; refine pu_ (i := 20) (N := some 48) HT_ ?_; refine pu_ (i := 24) (N := some 52) HT_ ?_; refine tk_ (i := 18) (N := some 46) HT_ HW_ hHeld ?_; refine pu_ (i := 21) (N := some 49) HT_ ?_; refine pu_ (i := 22) (N := some 50) HT_ ?_; refine tk_ (i := 23) (N := some 51) HT_ HW_ hHeld ?_; refine tk_ (i := 25) (N := some 53) HT_ HW_ hHeld ?_; refine pu_ (i := 26) (N := some 54) HT_ ?_; refine pu_ (i := 27) (N := some 55) HT_ ?_; refine pu_ (i := 28) (N := some 56) HT_ ?_
              refine done_ (done_of HT_.out (by kernel_rfl)) ?_
              try go_wp2
              first | go_meet | ((try simp only [← hji26]); go_meet)
              case rel => exact ⟨_, (decide (((rd_T50 l0_3 (ji26)).f0) ≥ ((rd_T50 l0_3 x23_2).f0))), (by first | rfl | (simp; done) | (simp only [← hji26] <;> (first | rfl | simp)) | (simp [*]; done)), H', ⟨by have := HJ1.out; have := HK2.out; first | omega | exact Nat.le_refl _⟩, ⟨by refine kb_ ?_; exact BK144.out⟩, ⟨by refine kb_ ?_; exact BK149.out⟩, ⟨hbA_ HB.out⟩⟩
             ·rw [if_neg c28] at H
              exact absurd H (by simp)
            ·rw [if_neg c27] at H
             exact absurd H (by simp)
           ·rw [if_neg c25] at H
            have c25b0 : decide (0 < x23_2) = false := decide_eq_false c25
            clear c25
            (first | rw [c25b0] | (simp only [i64_w, i32_w]; rw [c25b0]) | skip)
            have H' := Aside0.mk H
            clear H
            try go_wp2
            obtain ⟨w32, h_w32⟩ : ∃ w_, ((w19.setCell ⟨gb149, 0, none⟩ (.int .i64 ((rd_T50 l0_3 x23_2).f0))).setCell ⟨gb149, 1, none⟩ (.int .u8 ((rd_T50 l0_3 x23_2).f1))) = w_ := ⟨_, rfl⟩
            have n0_ : Aside0 (w32.heap[gb144]? = some (.cells #[.int .i64 a0_0, .int .i64 a0_1, .slice A0_2 l0_2.length c0_2, .slice (some ad148) l0_3.length c0_3] 29 (0, 0))) := ⟨by subst h_w32; exact kf_ BK144.out⟩
            have n1_ : Aside0 (w32.heap[gb149]? = some (.cells #[.int .i64 ((rd_T50 l0_3 x23_2).f0), .int .u8 ((rd_T50 l0_3 x23_2).f1)] 50 (0, 0))) := ⟨by subst h_w32; refine kb_ ?_; refine pz2 (cs := #[.int .i64 0, .int .u8 0]) ?_; refine kb_ ?_; exact BK149.out⟩
            have n2_ : Aside0 (Below w.heap.size w w32) := ⟨by subst h_w32; exact hbA_ HB.out⟩
            (try clear BK144); (try clear BK149); (try clear HB)
            (try rw [h_w32]); clear h_w32
            have BK144 := n0_; have BK149 := n1_; have HB := n2_; clear n0_ n1_ n2_; replace BK144 := Aside0.mk (blk_drew BK144.out); replace BK149 := Aside0.mk (blk_drew BK149.out); replace HB := (bd_ HB)
            refine start_ (n := 29) (S := fun w' => w'.cell? ⟨gb149, 0, none⟩ = some (.int .i64 ((rd_T50 l0_3 x23_2).f0)) ∧ w'.cell? ⟨gb149, 1, none⟩ = some (.int .u8 ((rd_T50 l0_3 x23_2).f1)) ∧ w'.cell? ⟨gb144, 0, none⟩ = some (.int .i64 a0_0) ∧ w'.cell? ⟨gb144, 1, none⟩ = some (.int .i64 a0_1) ∧ w'.cell? ⟨gb144, 2, none⟩ = some (.slice A0_2 l0_2.length c0_2) ∧ w'.cell? ⟨gb144, 3, none⟩ = some (.slice (some ad148) l0_3.length c0_3)) (ds := []) #[false, false, false, false, false, false, false, false, false, false, false, false, false, false, false, false, false, false, false, false, false, false, false, false, false, false, false, false, false] (by kernel_rfl) rfl rfl ⟨bc_ BK149 0, bc_ BK149 1, bc_ BK144 0, bc_ BK144 1, bc_ BK144 2, bc_ BK144 3⟩ (fun hHeld => ?_); refine with_tabW impl_EarOk.tab6 impl_EarOk.bits6 (fun HT_ HW_ => ?_)
            generalize w32.drew = w33 at BK144 BK149 HB hHeld ⊢
            refine pu_ (i := 0) (N := some 28) HT_ ?_; refine pu_ (i := 2) (N := some 30) HT_ ?_; refine pu_ (i := 5) (N := some 33) HT_ ?_; refine tk_ (i := 1) (N := some 29) HT_ HW_ hHeld ?_; refine tk_ (i := 3) (N := some 31) HT_ HW_ hHeld ?_; refine pu_ (i := 4) (N := some 32) HT_ ?_; refine tk_ (i := 6) (N := some 34) HT_ HW_ hHeld ?_; refine tk_ (i := 7) (N := some 35) HT_ HW_ hHeld ?_
            refine on_ (i := 8) (N := some 36) HT_ (fun K hK => ?_)
            refine goes_ Try.func26 (by kernel_rfl) rfl #[.agg #[.int .i64 a0_0, .int .i64 a0_1, .slice A0_2 l0_2.length c0_2, .slice (some ad148) l0_3.length c0_3]] (by rfl) rfl rfl ar_ ?_
            with_reducible refine (impl_Ear_free.calls a0_0 a0_1 _ _ l0_2 _ _ l0_3 t150 _ ?side1 ?side2 ?side3 ?side4 A22.out).mono ?_
            (case side1 => exact kC_ (Kd.C_below HR0_2.out HB.out))
            (case side2 => exact HC0_2.out)
            (case side3 => exact kC_ (Kd.C_below HR0_3.out HB.out))
            (case side4 => exact HC0_3.out)
            rintro e w34 ⟨rfl, hb⟩
            refine ⟨_, rfl, ?_⟩
            replace BK144 := (bbA_ BK144 hb); replace BK149 := (bbA_ BK149 hb); replace HB := (bs_ HB hb); (try clear hb); (try clear hb2); (try clear hk); (try clear hi)
            refine hK.out _ _ ⟨bc_ BK149 0, bc_ BK149 1, bc_ BK144 0, bc_ BK144 1, bc_ BK144 2, bc_ BK144 3⟩ (fun hHeld => ?_)
            clear hK K; refine nm_ 36 ?_; refine pu_ (i := 9) (N := some 37) HT_ ?_; refine pu_ (i := 10) (N := some 38) HT_ ?_
            refine on_ (i := 11) (N := some 39) HT_ (fun K hK => ?_)
            refine goes_ Try.func18 (by kernel_rfl) rfl #[.int .i64 ((rd_T50 l0_3 x23_2).f0), .int .i64 (wrap64 (a0_0 + 1)), .int .i64 (wrap64 ((wrap64 (a0_0 + t150)) - 1))] (by rfl) rfl rfl ar_ ?_
            with_reducible refine (impl_in.calls ((rd_T50 l0_3 x23_2).f0) (wrap64 (a0_0 + 1)) (wrap64 ((wrap64 (a0_0 + t150)) - 1)) true _ A23.out).mono ?_
            rintro e w' ⟨rfl, ⟨nd, rfl⟩⟩
            refine ⟨_, rfl, ?_⟩
            refine hK.out _ _ ⟨bc_ BK149 0, bc_ BK149 1, bc_ BK144 0, bc_ BK144 1, bc_ BK144 2, bc_ BK144 3⟩ (fun hHeld => ?_)
            clear hK K; refine nm_ 39 ?_; refine pu_ (i := 12) (N := some 40) HT_ ?_; refine pu_ (i := 13) (N := some 41) HT_ ?_; refine pu_ (i := 14) (N := some 42) HT_ ?_; refine pu_ (i := 15) (N := some 43) HT_ ?_; refine pu_ (i := 16) (N := some 44) HT_ ?_; refine pn_ (i := 17) (N := some 45) HT_ ?_; refine pn_ (i := 18) (N := some 46) HT_ ?_; refine pn_ (i := 19) (N := some 47) HT_ ?_; refine pn_ (i := 20) (N := some 48) HT_ ?_; refine pn_ (i := 21) (N := some 49) HT_ ?_; refine pn_ (i := 22) (N := some 50) HT_ ?_; refine pn_ (i := 23) (N := some 51) HT_ ?_; refine pn_ (i := 24) (N := some 52) HT_ ?_; refine pn_ (i := 25) (N := some 53) HT_ ?_; refine pn_ (i := 26) (N := some 54) HT_ ?_; refine pu_ (i := 27) (N := some 55) HT_ ?_; refine pu_ (i := 28) (N := some 56) HT_ ?_
            refine done_ (done_of HT_.out (by kernel_rfl)) ?_
            try go_wp2
            go_meet
            case rel => exact ⟨_, (false), (by first | rfl | (simp; done) | (simp [*]; done)), H', ⟨by have := HJ1.out; have := HK2.out; first | omega | exact Nat.le_refl _⟩, ⟨by refine kb_ ?_; exact BK144.out⟩, ⟨by refine kb_ ?_; exact BK149.out⟩, ⟨hbA_ HB.out⟩⟩
          ·replace c24 := Bool.eq_false_iff.mpr c24
           subst c24
           rw [if_neg (show ¬ (false = true) by decide)] at H
           have H' := Aside0.mk H
           clear H
           try go_wp2
           obtain ⟨w35, h_w35⟩ : ∃ w_, ((w19.setCell ⟨gb149, 0, none⟩ (.int .i64 ((rd_T50 l0_3 x23_2).f0))).setCell ⟨gb149, 1, none⟩ (.int .u8 ((rd_T50 l0_3 x23_2).f1))) = w_ := ⟨_, rfl⟩
           have n0_ : Aside0 (w35.heap[gb144]? = some (.cells #[.int .i64 a0_0, .int .i64 a0_1, .slice A0_2 l0_2.length c0_2, .slice (some ad148) l0_3.length c0_3] 29 (0, 0))) := ⟨by subst h_w35; exact kf_ BK144.out⟩
           have n1_ : Aside0 (w35.heap[gb149]? = some (.cells #[.int .i64 ((rd_T50 l0_3 x23_2).f0), .int .u8 ((rd_T50 l0_3 x23_2).f1)] 50 (0, 0))) := ⟨by subst h_w35; refine kb_ ?_; refine pz2 (cs := #[.int .i64 0, .int .u8 0]) ?_; refine kb_ ?_; exact BK149.out⟩
           have n2_ : Aside0 (Below w.heap.size w w35) := ⟨by subst h_w35; exact hbA_ HB.out⟩
           (try clear BK144); (try clear BK149); (try clear HB)
           (try rw [h_w35]); clear h_w35
           have BK144 := n0_; have BK149 := n1_; have HB := n2_; clear n0_ n1_ n2_; replace BK144 := Aside0.mk (blk_drew BK144.out); replace BK149 := Aside0.mk (blk_drew BK149.out); replace HB := (bd_ HB)
           refine start_ (n := 29) (S := fun w' => w'.cell? ⟨gb149, 0, none⟩ = some (.int .i64 ((rd_T50 l0_3 x23_2).f0)) ∧ w'.cell? ⟨gb149, 1, none⟩ = some (.int .u8 ((rd_T50 l0_3 x23_2).f1)) ∧ w'.cell? ⟨gb144, 0, none⟩ = some (.int .i64 a0_0) ∧ w'.cell? ⟨gb144, 1, none⟩ = some (.int .i64 a0_1) ∧ w'.cell? ⟨gb144, 2, none⟩ = some (.slice A0_2 l0_2.length c0_2) ∧ w'.cell? ⟨gb144, 3, none⟩ = some (.slice (some ad148) l0_3.length c0_3)) (ds := []) #[false, false, false, false, false, false, false, false, false, false, false, false, false, false, false, false, false, false, false, false, false, false, false, false, false, false, false, false, false] (by kernel_rfl) rfl rfl ⟨bc_ BK149 0, bc_ BK149 1, bc_ BK144 0, bc_ BK144 1, bc_ BK144 2, bc_ BK144 3⟩ (fun hHeld => ?_); refine with_tabW impl_EarOk.tab6 impl_EarOk.bits6 (fun HT_ HW_ => ?_)
           generalize w35.drew = w36 at BK144 BK149 HB hHeld ⊢
           refine pu_ (i := 0) (N := some 28) HT_ ?_; refine pu_ (i := 2) (N := some 30) HT_ ?_; refine pu_ (i := 5) (N := some 33) HT_ ?_; refine tk_ (i := 1) (N := some 29) HT_ HW_ hHeld ?_; refine tk_ (i := 3) (N := some 31) HT_ HW_ hHeld ?_; refine pu_ (i := 4) (N := some 32) HT_ ?_; refine tk_ (i := 6) (N := some 34) HT_ HW_ hHeld ?_; refine tk_ (i := 7) (N := some 35) HT_ HW_ hHeld ?_
           refine on_ (i := 8) (N := some 36) HT_ (fun K hK => ?_)
           refine goes_ Try.func26 (by kernel_rfl) rfl #[.agg #[.int .i64 a0_0, .int .i64 a0_1, .slice A0_2 l0_2.length c0_2, .slice (some ad148) l0_3.length c0_3]] (by rfl) rfl rfl ar_ ?_
           with_reducible refine (impl_Ear_free.calls a0_0 a0_1 _ _ l0_2 _ _ l0_3 t150 _ ?side1 ?side2 ?side3 ?side4 A22.out).mono ?_
           (case side1 => exact kC_ (Kd.C_below HR0_2.out HB.out))
           (case side2 => exact HC0_2.out)
           (case side3 => exact kC_ (Kd.C_below HR0_3.out HB.out))
           (case side4 => exact HC0_3.out)
           rintro e w37 ⟨rfl, hb⟩
           refine ⟨_, rfl, ?_⟩
           replace BK144 := (bbA_ BK144 hb); replace BK149 := (bbA_ BK149 hb); replace HB := (bs_ HB hb); (try clear hb); (try clear hb2); (try clear hk); (try clear hi)
           refine hK.out _ _ ⟨bc_ BK149 0, bc_ BK149 1, bc_ BK144 0, bc_ BK144 1, bc_ BK144 2, bc_ BK144 3⟩ (fun hHeld => ?_)
           clear hK K; refine nm_ 36 ?_; refine pu_ (i := 9) (N := some 37) HT_ ?_; refine pu_ (i := 10) (N := some 38) HT_ ?_
           refine on_ (i := 11) (N := some 39) HT_ (fun K hK => ?_)
           refine goes_ Try.func18 (by kernel_rfl) rfl #[.int .i64 ((rd_T50 l0_3 x23_2).f0), .int .i64 (wrap64 (a0_0 + 1)), .int .i64 (wrap64 ((wrap64 (a0_0 + t150)) - 1))] (by rfl) rfl rfl ar_ ?_
           with_reducible refine (impl_in.calls ((rd_T50 l0_3 x23_2).f0) (wrap64 (a0_0 + 1)) (wrap64 ((wrap64 (a0_0 + t150)) - 1)) false _ A23.out).mono ?_
           rintro e w' ⟨rfl, ⟨nd, rfl⟩⟩
           refine ⟨_, rfl, ?_⟩
           refine hK.out _ _ ⟨bc_ BK149 0, bc_ BK149 1, bc_ BK144 0, bc_ BK144 1, bc_ BK144 2, bc_ BK144 3⟩ (fun hHeld => ?_)
           clear hK K; refine nm_ 39 ?_; refine pu_ (i := 12) (N := some 40) HT_ ?_; refine pu_ (i := 13) (N := some 41) HT_ ?_; refine pn_ (i := 14) (N := some 42) HT_ ?_; refine pn_ (i := 15) (N := some 43) HT_ ?_; refine pn_ (i := 16) (N := some 44) HT_ ?_; refine pn_ (i := 17) (N := some 45) HT_ ?_; refine pn_ (i := 18) (N := some 46) HT_ ?_; refine pn_ (i := 19) (N := some 47) HT_ ?_; refine pn_ (i := 20) (N := some 48) HT_ ?_; refine pn_ (i := 21) (N := some 49) HT_ ?_; refine pn_ (i := 22) (N := some 50) HT_ ?_; refine pn_ (i := 23) (N := some 51) HT_ ?_; refine pn_ (i := 24) (N := some 52) HT_ ?_; refine pn_ (i := 25) (N := some 53) HT_ ?_; refine pn_ (i := 26) (N := some 54) HT_ ?_; refine pn_ (i := 27) (N := some 55) HT_ ?_; refine pu_ (i := 28) (N := some 56) HT_ ?_
           refine done_ (done_of HT_.out (by kernel_rfl)) ?_
           try go_wp2
           go_meet
           case rel => exact ⟨_, (true), (by first | rfl | (simp; done) | (simp [*]; done)), H', ⟨by have := HJ1.out; have := HK2.out; first | omega | exact Nat.le_refl _⟩, ⟨by refine kb_ ?_; exact BK144.out⟩, ⟨by refine kb_ ?_; exact BK149.out⟩, ⟨hbA_ HB.out⟩⟩
         case rest =>
          clear HC18; (try clear c1); (try clear c2); (try clear p2); (try clear p6); (try clear c18); (try clear c24); (try clear c25); (try clear c25b0); (try clear c26); (try clear c27); (try clear c28)
          obtain ⟨kq, x56_17, rfl, HA, HJ17, BK144, BK149, HB⟩ := hcut
          cases kq with
          | zero => exact absurd HA.out (by simp [impl_EarOk.j2])
          | succ kj17 =>
           have H := HA.out; clear HA
           simp only [impl_EarOk.j2] at H
           by_cases c38 : x56_17 = true
           ·subst c38
            rw [if_pos rfl] at H
            obtain rfl := Option.some.inj H
            go_wp2
            go_ret
            exact ⟨by first | rfl | (simp [errW_none, errW_some] <;> rfl) | (simp [*, errW_none, errW_some] <;> rfl), hbA_ HB.out⟩
           ·replace c38 := Bool.eq_false_iff.mpr c38
            subst c38
            rw [if_neg (show ¬ (false = true) by decide)] at H
            have H' := Aside0.mk H
            clear H
            go_wp2
            go_roundg kj17
            case measure => have := HJ1.out; have := HK2.out; have := HJ17.out; omega
            case rel => exact ⟨(wrap64 (x23_2 + 1)), (by first | rfl | (simp; done) | (simp [*]; done)), H', ⟨by have := HJ1.out; have := HK2.out; have := HJ17.out; omega⟩, ⟨by refine kb_ ?_; exact BK144.out⟩, ⟨hbA_ HB.out⟩⟩
        ·rw [if_neg c17] at H
         exact absurd H (by simp)
       ·rw [if_neg c16] at H
        exact absurd H (by simp)
      ·rw [if_neg c15] at H
       have c15b0 : decide (x23_2 < (l0_3.length : Int)) = false := decide_eq_false c15
       clear c15
       obtain rfl := Option.some.inj H
       go_wp2
       go_ret
       exact ⟨by first | rfl | (simp [errW_none, errW_some] <;> rfl) | (simp [*, errW_none, errW_some] <;> rfl), hbA_ HB.out⟩
end Go.Proofs.Ytgemkjclamlmbaa.PFnListening
