/- Printed by wip/xp/xprint.sh out of the translation, for this claim: what each function answers, as a plain function, and that the machine does just that. No condition. -/
import Derived.Test.YtcbiljabpadaeaaPFnNearSendx0
namespace Go.Proofs.Ytcbiljabpadaeaa.PFnNearSend
open Go.RowKit Go.Proofs.YtcbiljabpadaeaaW.PrintWords Go.Proofs.YtcbiljabpadaeaaW.PrintLast Go.Proofs.YtcbiljabpadaeaaW.PrintMore
attribute [local go_sem] max2_int min2_int max_two min_two max_three min_three max_four min_four   -- for this text's walks alone
set_option linter.unusedVariables false
set_option linter.unusedSimpArgs false
def IsS73 (w0 W : World) (g : Nat) (f0 : List Int) (f1 : Int) : Prop := ∃ A0 c0, W.heap[g]? = some (.cells #[.slice A0 f0.length c0, .int .i64 f1] 73 (0, 0)) ∧ w0.heap.size ≤ g ∧ Kd.C (Kd.int .u8) w0 A0 f0.length f0
theorem IsS73.grown {w0 W : World} {g : Nat} {f0 : List Int} {f1 : Int} {W1 : World} {row : Option Nat} (h : IsS73 w0 W g f0 f1) (hw : W.grownBy W1 row) (hne : some g ≠ row) : IsS73 w0 W1 g f0 f1 := by
 obtain ⟨A0, c0, hb, hg, hr0⟩ := h
 exact ⟨A0, c0, blk_grown hb hw hne, hg, hr0⟩
theorem IsS73.kept {w0 W : World} {g : Nat} {f0 : List Int} {f1 : Int} {W1 : World} {S : Nat → Prop} (h : IsS73 w0 W g f0 f1) (hk : Kept W W1 S) (hne : ¬ S g) : IsS73 w0 W1 g f0 f1 := by
 obtain ⟨A0, c0, hb, hg, hr0⟩ := h
 exact ⟨A0, c0, blk_kept hb hk hne, hg, hr0⟩
theorem IsS73.below {w0 W : World} {g : Nat} {f0 : List Int} {f1 : Int} {W1 : World} (h : IsS73 w0 W g f0 f1) (hw : Below W.heap.size W W1) : IsS73 w0 W1 g f0 f1 := h.grown (grown_of_below hw none) (by simp)
theorem IsS73.alloc {w0 W : World} {g : Nat} {f0 : List Int} {f1 : Int} (h : IsS73 w0 W g f0 f1) (o : Obj) : IsS73 w0 (W.alloc o) g f0 f1 := h.below (below_alloc (Below.refl _ _) o)
theorem IsS73.drewN {w0 W : World} {g : Nat} {f0 : List Int} {f1 : Int} (h : IsS73 w0 W g f0 f1) (m : Nat) : IsS73 w0 (W.drewN m) g f0 f1 := h
theorem IsS73.drew {w0 W : World} {g : Nat} {f0 : List Int} {f1 : Int} (h : IsS73 w0 W g f0 f1) : IsS73 w0 W.drew g f0 f1 := h
theorem IsS73.at_ {w0 W : World} {g : Nat} {f0 : List Int} {f1 : Int} {w' : World} {m : Nat} (hq : W.drewN m = w') (h : IsS73 w0 W g f0 f1) : IsS73 w0 w' g f0 f1 := by subst hq; exact IsS73.drewN h m
theorem IsS73.apart {w0 W : World} {g : Nat} {f0 : List Int} {f1 : Int} {α : Type} {d : Kd α} {e : Nat} {base : Nat} {ok : Nat → Prop} {v : Value} {xs : List α} (h : IsS73 w0 W g f0 f1) (ho : d.R e W base ok v xs) (ht : ∀ q, q ∈ e :: d.E → q ≠ 73) : d.R e W base (fun k => ok k ∧ k ≠ g) v xs := by
 obtain ⟨A0, c0, hb, hg, hr0⟩ := h
 exact Kd.R_types ho hb ht
theorem IsS73.own_ne {w0 W : World} {g : Nat} {f0 : List Int} {f1 : Int} {α : Type} {d : Kd α} {e : Nat} {base : Nat} {ok : Nat → Prop} {v : Value} {xs : List α} (h : IsS73 w0 W g f0 f1) (ho : d.R e W base ok v xs) (ht : e ≠ 73) : some g ≠ v.ownBlock := by
 obtain ⟨A0, c0, hb, hg, hr0⟩ := h
 exact Kd.R_ne ho hb ht
theorem IsS73.apartQ {w0 W : World} {g : Nat} {f0 : List Int} {f1 : Int} {α : Type} {d : Kd α} {e : Nat} {base : Nat} {ok : Nat → Prop} {v : Value} {xs : List α} (h : IsS73 w0 W g f0 f1) (ho : d.Q e W base ok v xs) (ht : ∀ q, q ∈ e :: d.E → q ≠ 73) : d.Q e W base (fun k => ok k ∧ k ≠ g) v xs := by
 obtain ⟨A0, c0, hb, hg, hr0⟩ := h
 exact Kd.Q_types ho hb ht
theorem IsS73.own_neQ {w0 W : World} {g : Nat} {f0 : List Int} {f1 : Int} {α : Type} {d : Kd α} {e : Nat} {base : Nat} {ok : Nat → Prop} {v : Value} {xs : List α} (h : IsS73 w0 W g f0 f1) (ho : d.Q e W base ok v xs) (ht : e ≠ 73) : some g ≠ v.ownBlock := by
 obtain ⟨A0, c0, hb, hg, hr0⟩ := h
 exact Kd.Q_ne ho hb ht
theorem IsS73.lt {w0 W : World} {g : Nat} {f0 : List Int} {f1 : Int} (h : IsS73 w0 W g f0 f1) : g < W.heap.size := by
 obtain ⟨A0, c0, hb, hg, hr0⟩ := h
 exact blk_lt hb
theorem IsS73.ge {w0 W : World} {g : Nat} {f0 : List Int} {f1 : Int} (h : IsS73 w0 W g f0 f1) : w0.heap.size ≤ g := by
 obtain ⟨A0, c0, hb, hg, hr0⟩ := h
 exact hg
theorem IsS73.ne_blk {w0 W : World} {g : Nat} {f0 : List Int} {f1 : Int} {a : Nat} {cs : Array Value} {t : TypeId} {fr : Nat × Nat} (h : IsS73 w0 W g f0 f1) (hb2 : W.heap[a]? = some (.cells cs t fr)) (ht : t ≠ 73) : g ≠ a := by
 obtain ⟨A0, c0, hb, hg, hr0⟩ := h
 rintro rfl
 rw [hb] at hb2
 injection hb2 with hb2
 injection hb2 with _ ht2
 exact ht ht2.symm
theorem IsS73.far {w0 W : World} {g : Nat} {f0 : List Int} {f1 : Int} {p : Addr} (h : IsS73 w0 W g f0 f1) (hne : g ≠ p.block) (u : Value) : IsS73 w0 (W.setCell p u) g f0 f1 := by
 obtain ⟨A0, c0, hb, hg, hr0⟩ := h
 exact ⟨A0, c0, blk_far hb hne u, hg, hr0⟩
theorem cellS73_0 {W : World} {g : Nat} {A0 : Option Addr} {c0 : Nat} {f0 : List Int} {f1 : Int} (h : W.heap[g]? = some (.cells #[.slice A0 f0.length c0, .int .i64 f1] 73 (0, 0))) : W.cell? ⟨g, 0, none⟩ = some (.slice A0 f0.length c0) := (blk_cell h 0).trans rfl
theorem cellS73_1 {W : World} {g : Nat} {A0 : Option Addr} {c0 : Nat} {f0 : List Int} {f1 : Int} (h : W.heap[g]? = some (.cells #[.slice A0 f0.length c0, .int .i64 f1] 73 (0, 0))) : W.cell? ⟨g, 1, none⟩ = some (.int .i64 f1) := (blk_cell h 1).trans rfl
theorem IsS73.set_1 {w0 W : World} {g : Nat} {f0 : List Int} {f1 : Int} (h : IsS73 w0 W g f0 f1) (x : Int) : IsS73 w0 (W.setCell ⟨g, 1, none⟩ (.int .i64 x)) g f0 x := by
 obtain ⟨A0, c0, hb, hg, hr0⟩ := h
 exact ⟨A0, c0, by simpa using blk_set hb 1 (.int .i64 x), hg, hr0⟩
theorem is73_ {P Q : Prop} (q : Q) (h : Q → P := by intro q_; repeat (first | (with_reducible first | exact q_ | apply IsS73.alloc | apply IsS73.drewN | apply IsS73.drew | apply IsS73.set_1 | refine IsS73.far ?_ (Aside0.out (by assumption)) _) | exact q_)) : P := h q
theorem hb73_ {P Q : Prop} (q : Q) (h : Q → P := by intro q_; repeat (first | (with_reducible first | exact q_ | apply below_alloc | apply pw_below_drewN | apply below_drew1 | refine below_set ?_ (Aside0.out (by assumption)) | refine below_set ?_ (IsS73.ge (Aside0.out (by assumption)))) | exact q_)) : P := h q
theorem bs73_ {w W W0 W2 : World} (HB : Aside0 (Below w.heap.size w W0)) (hb : Below W.heap.size W W2) (t : Below w.heap.size w W0 → Below w.heap.size w W := by intro q_; repeat (first | (with_reducible first | exact q_ | apply below_alloc | apply pw_below_drewN | apply below_drew1 | refine below_set ?_ (Aside0.out (by assumption)) | refine below_set ?_ (IsS73.ge (Aside0.out (by assumption)))) | exact q_)) : Aside0 (Below w.heap.size w W2) := ⟨below_step (t HB.out) hb⟩
theorem nl73_ {w0 W W0 : World} {g g2 : Nat} {f0 : List Int} {f1 : Int} {g0 : List Int} {g1 : Int} (hg : g2 = W.heap.size) (h : Aside0 (IsS73 w0 W0 g f0 f1)) (t : IsS73 w0 W0 g f0 f1 → IsS73 w0 W g g0 g1 := by intro q_; repeat (first | (with_reducible first | exact q_ | apply IsS73.alloc | apply IsS73.drewN | apply IsS73.drew | apply IsS73.set_1 | refine IsS73.far ?_ (Aside0.out (by assumption)) _) | exact q_)) : Aside0 (g ≠ g2) := ⟨hg ▸ Nat.ne_of_lt (IsS73.lt (t h.out))⟩
theorem ng73_ {w0 W W0 : World} {g g2 : Nat} {f0 : List Int} {f1 : Int} {g0 : List Int} {g1 : Int} (hg : g2 = W.heap.size) (h : Aside0 (IsS73 w0 W0 g f0 f1)) (t : IsS73 w0 W0 g f0 f1 → IsS73 w0 W g g0 g1 := by intro q_; repeat (first | (with_reducible first | exact q_ | apply IsS73.alloc | apply IsS73.drewN | apply IsS73.drew | apply IsS73.set_1 | refine IsS73.far ?_ (Aside0.out (by assumption)) _) | exact q_)) : Aside0 (g2 ≠ g) := ⟨hg ▸ Nat.ne_of_gt (IsS73.lt (t h.out))⟩
theorem ib73_ {w0 W W0 W2 : World} {g : Nat} {f0 : List Int} {f1 : Int} {g0 : List Int} {g1 : Int} (h : Aside0 (IsS73 w0 W0 g f0 f1)) (hb : Below W.heap.size W W2) (t : IsS73 w0 W0 g f0 f1 → IsS73 w0 W g g0 g1 := by intro q_; repeat (first | (with_reducible first | exact q_ | apply IsS73.alloc | apply IsS73.drewN | apply IsS73.drew | apply IsS73.set_1 | refine IsS73.far ?_ (Aside0.out (by assumption)) _) | exact q_)) : Aside0 (IsS73 w0 W2 g g0 g1) := ⟨IsS73.below (t h.out) hb⟩
theorem rk73_ {w0 W0 W1 W W2 : World} {g : Nat} {f0 : List Int} {f1 : Int} {g0 : List Int} {g1 : Int} {α : Type} {d : Kd α} {e : Nat} {base : Nat} {ok : Nat → Prop} {v : Value} {xs : List α} (h : Aside0 (IsS73 w0 W0 g f0 f1)) (ho : Aside0 (d.R e W1 base ok v xs)) (hk : KeepBut W W2 g none) (t : IsS73 w0 W0 g f0 f1 → IsS73 w0 W g g0 g1 := by intro q_; repeat (first | (with_reducible first | exact q_ | apply IsS73.alloc | apply IsS73.drewN | apply IsS73.drew | apply IsS73.set_1 | refine IsS73.far ?_ (Aside0.out (by assumption)) _) | exact q_)) (s : d.R e W1 base ok v xs → d.R e W base ok v xs := by intro q_; (with_reducible repeat (first | apply Kd.R_alloc | apply Kd.R_drewN | apply Kd.R_drew)); exact q_) (ht : ∀ q, q ∈ e :: d.E → q ≠ 73 := by decide) : Aside0 (d.R e W2 base ok v xs) := ⟨Kd.R_mono (Kd.R_keep (IsS73.apart (t h.out) (s ho.out) ht) hk (fun _ h => h.2)) (fun _ h => h.1)⟩
def spec_l20Open.f (l0 : List Int) : Option (List Int × Int) := if (l0.length : Int) > 2000 then (if 2000 ≤ (l0.length : Int) then (some (l0.take 2000, 0)) else (none)) else (some (l0, 0))
set_option maxHeartbeats 8000000 in
set_option maxRecDepth 100000 in
theorem spec_l20Open.calls (A0 : Option Addr) (c0 : Nat) (l0 : List Int) (r1 : List Int) (r2 : Int) (w0 w : World) (hB : Below w0.heap.size w0 w) (hr0 : Kd.C (Kd.int .u8) w0 A0 l0.length l0) (hc0 : l0.length ≤ c0) (h : spec_l20Open.f l0 = some (r1, r2)) :
  Calls Try.prog 21 #[.slice A0 l0.length c0] w fun e w' => ∃ g_ : Nat, e = .returned (.pointer (some ⟨g_, 0, none⟩)) ∧ IsS73 w0 w' g_ r1 r2 ∧ Below w0.heap.size w0 w' ∧ Below w.heap.size w w' := by
 have hu73 := Try.underlying73; have HR0 := Aside0.mk hr0; have HC0 := Aside0.mk hc0; clear hr0 hc0
 have HBW := Aside0.mk (Below.refl w.heap.size w)
 have HW0 := Aside0.mk hB.size; have HB := Aside0.mk hB; clear hB
 have H : (if (l0.length : Int) > 2000 then (if 2000 ≤ (l0.length : Int) then (some (l0.take 2000, 0)) else (none)) else (some (l0, 0))) = some (r1, r2) := h
 clear h
 by_cases c2 : (l0.length : Int) > 2000
 ·rw [if_pos c2] at H
  have c2b0 : decide (2000 < (l0.length : Int)) = true := decide_eq_true c2
  have c2b1 : decide (2000 < l0.length) = true := decide_eq_true (by omega)
  clear c2
  by_cases c3 : 2000 ≤ (l0.length : Int)
  ·rw [if_pos c3] at H
   have c3b0 := eq_true c3
   have c3b1 : decide (2000 ≤ (l0.length : Int)) = true := decide_eq_true c3
   clear c3
   simp only [Option.some.injEq, Prod.mk.injEq] at H
   obtain ⟨rfl, rfl⟩ := H
   obtain ⟨i04, hi04, _, hsz4, _⟩ := info_parts info5
   obtain ⟨hcut4, hA4, hC4⟩ := print_take_of (P := Try.prog) (Value.int .u8) 0 22 5 .i64 Try.underlying22 hi04 hsz4 A0 c0 l0 2000 (by omega) (of_decide_eq_true (by first | (with_reducible assumption) | assumption)) HC0.out
   have HR101 := Aside0.mk (Kd.C_of_reads (h1 := fun _ => rfl) (hA4 _ (Kd.reads_of_C HR0.out)))
   have HC101 := Aside0.mk hC4; clear hA4 hC4 hi04 hsz4
   go_enter Try.func21, Try.ntmps21
   go_wp2_with (first | ((with_reducible refine gate_dst (N := 10) rfl ?_); refine box_ (N := 10) (cs := #[.slice A0 (l0.take 2000).length c0, .int .i64 0]) (t := 73) (fun gb102 hg w5 hbox hb => ?_); replace HB := (bs_ HB hb); have BK102 := Aside0.mk (hbox); have GW102 := Aside0.mk ((by rw [hg]; exact (below_size (hb0_ HBW.out)) : w.heap.size ≤ gb102)); have GE102 := Aside0.mk ((Nat.le_trans HW0.out (by rw [hg]; exact (below_size (hb0_ HBW.out)) : w.heap.size ≤ gb102) : w0.heap.size ≤ gb102)); replace HBW := Aside0.mk (below_step HBW.out hb); clear hb hbox hg))
   go_ret
   exact ⟨_, rfl, (show IsS73 w0 _ gb102 (l0.take 2000) 0 from ⟨_, _, by refine kb_ ?_; exact BK102.out, GE102.out, HR101.out⟩), hbA_ HB.out, by repeat (first | (with_reducible first | exact HBW.out | apply below_alloc | apply pw_below_drewN | apply below_drew1 | refine below_set ?_ GW102.out) | exact HBW.out)⟩
  ·rw [if_neg c3] at H
   exact absurd H (by simp)
 ·rw [if_neg c2] at H
  have c2b0 : decide (2000 < (l0.length : Int)) = false := decide_eq_false c2
  have c2b1 : decide (2000 < l0.length) = false := decide_eq_false (by omega)
  clear c2
  simp only [Option.some.injEq, Prod.mk.injEq] at H
  obtain ⟨rfl, rfl⟩ := H
  go_enter Try.func21, Try.ntmps21
  go_wp2_with (first | ((with_reducible refine gate_dst (N := 10) rfl ?_); refine box_ (N := 10) (cs := #[.slice A0 l0.length c0, .int .i64 0]) (t := 73) (fun gb103 hg w6 hbox hb => ?_); replace HB := (bs_ HB hb); have BK103 := Aside0.mk (hbox); have GW103 := Aside0.mk ((by rw [hg]; exact (below_size (hb0_ HBW.out)) : w.heap.size ≤ gb103)); have GE103 := Aside0.mk ((Nat.le_trans HW0.out (by rw [hg]; exact (below_size (hb0_ HBW.out)) : w.heap.size ≤ gb103) : w0.heap.size ≤ gb103)); replace HBW := Aside0.mk (below_step HBW.out hb); clear hb hbox hg))
  go_ret
  exact ⟨_, rfl, (show IsS73 w0 _ gb103 l0 0 from ⟨_, _, by refine kb_ ?_; exact BK103.out, GE103.out, HR0.out⟩), hbA_ HB.out, by repeat (first | (with_reducible first | exact HBW.out | apply below_alloc | apply pw_below_drewN | apply below_drew1 | refine below_set ?_ GW103.out) | exact HBW.out)⟩
def spec_l1In.f (a0 : Int) (a1 : Int) (a2 : Int) : Option (Bool) := if a0 ≥ a1 then (some (decide (a0 ≤ a2))) else (some false)
set_option maxHeartbeats 8000000 in
set_option maxRecDepth 100000 in
theorem spec_l1In.calls (a0 : Int) (a1 : Int) (a2 : Int) (r : Bool) (w : World) (h : spec_l1In.f a0 a1 a2 = some r) :
  Calls Try.prog 30 #[.int .i64 a0, .int .i64 a1, .int .i64 a2] w fun e w' => e = .returned (.bool r) ∧ Drawn0 w w' := by
 have H : (if a0 ≥ a1 then (some (decide (a0 ≤ a2))) else (some false)) = some r := h
 clear h
 by_cases c4 : a0 ≥ a1
 ·rw [if_pos c4] at H
  have c4b0 : decide (a1 ≤ a0) = true := decide_eq_true c4
  clear c4
  obtain rfl := Option.some.inj H
  go_enter Try.func30, Try.ntmps30
  go_wp2
  go_ret
  exact ⟨by first | rfl | (simp; done) | (simp [*]; done), by repeat (first | exact Drawn0.refl _ | apply Drawn0.step)⟩
 ·rw [if_neg c4] at H
  have c4b0 : decide (a1 ≤ a0) = false := decide_eq_false c4
  clear c4
  obtain rfl := Option.some.inj H
  go_enter Try.func30, Try.ntmps30
  go_wp2
  go_ret
  exact ⟨by first | rfl | (simp; done) | (simp [*]; done), by repeat (first | exact Drawn0.refl _ | apply Drawn0.step)⟩
mutual
def spec_NearOk.l0 : Nat → Int → List (S60) → List (S36) → Option (Bool)
 | 0, _, _, _ => none
 | k + 1, x3, x105000, x105001 => if x3 < (x105000.length : Int) then (if 0 ≤ x3 then ((spec_l1In.f ((rd_T60 x105000 x3).f0) 0 65535).bind fun t107 => (if t107 = true then ((spec_l1In.f ((rd_T60 x105000 x3).f1) 0 254).bind fun t108 => (if t108 = true then ((spec_l1In.f ((rd_T60 x105000 x3).f2) 0 1000000).bind fun t109 => (spec_NearOk.j1 k x3 (!t109) x105000 x105001 ((rd_T60 x105000 x3).f0) ((rd_T60 x105000 x3).f1) ((rd_T60 x105000 x3).f2))) else (spec_NearOk.j1 k x3 true x105000 x105001 ((rd_T60 x105000 x3).f0) ((rd_T60 x105000 x3).f1) ((rd_T60 x105000 x3).f2)))) else (spec_NearOk.j1 k x3 true x105000 x105001 ((rd_T60 x105000 x3).f0) ((rd_T60 x105000 x3).f1) ((rd_T60 x105000 x3).f2)))) else (none)) else (spec_NearOk.l2 k 0 x105000 x105001)
def spec_NearOk.j1 : Nat → Int → Bool → List (S60) → List (S36) → Int → Int → Int → Option (Bool)
 | 0, _, _, _, _, _, _, _ => none
 | k + 1, x3, x34, x105000, x105001, x107000, x107001, x107002 => if x34 = true then (some false) else (spec_NearOk.l1 k x3 0 x105000 x105001 x107000 x107001 x107002)
def spec_NearOk.l1 : Nat → Int → Int → List (S60) → List (S36) → Int → Int → Int → Option (Bool)
 | 0, _, _, _, _, _, _, _ => none
 | k + 1, x3, x5, x105000, x105001, x107000, x107001, x107002 => if x5 < x3 then (if 0 ≤ x5 then (if x5 < (x105000.length : Int) then (if ((rd_T60 x105000 x5).f0) = x107000 then (some false) else (spec_NearOk.l1 k x3 (wrap64 (x5 + 1)) x105000 x105001 x107000 x107001 x107002)) else (none)) else (none)) else (spec_NearOk.l0 k (wrap64 (x3 + 1)) x105000 x105001)
def spec_NearOk.l2 : Nat → Int → List (S60) → List (S36) → Option (Bool)
 | 0, _, _, _ => none
 | k + 1, x6, x105000, x105001 => if x6 < (x105001.length : Int) then (if 0 ≤ x6 then ((spec_l1In.f ((rd_T36 x105001 x6).f0) 0 65535).bind fun t112 => (if t112 = true then (if (((rd_T36 x105001 x6).f1).length : Int) > 64 then (some false) else (spec_NearOk.l2 k (wrap64 (x6 + 1)) x105000 x105001)) else (some false))) else (none)) else (if (x105000.length : Int) ≤ 4 then (some (decide ((x105001.length : Int) ≤ 4))) else (some false))
end
def spec_NearOk.f (k : Nat) (l0_0 : List (S60)) (l0_1 : List (S36)) : Option (Bool) := spec_NearOk.l0 k 0 l0_0 l0_1
theorem spec_NearOk.mono_l : ∀ k, (∀ y0 y1 y2, LeO (spec_NearOk.l0 k y0 y1 y2) (spec_NearOk.l0 (k + 1) y0 y1 y2)) ∧ (∀ y0 y1 y2 y3 y4 y5 y6, LeO (spec_NearOk.j1 k y0 y1 y2 y3 y4 y5 y6) (spec_NearOk.j1 (k + 1) y0 y1 y2 y3 y4 y5 y6)) ∧ (∀ y0 y1 y2 y3 y4 y5 y6, LeO (spec_NearOk.l1 k y0 y1 y2 y3 y4 y5 y6) (spec_NearOk.l1 (k + 1) y0 y1 y2 y3 y4 y5 y6)) ∧ (∀ y0 y1 y2, LeO (spec_NearOk.l2 k y0 y1 y2) (spec_NearOk.l2 (k + 1) y0 y1 y2))
 | 0 => ⟨fun _ _ _ r h => by simp [spec_NearOk.l0] at h, fun _ _ _ _ _ _ _ r h => by simp [spec_NearOk.j1] at h, fun _ _ _ _ _ _ _ r h => by simp [spec_NearOk.l1] at h, fun _ _ _ r h => by simp [spec_NearOk.l2] at h⟩
 | k + 1 => by
  obtain ⟨ih0, ih1, ih2, ih3⟩ := spec_NearOk.mono_l k
  refine ⟨?_, ?_, ?_, ?_⟩
  ·intro y0 y1 y2
   unfold spec_NearOk.l0
   repeat' first | (with_reducible first | apply ih0 | apply ih1 | apply ih2 | apply ih3 | exact LeO.refl _ | exact LeO.none _ | refine LeO.ite ?_ ?_ | refine LeO.bind ?_ fun _ => ?_) | apply ih0 | apply ih1 | apply ih2 | apply ih3 | exact LeO.none _ | refine LeO.ite ?_ ?_ | refine LeO.bind ?_ fun _ => ?_
  ·intro y0 y1 y2 y3 y4 y5 y6
   unfold spec_NearOk.j1
   repeat' first | (with_reducible first | apply ih0 | apply ih1 | apply ih2 | apply ih3 | exact LeO.refl _ | exact LeO.none _ | refine LeO.ite ?_ ?_ | refine LeO.bind ?_ fun _ => ?_) | apply ih0 | apply ih1 | apply ih2 | apply ih3 | exact LeO.none _ | refine LeO.ite ?_ ?_ | refine LeO.bind ?_ fun _ => ?_
  ·intro y0 y1 y2 y3 y4 y5 y6
   unfold spec_NearOk.l1
   repeat' first | (with_reducible first | apply ih0 | apply ih1 | apply ih2 | apply ih3 | exact LeO.refl _ | exact LeO.none _ | refine LeO.ite ?_ ?_ | refine LeO.bind ?_ fun _ => ?_) | apply ih0 | apply ih1 | apply ih2 | apply ih3 | exact LeO.none _ | refine LeO.ite ?_ ?_ | refine LeO.bind ?_ fun _ => ?_
  ·intro y0 y1 y2
   unfold spec_NearOk.l2
   repeat' first | (with_reducible first | apply ih0 | apply ih1 | apply ih2 | apply ih3 | exact LeO.refl _ | exact LeO.none _ | refine LeO.ite ?_ ?_ | refine LeO.bind ?_ fun _ => ?_) | apply ih0 | apply ih1 | apply ih2 | apply ih3 | exact LeO.none _ | refine LeO.ite ?_ ?_ | refine LeO.bind ?_ fun _ => ?_
theorem spec_NearOk.mono : ∀ a0 a1 k, LeO (spec_NearOk.f k a0 a1) (spec_NearOk.f (k + 1) a0 a1) := by
 intro a0 a1 k
 obtain ⟨ih0, ih1, ih2, ih3⟩ := spec_NearOk.mono_l k
 unfold spec_NearOk.f
 repeat' first | (with_reducible first | apply ih0 | apply ih1 | apply ih2 | apply ih3 | exact LeO.refl _ | exact LeO.none _ | refine LeO.ite ?_ ?_ | refine LeO.bind ?_ fun _ => ?_) | apply ih0 | apply ih1 | apply ih2 | apply ih3 | exact LeO.none _ | refine LeO.ite ?_ ?_ | refine LeO.bind ?_ fun _ => ?_
set_option maxHeartbeats 8000000 in
set_option maxRecDepth 100000 in
theorem spec_NearOk.calls (k : Nat) (A0_0 : Option Addr) (c0_0 : Nat) (l0_0 : List (S60)) (A0_1 : Option Addr) (c0_1 : Nat) (l0_1 : List (S36)) (r : Bool) (w : World) (hr0_0 : Kd.C k60 w A0_0 l0_0.length l0_0) (hc0_0 : l0_0.length ≤ c0_0) (hr0_1 : Kd.C k36 w A0_1 l0_1.length l0_1) (hc0_1 : l0_1.length ≤ c0_1) (h : spec_NearOk.f k l0_0 l0_1 = some r) :
  Calls Try.prog 29 #[.agg #[.slice A0_0 l0_0.length c0_0, .slice A0_1 l0_1.length c0_1]] w fun e w' => e = .returned (.bool r) ∧ Below w.heap.size w w' := by
 have hu26 := Try.underlying26; have hu60 := Try.underlying60; have HR0_0 := Aside0.mk hr0_0; have HC0_0 := Aside0.mk hc0_0; clear hr0_0 hc0_0; have HR0_1 := Aside0.mk hr0_1; have HC0_1 := Aside0.mk hc0_1; clear hr0_1 hc0_1
 have HB := Aside0.mk (Below.refl w.heap.size w)
 have H : (spec_NearOk.l0 k 0 l0_0 l0_1) = some r := h
 clear h
 have H' := Aside0.mk H
 clear H
 go_enter Try.func29, Try.ntmps29
 go_wp2_with (first | ((with_reducible refine gate_dst (N := 1) rfl ?_); (try (refine gate_guard (by rfl) ?_; dsimp only)); refine box_ (N := 1) (cs := #[.slice A0_0 l0_0.length c0_0, .slice A0_1 l0_1.length c0_1]) (t := 26) (fun gb104 hg w2 hbox hb => ?_); have BK104 := Aside0.mk (hbox); have GW104 := ge_ hg HB; have GE104 := ge_ hg HB; replace HB := (bs_ HB hb); clear hb hbox hg))
 repeat (go_quiet (first | ((with_reducible refine gate_dst (N := 1) rfl ?_); (try (refine gate_guard (by rfl) ?_; dsimp only)); refine box_ (N := 1) (cs := #[.slice A0_0 l0_0.length c0_0, .slice A0_1 l0_1.length c0_1]) (t := 26) (fun gb104 hg w2 hbox hb => ?_); have BK104 := Aside0.mk (hbox); have GW104 := ge_ hg HB; have GE104 := ge_ hg HB; replace HB := (bs_ HB hb); clear hb hbox hg)); try go_wp2_with (first | ((with_reducible refine gate_dst (N := 1) rfl ?_); (try (refine gate_guard (by rfl) ?_; dsimp only)); refine box_ (N := 1) (cs := #[.slice A0_0 l0_0.length c0_0, .slice A0_1 l0_1.length c0_1]) (t := 26) (fun gb104 hg w2 hbox hb => ?_); have BK104 := Aside0.mk (hbox); have GW104 := ge_ hg HB; have GE104 := ge_ hg HB; replace HB := (bs_ HB hb); clear hb hbox hg)))
 go_loopg [3] k (fun kq v3 w' => ∃ (x3_1 : Int), v3 = .int .i64 x3_1 ∧ Aside0 (spec_NearOk.l0 kq x3_1 l0_0 l0_1 = some r) ∧ Aside0 (kq ≤ k) ∧ Aside0 (w'.heap[gb104]? = some (.cells #[(.slice A0_0 l0_0.length c0_0), (.slice A0_1 l0_1.length c0_1)] 26 (0, 0))) ∧ Aside0 (Below w.heap.size w w'))
 case atStart => exact ⟨(0), (by first | rfl | (simp; done) | (simp [*]; done)), H', ⟨Nat.le_refl _⟩, ⟨by refine kb_ ?_; exact BK104.out⟩, ⟨hbA_ HB.out⟩⟩
 case round =>
  clear H'; (try clear c2); (try clear p2)
  obtain ⟨x3_1, rfl, HA, HK1, BK104, HB⟩ := hrel
  cases gk with
  | zero => exact absurd HA.out (by simp [spec_NearOk.l0])
  | succ k1 =>
   have H := HA.out; clear HA
   simp only [spec_NearOk.l0] at H
   by_cases c3 : x3_1 < (l0_0.length : Int)
   ·rw [if_pos c3] at H
    have c3b0 : decide (x3_1 < (l0_0.length : Int)) = true := decide_eq_true c3
    clear c3
    by_cases c4 : 0 ≤ x3_1
    ·rw [if_pos c4] at H
     have c4b0 : decide (0 ≤ x3_1) = true := decide_eq_true c4
     clear c4; have HC5 := Aside0.mk H; clear H; have Z6 := zz2 BK104
     have p105 : 0 ≤ (x3_1 : Int) := of_decide_eq_true (by first | (with_reducible assumption) | assumption)
     have q105 : x3_1 < (l0_0.length : Int) := of_decide_eq_true (by first | (with_reducible assumption) | assumption)
     obtain ⟨ad105, e105, hx105_0, hx105_1, hx105_2⟩ := at_T60 HR0_0.out x3_1 p105 q105
     cases e105
     replace hx105_0 := cc_ HB hx105_0
     replace hx105_1 := cc_ HB hx105_1
     replace hx105_2 := cc_ HB hx105_2
     replace p105 := eq_true p105
     replace q105 := eq_true q105
     go_upto_region 5 with (first | ((with_reducible refine gate_dst (N := 4) rfl ?_); (try (refine gate_guard (by rfl) ?_; dsimp only)); refine box_ (N := 4) (cs := #[.int .i64 0, .int .i64 0, .int .i64 0]) (t := 60) (fun gb106 hg w7 hbox hb => ?_); have BK106 := Aside0.mk (hbox); have GW106 := ge_ hg HB; have GE106 := ge_ hg HB; replace HB := (bs_ HB hb); have NB104_106 := nl_ hg BK104; have NB106_104 := ng_ hg BK104; replace BK104 := (bbA_ BK104 hb); clear hb hbox hg; have hnb8 := NB106_104.out; have hnc8 := NB104_106.out; have Z9 := zz3 BK106))
     repeat (go_quiet (first | ((with_reducible refine gate_dst (N := 4) rfl ?_); (try (refine gate_guard (by rfl) ?_; dsimp only)); refine box_ (N := 4) (cs := #[.int .i64 0, .int .i64 0, .int .i64 0]) (t := 60) (fun gb106 hg w7 hbox hb => ?_); have BK106 := Aside0.mk (hbox); have GW106 := ge_ hg HB; have GE106 := ge_ hg HB; replace HB := (bs_ HB hb); have NB104_106 := nl_ hg BK104; have NB106_104 := ng_ hg BK104; replace BK104 := (bbA_ BK104 hb); clear hb hbox hg; have hnb8 := NB106_104.out; have hnc8 := NB104_106.out; have Z9 := zz3 BK106)); go_upto_region 5 with (first | ((with_reducible refine gate_dst (N := 4) rfl ?_); (try (refine gate_guard (by rfl) ?_; dsimp only)); refine box_ (N := 4) (cs := #[.int .i64 0, .int .i64 0, .int .i64 0]) (t := 60) (fun gb106 hg w7 hbox hb => ?_); have BK106 := Aside0.mk (hbox); have GW106 := ge_ hg HB; have GE106 := ge_ hg HB; replace HB := (bs_ HB hb); have NB104_106 := nl_ hg BK104; have NB106_104 := ng_ hg BK104; replace BK104 := (bbA_ BK104 hb); clear hb hbox hg; have hnb8 := NB106_104.out; have hnc8 := NB104_106.out; have Z9 := zz3 BK106)))
     (try simp only [Act.put, List.setIfInBounds_toArray, List.set_cons_zero, List.set_cons_succ])
     go_cut [34] (fun v34 wc => ∃ (kq : Nat) (x34_4 : Bool), v34 = .bool x34_4 ∧ Aside0 (spec_NearOk.j1 kq x3_1 x34_4 l0_0 l0_1 ((rd_T60 l0_0 x3_1).f0) ((rd_T60 l0_0 x3_1).f1) ((rd_T60 l0_0 x3_1).f2) = some r) ∧ Aside0 (kq ≤ k1) ∧ Aside0 (wc.heap[gb104]? = some (.cells #[(.slice (some ad105) l0_0.length c0_0), (.slice A0_1 l0_1.length c0_1)] 26 (0, 0))) ∧ Aside0 (wc.heap[gb106]? = some (.cells #[.int .i64 ((rd_T60 l0_0 x3_1).f0), .int .i64 ((rd_T60 l0_0 x3_1).f1), .int .i64 ((rd_T60 l0_0 x3_1).f2)] 60 (0, 0))) ∧ Aside0 (Below w.heap.size w wc))
     case first =>
      have H := HC5.out; clear HC5
      replace H := Option.bind_eq_some_iff.mp H
      obtain ⟨t107, A100, H⟩ := H
      (try dsimp only at H)
      have A10 := Aside0.mk A100; clear A100
      by_cases c11 : t107 = true
      ·subst c11
       rw [if_pos rfl] at H
       replace H := Option.bind_eq_some_iff.mp H
       obtain ⟨t108, A120, H⟩ := H
       (try dsimp only at H)
       have A12 := Aside0.mk A120; clear A120
       by_cases c13 : t108 = true
       ·subst c13
        rw [if_pos rfl] at H
        replace H := Option.bind_eq_some_iff.mp H
        obtain ⟨t109, A140, H⟩ := H
        (try dsimp only at H)
        have A14 := Aside0.mk A140; clear A140
        have H' := Aside0.mk H
        clear H; have hnb15 := NB106_104.out; have hnc15 := NB104_106.out; have Z16 := zz3 BK106
        go_wp2_with (first | (go_at_call 30; (with_reducible refine (spec_l1In.calls ((rd_T60 l0_0 x3_1).f0) 0 65535 true _ A10.out).mono ?_); rintro e w' ⟨rfl, ⟨nd, rfl⟩⟩; (try first | exact ⟨rfl, _, World.drewN_drewN _ _ _⟩ | exact ⟨rfl, _, Eq.trans (World.drewN_drewN _ _ _) (congrArg (World.drewN _) (Nat.add_assoc _ _ _))⟩)) | (go_at_call 30; (with_reducible refine (spec_l1In.calls ((rd_T60 l0_0 x3_1).f1) 0 254 true _ A12.out).mono ?_); rintro e w' ⟨rfl, ⟨nd, rfl⟩⟩; (try first | exact ⟨rfl, _, World.drewN_drewN _ _ _⟩ | exact ⟨rfl, _, Eq.trans (World.drewN_drewN _ _ _) (congrArg (World.drewN _) (Nat.add_assoc _ _ _))⟩)) | (go_at_call 30; (with_reducible refine (spec_l1In.calls ((rd_T60 l0_0 x3_1).f2) 0 1000000 t109 _ A14.out).mono ?_); rintro e w' ⟨rfl, ⟨nd, rfl⟩⟩; (try first | exact ⟨rfl, _, World.drewN_drewN _ _ _⟩ | exact ⟨rfl, _, Eq.trans (World.drewN_drewN _ _ _) (congrArg (World.drewN _) (Nat.add_assoc _ _ _))⟩)))
        repeat (go_quiet (first | (go_at_call 30; (with_reducible refine (spec_l1In.calls ((rd_T60 l0_0 x3_1).f0) 0 65535 true _ A10.out).mono ?_); rintro e w' ⟨rfl, ⟨nd, rfl⟩⟩; (try first | exact ⟨rfl, _, World.drewN_drewN _ _ _⟩ | exact ⟨rfl, _, Eq.trans (World.drewN_drewN _ _ _) (congrArg (World.drewN _) (Nat.add_assoc _ _ _))⟩)) | (go_at_call 30; (with_reducible refine (spec_l1In.calls ((rd_T60 l0_0 x3_1).f1) 0 254 true _ A12.out).mono ?_); rintro e w' ⟨rfl, ⟨nd, rfl⟩⟩; (try first | exact ⟨rfl, _, World.drewN_drewN _ _ _⟩ | exact ⟨rfl, _, Eq.trans (World.drewN_drewN _ _ _) (congrArg (World.drewN _) (Nat.add_assoc _ _ _))⟩)) | (go_at_call 30; (with_reducible refine (spec_l1In.calls ((rd_T60 l0_0 x3_1).f2) 0 1000000 t109 _ A14.out).mono ?_); rintro e w' ⟨rfl, ⟨nd, rfl⟩⟩; (try first | exact ⟨rfl, _, World.drewN_drewN _ _ _⟩ | exact ⟨rfl, _, Eq.trans (World.drewN_drewN _ _ _) (congrArg (World.drewN _) (Nat.add_assoc _ _ _))⟩))); try go_wp2_with (first | (go_at_call 30; (with_reducible refine (spec_l1In.calls ((rd_T60 l0_0 x3_1).f0) 0 65535 true _ A10.out).mono ?_); rintro e w' ⟨rfl, ⟨nd, rfl⟩⟩; (try first | exact ⟨rfl, _, World.drewN_drewN _ _ _⟩ | exact ⟨rfl, _, Eq.trans (World.drewN_drewN _ _ _) (congrArg (World.drewN _) (Nat.add_assoc _ _ _))⟩)) | (go_at_call 30; (with_reducible refine (spec_l1In.calls ((rd_T60 l0_0 x3_1).f1) 0 254 true _ A12.out).mono ?_); rintro e w' ⟨rfl, ⟨nd, rfl⟩⟩; (try first | exact ⟨rfl, _, World.drewN_drewN _ _ _⟩ | exact ⟨rfl, _, Eq.trans (World.drewN_drewN _ _ _) (congrArg (World.drewN _) (Nat.add_assoc _ _ _))⟩)) | (go_at_call 30; (with_reducible refine (spec_l1In.calls ((rd_T60 l0_0 x3_1).f2) 0 1000000 t109 _ A14.out).mono ?_); rintro e w' ⟨rfl, ⟨nd, rfl⟩⟩; (try first | exact ⟨rfl, _, World.drewN_drewN _ _ _⟩ | exact ⟨rfl, _, Eq.trans (World.drewN_drewN _ _ _) (congrArg (World.drewN _) (Nat.add_assoc _ _ _))⟩))))
        go_meet
        case rel => exact ⟨_, (!t109), (by first | rfl | (simp; done) | (simp [*]; done)), H', ⟨by have := HK1.out; first | omega | exact Nat.le_refl _⟩, ⟨by exact kf_ BK104.out⟩, ⟨by refine kb_ ?_; refine pz3 (cs := #[.int .i64 0, .int .i64 0, .int .i64 0]) ?_; refine kb_ ?_; exact BK106.out⟩, ⟨hbA_ HB.out⟩⟩
       ·replace c13 := Bool.eq_false_iff.mpr c13
        subst c13
        rw [if_neg (show ¬ (false = true) by decide)] at H
        have H' := Aside0.mk H
        clear H; have hnb17 := NB106_104.out; have hnc17 := NB104_106.out; have Z18 := zz3 BK106
        go_wp2_with (first | (go_at_call 30; (with_reducible refine (spec_l1In.calls ((rd_T60 l0_0 x3_1).f0) 0 65535 true _ A10.out).mono ?_); rintro e w' ⟨rfl, ⟨nd, rfl⟩⟩; (try first | exact ⟨rfl, _, World.drewN_drewN _ _ _⟩ | exact ⟨rfl, _, Eq.trans (World.drewN_drewN _ _ _) (congrArg (World.drewN _) (Nat.add_assoc _ _ _))⟩)) | (go_at_call 30; (with_reducible refine (spec_l1In.calls ((rd_T60 l0_0 x3_1).f1) 0 254 false _ A12.out).mono ?_); rintro e w' ⟨rfl, ⟨nd, rfl⟩⟩; (try first | exact ⟨rfl, _, World.drewN_drewN _ _ _⟩ | exact ⟨rfl, _, Eq.trans (World.drewN_drewN _ _ _) (congrArg (World.drewN _) (Nat.add_assoc _ _ _))⟩)))
        repeat (go_quiet (first | (go_at_call 30; (with_reducible refine (spec_l1In.calls ((rd_T60 l0_0 x3_1).f0) 0 65535 true _ A10.out).mono ?_); rintro e w' ⟨rfl, ⟨nd, rfl⟩⟩; (try first | exact ⟨rfl, _, World.drewN_drewN _ _ _⟩ | exact ⟨rfl, _, Eq.trans (World.drewN_drewN _ _ _) (congrArg (World.drewN _) (Nat.add_assoc _ _ _))⟩)) | (go_at_call 30; (with_reducible refine (spec_l1In.calls ((rd_T60 l0_0 x3_1).f1) 0 254 false _ A12.out).mono ?_); rintro e w' ⟨rfl, ⟨nd, rfl⟩⟩; (try first | exact ⟨rfl, _, World.drewN_drewN _ _ _⟩ | exact ⟨rfl, _, Eq.trans (World.drewN_drewN _ _ _) (congrArg (World.drewN _) (Nat.add_assoc _ _ _))⟩))); try go_wp2_with (first | (go_at_call 30; (with_reducible refine (spec_l1In.calls ((rd_T60 l0_0 x3_1).f0) 0 65535 true _ A10.out).mono ?_); rintro e w' ⟨rfl, ⟨nd, rfl⟩⟩; (try first | exact ⟨rfl, _, World.drewN_drewN _ _ _⟩ | exact ⟨rfl, _, Eq.trans (World.drewN_drewN _ _ _) (congrArg (World.drewN _) (Nat.add_assoc _ _ _))⟩)) | (go_at_call 30; (with_reducible refine (spec_l1In.calls ((rd_T60 l0_0 x3_1).f1) 0 254 false _ A12.out).mono ?_); rintro e w' ⟨rfl, ⟨nd, rfl⟩⟩; (try first | exact ⟨rfl, _, World.drewN_drewN _ _ _⟩ | exact ⟨rfl, _, Eq.trans (World.drewN_drewN _ _ _) (congrArg (World.drewN _) (Nat.add_assoc _ _ _))⟩))))
        go_meet
        case rel => exact ⟨_, (true), (by first | rfl | (simp; done) | (simp [*]; done)), H', ⟨by have := HK1.out; first | omega | exact Nat.le_refl _⟩, ⟨by exact kf_ BK104.out⟩, ⟨by refine kb_ ?_; refine pz3 (cs := #[.int .i64 0, .int .i64 0, .int .i64 0]) ?_; refine kb_ ?_; exact BK106.out⟩, ⟨hbA_ HB.out⟩⟩
      ·replace c11 := Bool.eq_false_iff.mpr c11
       subst c11
       rw [if_neg (show ¬ (false = true) by decide)] at H
       have H' := Aside0.mk H
       clear H; have hnb19 := NB106_104.out; have hnc19 := NB104_106.out; have Z20 := zz3 BK106
       go_wp2_with (first | (go_at_call 30; (with_reducible refine (spec_l1In.calls ((rd_T60 l0_0 x3_1).f0) 0 65535 false _ A10.out).mono ?_); rintro e w' ⟨rfl, ⟨nd, rfl⟩⟩; (try first | exact ⟨rfl, _, World.drewN_drewN _ _ _⟩ | exact ⟨rfl, _, Eq.trans (World.drewN_drewN _ _ _) (congrArg (World.drewN _) (Nat.add_assoc _ _ _))⟩)))
       repeat (go_quiet (first | (go_at_call 30; (with_reducible refine (spec_l1In.calls ((rd_T60 l0_0 x3_1).f0) 0 65535 false _ A10.out).mono ?_); rintro e w' ⟨rfl, ⟨nd, rfl⟩⟩; (try first | exact ⟨rfl, _, World.drewN_drewN _ _ _⟩ | exact ⟨rfl, _, Eq.trans (World.drewN_drewN _ _ _) (congrArg (World.drewN _) (Nat.add_assoc _ _ _))⟩))); try go_wp2_with (first | (go_at_call 30; (with_reducible refine (spec_l1In.calls ((rd_T60 l0_0 x3_1).f0) 0 65535 false _ A10.out).mono ?_); rintro e w' ⟨rfl, ⟨nd, rfl⟩⟩; (try first | exact ⟨rfl, _, World.drewN_drewN _ _ _⟩ | exact ⟨rfl, _, Eq.trans (World.drewN_drewN _ _ _) (congrArg (World.drewN _) (Nat.add_assoc _ _ _))⟩))))
       go_meet
       case rel => exact ⟨_, (true), (by first | rfl | (simp; done) | (simp [*]; done)), H', ⟨by have := HK1.out; first | omega | exact Nat.le_refl _⟩, ⟨by exact kf_ BK104.out⟩, ⟨by refine kb_ ?_; refine pz3 (cs := #[.int .i64 0, .int .i64 0, .int .i64 0]) ?_; refine kb_ ?_; exact BK106.out⟩, ⟨hbA_ HB.out⟩⟩
     case rest =>
      clear HC5; (try clear c1); (try clear p1); (try clear q1); (try clear hx1); (try clear c2); (try clear p2); (try clear c3); (try clear c3b0); (try clear c4); (try clear c4b0); (try clear c8); (try clear p10); (try clear q10); (try clear hx10); (try clear c11); (try clear c13); (try clear c15); (try clear c17); (try clear c19); (try clear Z16); (try clear Z18); (try clear Z20); (try clear Z6); (try clear Z9); (try clear hx105_0); (try clear hx105_1); (try clear hx105_2); (try clear p105); (try clear p2); (try clear q105)
      obtain ⟨kq, x34_4, rfl, HA, HJ4, BK104, BK106, HB⟩ := hcut
      cases kq with
      | zero => exact absurd HA.out (by simp [spec_NearOk.j1])
      | succ kj4 =>
       have H := HA.out; clear HA
       simp only [spec_NearOk.j1] at H
       by_cases c21 : x34_4 = true
       ·subst c21
        rw [if_pos rfl] at H
        obtain rfl := Option.some.inj H
        go_wp2
        repeat (go_quiet (fail); try go_wp2)
        go_ret
        exact ⟨by first | rfl | (simp [errW_none, errW_some] <;> rfl) | (simp [*, errW_none, errW_some] <;> rfl), hbA_ HB.out⟩
       ·replace c21 := Bool.eq_false_iff.mpr c21
        subst c21
        rw [if_neg (show ¬ (false = true) by decide)] at H
        have H' := Aside0.mk H
        clear H
        go_wp2
        repeat (go_quiet (fail); try go_wp2)
        go_loopg [5] kj4 (fun kq v5 w' => ∃ (x5_3 : Int), v5 = .int .i64 x5_3 ∧ Aside0 (spec_NearOk.l1 kq x3_1 x5_3 l0_0 l0_1 ((rd_T60 l0_0 x3_1).f0) ((rd_T60 l0_0 x3_1).f1) ((rd_T60 l0_0 x3_1).f2) = some r) ∧ Aside0 (kq ≤ kj4) ∧ Aside0 (w'.heap[gb104]? = some (.cells #[(.slice (some ad105) l0_0.length c0_0), (.slice A0_1 l0_1.length c0_1)] 26 (0, 0))) ∧ Aside0 (w'.heap[gb106]? = some (.cells #[.int .i64 ((rd_T60 l0_0 x3_1).f0), .int .i64 ((rd_T60 l0_0 x3_1).f1), .int .i64 ((rd_T60 l0_0 x3_1).f2)] 60 (0, 0))) ∧ Aside0 (Below w.heap.size w w'))
        case atStart => exact ⟨(0), (by first | rfl | (simp; done) | (simp [*]; done)), H', ⟨Nat.le_refl _⟩, ⟨by refine kb_ ?_; exact BK104.out⟩, ⟨by refine kb_ ?_; exact BK106.out⟩, ⟨hbA_ HB.out⟩⟩
        case round =>
         clear H'; (try clear c1); (try clear p1); (try clear q1); (try clear hx1); (try clear c2); (try clear p2); (try clear c3); (try clear c3b0); (try clear c4); (try clear c4b0); (try clear c8); (try clear p10); (try clear q10); (try clear hx10); (try clear c11); (try clear c13); (try clear c15); (try clear c17); (try clear c19); (try clear c21); (try clear Z16); (try clear Z18); (try clear Z20); (try clear Z6); (try clear Z9); (try clear hx105_0); (try clear hx105_1); (try clear hx105_2); (try clear p1); (try clear p10); (try clear p105); (try clear p2); (try clear q1); (try clear q10); (try clear q105)
         obtain ⟨x5_3, rfl, HA, HK3, BK104, BK106, HB⟩ := hrel
         cases gk with
         | zero => exact absurd HA.out (by simp [spec_NearOk.l1])
         | succ k3 =>
          have H := HA.out; clear HA
          simp only [spec_NearOk.l1] at H
          by_cases c22 : x5_3 < x3_1
          ·rw [if_pos c22] at H
           have c22b0 : decide (x5_3 < x3_1) = true := decide_eq_true c22
           clear c22
           by_cases c23 : 0 ≤ x5_3
           ·rw [if_pos c23] at H
            have c23b0 : decide (0 ≤ x5_3) = true := decide_eq_true c23
            clear c23
            by_cases c24 : x5_3 < (l0_0.length : Int)
            ·rw [if_pos c24] at H
             have c24b0 : decide (x5_3 < (l0_0.length : Int)) = true := decide_eq_true c24
             clear c24
             by_cases c25 : ((rd_T60 l0_0 x5_3).f0) = ((rd_T60 l0_0 x3_1).f0)
             ·rw [if_pos c25] at H
              have c25b0 : (((rd_T60 l0_0 x5_3).f0) == ((rd_T60 l0_0 x3_1).f0)) = true := beq_iff_eq.mpr c25
              have c25b1 : (((rd_T60 l0_0 x5_3).f0) != ((rd_T60 l0_0 x3_1).f0)) = false := bne_eq_false_iff_eq.mpr c25
              clear c25
              obtain rfl := Option.some.inj H
              have hnb26 := NB104_106.out; have hnc26 := NB106_104.out; have Z27 := zz2 BK104
              have p110 : 0 ≤ (x5_3 : Int) := of_decide_eq_true (by first | (with_reducible assumption) | assumption)
              have q110 : x5_3 < (l0_0.length : Int) := of_decide_eq_true (by first | (with_reducible assumption) | assumption)
              obtain ⟨ad110, e110, hx110_0, hx110_1, hx110_2⟩ := at_T60 HR0_0.out x5_3 p110 q110
              obtain rfl : ad105 = ad110 := (by injection e110)
              replace hx110_0 := cc_ HB hx110_0
              replace hx110_1 := cc_ HB hx110_1
              replace hx110_2 := cc_ HB hx110_2
              replace p110 := eq_true p110
              replace q110 := eq_true q110
              have Z28 := zz3 BK106
              go_wp2
              repeat (go_quiet (fail); try go_wp2)
              go_ret
              exact ⟨by first | rfl | (simp [errW_none, errW_some] <;> rfl) | (simp [*, errW_none, errW_some] <;> rfl), hbA_ HB.out⟩
             ·rw [if_neg c25] at H
              have c25b0 : (((rd_T60 l0_0 x5_3).f0) == ((rd_T60 l0_0 x3_1).f0)) = false := beq_eq_false_iff_ne.mpr c25
              have c25b1 : (((rd_T60 l0_0 x5_3).f0) != ((rd_T60 l0_0 x3_1).f0)) = true := bne_iff_ne.mpr c25
              have H' := Aside0.mk H
              clear H; have hnb29 := NB104_106.out; have hnc29 := NB106_104.out; have Z30 := zz2 BK104
              have p110 : 0 ≤ (x5_3 : Int) := of_decide_eq_true (by first | (with_reducible assumption) | assumption)
              have q110 : x5_3 < (l0_0.length : Int) := of_decide_eq_true (by first | (with_reducible assumption) | assumption)
              obtain ⟨ad110, e110, hx110_0, hx110_1, hx110_2⟩ := at_T60 HR0_0.out x5_3 p110 q110
              obtain rfl : ad105 = ad110 := (by injection e110)
              replace hx110_0 := cc_ HB hx110_0
              replace hx110_1 := cc_ HB hx110_1
              replace hx110_2 := cc_ HB hx110_2
              replace p110 := eq_true p110
              replace q110 := eq_true q110
              have Z31 := zz3 BK106
              go_wp2
              repeat (go_quiet (fail); try go_wp2)
              go_roundg k3
              case measure => have := HK1.out; have := HJ4.out; have := HK3.out; omega
              case rel => exact ⟨(wrap64 (x5_3 + 1)), (by first | rfl | (simp; done) | (simp [*]; done)), H', ⟨by have := HK1.out; have := HJ4.out; have := HK3.out; omega⟩, ⟨by refine kb_ ?_; exact BK104.out⟩, ⟨by refine kb_ ?_; exact BK106.out⟩, ⟨hbA_ HB.out⟩⟩
            ·rw [if_neg c24] at H
             exact absurd H (by simp)
           ·rw [if_neg c23] at H
            exact absurd H (by simp)
          ·rw [if_neg c22] at H
           have c22b0 : decide (x5_3 < x3_1) = false := decide_eq_false c22
           clear c22
           have H' := Aside0.mk H
           clear H
           go_wp2
           repeat (go_quiet (fail); try go_wp2)
           go_roundg k3
           case measure => have := HK1.out; have := HJ4.out; have := HK3.out; omega
           case rel => exact ⟨(wrap64 (x3_1 + 1)), (by first | rfl | (simp; done) | (simp [*]; done)), H', ⟨by have := HK1.out; have := HJ4.out; have := HK3.out; omega⟩, ⟨by refine kb_ ?_; exact BK104.out⟩, ⟨hbA_ HB.out⟩⟩
    ·rw [if_neg c4] at H
     exact absurd H (by simp)
   ·rw [if_neg c3] at H
    have c3b0 : decide (x3_1 < (l0_0.length : Int)) = false := decide_eq_false c3
    clear c3
    have H' := Aside0.mk H
    clear H; have Z32 := zz2 BK104
    go_wp2
    repeat (go_quiet (fail); try go_wp2)
    go_loopg [6] k1 (fun kq v6 w' => ∃ (x6_2 : Int), v6 = .int .i64 x6_2 ∧ Aside0 (spec_NearOk.l2 kq x6_2 l0_0 l0_1 = some r) ∧ Aside0 (kq ≤ k1) ∧ Aside0 (w'.heap[gb104]? = some (.cells #[(.slice A0_0 l0_0.length c0_0), (.slice A0_1 l0_1.length c0_1)] 26 (0, 0))) ∧ Aside0 (Below w.heap.size w w'))
    case atStart => exact ⟨(0), (by first | rfl | (simp; done) | (simp [*]; done)), H', ⟨Nat.le_refl _⟩, ⟨by refine kb_ ?_; exact BK104.out⟩, ⟨hbA_ HB.out⟩⟩
    case round =>
     clear H'; (try clear c1); (try clear p1); (try clear q1); (try clear hx1); (try clear c2); (try clear p2); (try clear c3); (try clear c3b0); (try clear c4); (try clear c4b0); (try clear p6); (try clear c8); (try clear p10); (try clear q10); (try clear hx10); (try clear c11); (try clear p11); (try clear q11); (try clear hx11); (try clear c13); (try clear c15); (try clear c17); (try clear c19); (try clear c21); (try clear c22); (try clear c22b0); (try clear c23); (try clear c23b0); (try clear c24); (try clear c24b0); (try clear c25); (try clear c25b0); (try clear c25b1); (try clear c26); (try clear c29); (try clear Z16); (try clear Z18); (try clear Z20); (try clear Z27); (try clear Z28); (try clear Z30); (try clear Z31); (try clear Z32); (try clear Z6); (try clear Z9); (try clear hx105_0); (try clear hx105_1); (try clear hx105_2); (try clear hx110_0); (try clear hx110_1); (try clear hx110_2); (try clear p1); (try clear p10); (try clear p105); (try clear p110); (try clear p2); (try clear q1); (try clear q10); (try clear q105); (try clear q110)
     obtain ⟨x6_2, rfl, HA, HK2, BK104, HB⟩ := hrel
     cases gk with
     | zero => exact absurd HA.out (by simp [spec_NearOk.l2])
     | succ k2 =>
      have H := HA.out; clear HA
      simp only [spec_NearOk.l2] at H
      by_cases c33 : x6_2 < (l0_1.length : Int)
      ·rw [if_pos c33] at H
       have c33b0 : decide (x6_2 < (l0_1.length : Int)) = true := decide_eq_true c33
       clear c33
       by_cases c34 : 0 ≤ x6_2
       ·rw [if_pos c34] at H
        have c34b0 : decide (0 ≤ x6_2) = true := decide_eq_true c34
        clear c34
        replace H := Option.bind_eq_some_iff.mp H
        obtain ⟨t112, A350, H⟩ := H
        (try dsimp only at H)
        have A35 := Aside0.mk A350; clear A350
        by_cases c36 : t112 = true
        ·subst c36
         rw [if_pos rfl] at H
         by_cases c37 : (((rd_T36 l0_1 x6_2).f1).length : Int) > 64
         ·rw [if_pos c37] at H
          have c37b0 : decide (64 < (((rd_T36 l0_1 x6_2).f1).length : Int)) = true := decide_eq_true c37
          have c37b1 : decide (64 < ((rd_T36 l0_1 x6_2).f1).length) = true := decide_eq_true (by omega)
          clear c37
          obtain rfl := Option.some.inj H
          have Z38 := zz2 BK104
          have p111 : 0 ≤ (x6_2 : Int) := of_decide_eq_true (by first | (with_reducible assumption) | assumption)
          have q111 : x6_2 < (l0_1.length : Int) := of_decide_eq_true (by first | (with_reducible assumption) | assumption)
          obtain ⟨ad111, A111_1, c111_1, e111, hx111_0, hx111_1, hl111_1, hi111_1⟩ := at_T36 HR0_1.out x6_2 p111 q111
          cases e111
          replace hx111_0 := cc_ HB hx111_0
          replace hx111_1 := cc_ HB hx111_1
          have HR111_1 := Aside0.mk hi111_1; have HC111_1 := Aside0.mk hl111_1; clear hi111_1 hl111_1
          replace p111 := eq_true p111
          replace q111 := eq_true q111
          go_wp2_with (first | (go_at_call 30; (with_reducible refine (spec_l1In.calls ((rd_T36 l0_1 x6_2).f0) 0 65535 true _ A35.out).mono ?_); rintro e w' ⟨rfl, ⟨nd, rfl⟩⟩; (try first | exact ⟨rfl, _, World.drewN_drewN _ _ _⟩ | exact ⟨rfl, _, Eq.trans (World.drewN_drewN _ _ _) (congrArg (World.drewN _) (Nat.add_assoc _ _ _))⟩); have p113 : 0 ≤ (x6_2 : Int) := of_decide_eq_true (by first | (with_reducible assumption) | assumption); have q113 : x6_2 < (l0_1.length : Int) := of_decide_eq_true (by first | (with_reducible assumption) | assumption); obtain ⟨ad113, A113_1, c113_1, e113, hx113_0, hx113_1, hl113_1, hi113_1⟩ := at_T36 HR0_1.out x6_2 p113 q113; obtain rfl : ad111 = ad113 := (by injection e113); replace hx113_0 := cc_ HB hx113_0; replace hx113_1 := cc_ HB hx113_1; have HR113_1 := Aside0.mk hi113_1; have HC113_1 := Aside0.mk hl113_1; clear hi113_1 hl113_1; replace p113 := eq_true p113; replace q113 := eq_true q113; have ea_ := Option.some.inj (hx111_1.symm.trans hx113_1); injection ea_ with ea_ en_ ec_; subst ea_; subst ec_; clear en_))
          repeat (go_quiet (first | (go_at_call 30; (with_reducible refine (spec_l1In.calls ((rd_T36 l0_1 x6_2).f0) 0 65535 true _ A35.out).mono ?_); rintro e w' ⟨rfl, ⟨nd, rfl⟩⟩; (try first | exact ⟨rfl, _, World.drewN_drewN _ _ _⟩ | exact ⟨rfl, _, Eq.trans (World.drewN_drewN _ _ _) (congrArg (World.drewN _) (Nat.add_assoc _ _ _))⟩); have p113 : 0 ≤ (x6_2 : Int) := of_decide_eq_true (by first | (with_reducible assumption) | assumption); have q113 : x6_2 < (l0_1.length : Int) := of_decide_eq_true (by first | (with_reducible assumption) | assumption); obtain ⟨ad113, A113_1, c113_1, e113, hx113_0, hx113_1, hl113_1, hi113_1⟩ := at_T36 HR0_1.out x6_2 p113 q113; obtain rfl : ad111 = ad113 := (by injection e113); replace hx113_0 := cc_ HB hx113_0; replace hx113_1 := cc_ HB hx113_1; have HR113_1 := Aside0.mk hi113_1; have HC113_1 := Aside0.mk hl113_1; clear hi113_1 hl113_1; replace p113 := eq_true p113; replace q113 := eq_true q113; have ea_ := Option.some.inj (hx111_1.symm.trans hx113_1); injection ea_ with ea_ en_ ec_; subst ea_; subst ec_; clear en_)); try go_wp2_with (first | (go_at_call 30; (with_reducible refine (spec_l1In.calls ((rd_T36 l0_1 x6_2).f0) 0 65535 true _ A35.out).mono ?_); rintro e w' ⟨rfl, ⟨nd, rfl⟩⟩; (try first | exact ⟨rfl, _, World.drewN_drewN _ _ _⟩ | exact ⟨rfl, _, Eq.trans (World.drewN_drewN _ _ _) (congrArg (World.drewN _) (Nat.add_assoc _ _ _))⟩); have p113 : 0 ≤ (x6_2 : Int) := of_decide_eq_true (by first | (with_reducible assumption) | assumption); have q113 : x6_2 < (l0_1.length : Int) := of_decide_eq_true (by first | (with_reducible assumption) | assumption); obtain ⟨ad113, A113_1, c113_1, e113, hx113_0, hx113_1, hl113_1, hi113_1⟩ := at_T36 HR0_1.out x6_2 p113 q113; obtain rfl : ad111 = ad113 := (by injection e113); replace hx113_0 := cc_ HB hx113_0; replace hx113_1 := cc_ HB hx113_1; have HR113_1 := Aside0.mk hi113_1; have HC113_1 := Aside0.mk hl113_1; clear hi113_1 hl113_1; replace p113 := eq_true p113; replace q113 := eq_true q113; have ea_ := Option.some.inj (hx111_1.symm.trans hx113_1); injection ea_ with ea_ en_ ec_; subst ea_; subst ec_; clear en_)))
          go_ret
          exact ⟨by first | rfl | (simp [errW_none, errW_some] <;> rfl) | (simp [*, errW_none, errW_some] <;> rfl), hbA_ HB.out⟩
         ·rw [if_neg c37] at H
          have c37b0 : decide (64 < (((rd_T36 l0_1 x6_2).f1).length : Int)) = false := decide_eq_false c37
          have c37b1 : decide (64 < ((rd_T36 l0_1 x6_2).f1).length) = false := decide_eq_false (by omega)
          clear c37
          have H' := Aside0.mk H
          clear H; have Z39 := zz2 BK104
          have p111 : 0 ≤ (x6_2 : Int) := of_decide_eq_true (by first | (with_reducible assumption) | assumption)
          have q111 : x6_2 < (l0_1.length : Int) := of_decide_eq_true (by first | (with_reducible assumption) | assumption)
          obtain ⟨ad111, A111_1, c111_1, e111, hx111_0, hx111_1, hl111_1, hi111_1⟩ := at_T36 HR0_1.out x6_2 p111 q111
          cases e111
          replace hx111_0 := cc_ HB hx111_0
          replace hx111_1 := cc_ HB hx111_1
          have HR111_1 := Aside0.mk hi111_1; have HC111_1 := Aside0.mk hl111_1; clear hi111_1 hl111_1
          replace p111 := eq_true p111
          replace q111 := eq_true q111
          go_wp2_with (first | (go_at_call 30; (with_reducible refine (spec_l1In.calls ((rd_T36 l0_1 x6_2).f0) 0 65535 true _ A35.out).mono ?_); rintro e w' ⟨rfl, ⟨nd, rfl⟩⟩; (try first | exact ⟨rfl, _, World.drewN_drewN _ _ _⟩ | exact ⟨rfl, _, Eq.trans (World.drewN_drewN _ _ _) (congrArg (World.drewN _) (Nat.add_assoc _ _ _))⟩); have p113 : 0 ≤ (x6_2 : Int) := of_decide_eq_true (by first | (with_reducible assumption) | assumption); have q113 : x6_2 < (l0_1.length : Int) := of_decide_eq_true (by first | (with_reducible assumption) | assumption); obtain ⟨ad113, A113_1, c113_1, e113, hx113_0, hx113_1, hl113_1, hi113_1⟩ := at_T36 HR0_1.out x6_2 p113 q113; obtain rfl : ad111 = ad113 := (by injection e113); replace hx113_0 := cc_ HB hx113_0; replace hx113_1 := cc_ HB hx113_1; have HR113_1 := Aside0.mk hi113_1; have HC113_1 := Aside0.mk hl113_1; clear hi113_1 hl113_1; replace p113 := eq_true p113; replace q113 := eq_true q113; have ea_ := Option.some.inj (hx111_1.symm.trans hx113_1); injection ea_ with ea_ en_ ec_; subst ea_; subst ec_; clear en_))
          repeat (go_quiet (first | (go_at_call 30; (with_reducible refine (spec_l1In.calls ((rd_T36 l0_1 x6_2).f0) 0 65535 true _ A35.out).mono ?_); rintro e w' ⟨rfl, ⟨nd, rfl⟩⟩; (try first | exact ⟨rfl, _, World.drewN_drewN _ _ _⟩ | exact ⟨rfl, _, Eq.trans (World.drewN_drewN _ _ _) (congrArg (World.drewN _) (Nat.add_assoc _ _ _))⟩); have p113 : 0 ≤ (x6_2 : Int) := of_decide_eq_true (by first | (with_reducible assumption) | assumption); have q113 : x6_2 < (l0_1.length : Int) := of_decide_eq_true (by first | (with_reducible assumption) | assumption); obtain ⟨ad113, A113_1, c113_1, e113, hx113_0, hx113_1, hl113_1, hi113_1⟩ := at_T36 HR0_1.out x6_2 p113 q113; obtain rfl : ad111 = ad113 := (by injection e113); replace hx113_0 := cc_ HB hx113_0; replace hx113_1 := cc_ HB hx113_1; have HR113_1 := Aside0.mk hi113_1; have HC113_1 := Aside0.mk hl113_1; clear hi113_1 hl113_1; replace p113 := eq_true p113; replace q113 := eq_true q113; have ea_ := Option.some.inj (hx111_1.symm.trans hx113_1); injection ea_ with ea_ en_ ec_; subst ea_; subst ec_; clear en_)); try go_wp2_with (first | (go_at_call 30; (with_reducible refine (spec_l1In.calls ((rd_T36 l0_1 x6_2).f0) 0 65535 true _ A35.out).mono ?_); rintro e w' ⟨rfl, ⟨nd, rfl⟩⟩; (try first | exact ⟨rfl, _, World.drewN_drewN _ _ _⟩ | exact ⟨rfl, _, Eq.trans (World.drewN_drewN _ _ _) (congrArg (World.drewN _) (Nat.add_assoc _ _ _))⟩); have p113 : 0 ≤ (x6_2 : Int) := of_decide_eq_true (by first | (with_reducible assumption) | assumption); have q113 : x6_2 < (l0_1.length : Int) := of_decide_eq_true (by first | (with_reducible assumption) | assumption); obtain ⟨ad113, A113_1, c113_1, e113, hx113_0, hx113_1, hl113_1, hi113_1⟩ := at_T36 HR0_1.out x6_2 p113 q113; obtain rfl : ad111 = ad113 := (by injection e113); replace hx113_0 := cc_ HB hx113_0; replace hx113_1 := cc_ HB hx113_1; have HR113_1 := Aside0.mk hi113_1; have HC113_1 := Aside0.mk hl113_1; clear hi113_1 hl113_1; replace p113 := eq_true p113; replace q113 := eq_true q113; have ea_ := Option.some.inj (hx111_1.symm.trans hx113_1); injection ea_ with ea_ en_ ec_; subst ea_; subst ec_; clear en_)))
          go_roundg k2
          case measure => have := HK1.out; have := HK2.out; omega
          case rel => exact ⟨(wrap64 (x6_2 + 1)), (by first | rfl | (simp; done) | (simp [*]; done)), H', ⟨by have := HK1.out; have := HK2.out; omega⟩, ⟨by refine kb_ ?_; exact BK104.out⟩, ⟨hbA_ HB.out⟩⟩
        ·replace c36 := Bool.eq_false_iff.mpr c36
         subst c36
         rw [if_neg (show ¬ (false = true) by decide)] at H
         obtain rfl := Option.some.inj H
         have Z40 := zz2 BK104
         have p111 : 0 ≤ (x6_2 : Int) := of_decide_eq_true (by first | (with_reducible assumption) | assumption)
         have q111 : x6_2 < (l0_1.length : Int) := of_decide_eq_true (by first | (with_reducible assumption) | assumption)
         obtain ⟨ad111, A111_1, c111_1, e111, hx111_0, hx111_1, hl111_1, hi111_1⟩ := at_T36 HR0_1.out x6_2 p111 q111
         cases e111
         replace hx111_0 := cc_ HB hx111_0
         replace hx111_1 := cc_ HB hx111_1
         have HR111_1 := Aside0.mk hi111_1; have HC111_1 := Aside0.mk hl111_1; clear hi111_1 hl111_1
         replace p111 := eq_true p111
         replace q111 := eq_true q111
         go_wp2_with (first | (go_at_call 30; (with_reducible refine (spec_l1In.calls ((rd_T36 l0_1 x6_2).f0) 0 65535 false _ A35.out).mono ?_); rintro e w' ⟨rfl, ⟨nd, rfl⟩⟩; (try first | exact ⟨rfl, _, World.drewN_drewN _ _ _⟩ | exact ⟨rfl, _, Eq.trans (World.drewN_drewN _ _ _) (congrArg (World.drewN _) (Nat.add_assoc _ _ _))⟩)))
         repeat (go_quiet (first | (go_at_call 30; (with_reducible refine (spec_l1In.calls ((rd_T36 l0_1 x6_2).f0) 0 65535 false _ A35.out).mono ?_); rintro e w' ⟨rfl, ⟨nd, rfl⟩⟩; (try first | exact ⟨rfl, _, World.drewN_drewN _ _ _⟩ | exact ⟨rfl, _, Eq.trans (World.drewN_drewN _ _ _) (congrArg (World.drewN _) (Nat.add_assoc _ _ _))⟩))); try go_wp2_with (first | (go_at_call 30; (with_reducible refine (spec_l1In.calls ((rd_T36 l0_1 x6_2).f0) 0 65535 false _ A35.out).mono ?_); rintro e w' ⟨rfl, ⟨nd, rfl⟩⟩; (try first | exact ⟨rfl, _, World.drewN_drewN _ _ _⟩ | exact ⟨rfl, _, Eq.trans (World.drewN_drewN _ _ _) (congrArg (World.drewN _) (Nat.add_assoc _ _ _))⟩))))
         go_ret
         exact ⟨by first | rfl | (simp [errW_none, errW_some] <;> rfl) | (simp [*, errW_none, errW_some] <;> rfl), hbA_ HB.out⟩
       ·rw [if_neg c34] at H
        exact absurd H (by simp)
      ·rw [if_neg c33] at H
       have c33b0 : decide (x6_2 < (l0_1.length : Int)) = false := decide_eq_false c33
       clear c33
       by_cases c41 : (l0_0.length : Int) ≤ 4
       ·rw [if_pos c41] at H
        have c41b0 : decide ((l0_0.length : Int) ≤ 4) = true := decide_eq_true c41
        have c41b1 : decide (l0_0.length ≤ 4) = true := decide_eq_true (by omega)
        clear c41
        obtain rfl := Option.some.inj H
        have Z42 := zz2 BK104
        go_wp2
        repeat (go_quiet (fail); try go_wp2)
        go_ret
        exact ⟨by first | rfl | (simp [errW_none, errW_some] <;> rfl) | (simp [*, errW_none, errW_some] <;> rfl), hbA_ HB.out⟩
       ·rw [if_neg c41] at H
        have c41b0 : decide ((l0_0.length : Int) ≤ 4) = false := decide_eq_false c41
        have c41b1 : decide (l0_0.length ≤ 4) = false := decide_eq_false (by omega)
        clear c41
        obtain rfl := Option.some.inj H
        have Z43 := zz2 BK104
        go_wp2
        repeat (go_quiet (fail); try go_wp2)
        go_ret
        exact ⟨by first | rfl | (simp [errW_none, errW_some] <;> rfl) | (simp [*, errW_none, errW_some] <;> rfl), hbA_ HB.out⟩
def spec_l3Copy.l0 : Nat → Int → List (S60) → List (S36) → List (S60) → List (S36) → Option ((List (S60)) × (List (S36)))
 | 0, _, _, _, _, _ => none
 | k + 1, x4, x115000, x115001, x123000, x123001 => if x4 < (x115001.length : Int) then (if 0 ≤ x4 then ((some (([] : List Int) : List Int)).bind fun y124 => (if y124.length + ((rd_T36 x115001 x4).f1).length < 140737488355328 then (if x123001.length < 4398046511104 then (spec_l3Copy.l0 k (wrap64 (x4 + 1)) x115000 x115001 x123000 (x123001 ++ [(⟨(rd_T36 x115001 x4).f0, (y124 ++ ((rd_T36 x115001 x4).f1))⟩ : S36)])) else (none)) else (none))) else (none)) else (some (x123000, x123001))
def spec_l3Copy.f (k : Nat) (l0_0 : List (S60)) (l0_1 : List (S36)) : Option ((List (S60)) × (List (S36))) := (some (([] : List (S60)) : List (S60))).bind fun y116 => (if y116.length + l0_0.length < 5864062014805 then (spec_l3Copy.l0 k 0 l0_0 l0_1 (y116 ++ l0_0) ([] : List (S36))) else (none))
theorem spec_l3Copy.mono_l : ∀ k, (∀ y0 y1 y2 y3 y4, LeO (spec_l3Copy.l0 k y0 y1 y2 y3 y4) (spec_l3Copy.l0 (k + 1) y0 y1 y2 y3 y4))
 | 0 => fun _ _ _ _ _ r h => by simp [spec_l3Copy.l0] at h
 | k + 1 => by
  have ih0 := spec_l3Copy.mono_l k
  ·intro y0 y1 y2 y3 y4
   unfold spec_l3Copy.l0
   repeat' first | (with_reducible first | apply ih0 | exact LeO.refl _ | exact LeO.none _ | refine LeO.ite ?_ ?_ | refine LeO.bind ?_ fun _ => ?_) | apply ih0 | exact LeO.none _ | refine LeO.ite ?_ ?_ | refine LeO.bind ?_ fun _ => ?_
theorem spec_l3Copy.mono : ∀ a0 a1 k, LeO (spec_l3Copy.f k a0 a1) (spec_l3Copy.f (k + 1) a0 a1) := by
 intro a0 a1 k
 have ih0 := spec_l3Copy.mono_l k
 unfold spec_l3Copy.f
 repeat' first | (with_reducible first | apply ih0 | exact LeO.refl _ | exact LeO.none _ | refine LeO.ite ?_ ?_ | refine LeO.bind ?_ fun _ => ?_) | apply ih0 | exact LeO.none _ | refine LeO.ite ?_ ?_ | refine LeO.bind ?_ fun _ => ?_
def spec_l3Copy.T5 : Bool × List (List Nat × List Nat) := (true, [([], []), ([0], [0]), ([], []), ([2], [2]), ([], []), ([3, 4], [3, 4]), ([5], [5]), ([6], [6]), ([], []), ([], []), ([9], [9]), ([], []), ([10, 11], [10, 11]), ([12], [12]), ([13], [13]), ([8, 14], [8, 14]), ([7, 15], [7, 15]), ([16], [16]), ([1, 17, 15], [1, 17]), ([0, 1, 2, 3, 4, 5, 6, 7, 8, 9, 10, 11, 12, 13, 14, 15, 16, 17, 18], []), ([19, 18, 18, 0, 1, 2, 3, 4, 5, 6, 7, 8, 9, 10, 11, 12, 13, 14, 15, 16, 17, 18], [18, 19])])
def spec_l3Copy.B5 : List Nat := [0, 1, 0, 4, 0, 28, 60, 124, 0, 0, 512, 0, 3584, 7680, 15872, 32512, 65532, 131068, 262143, 524287, 1048575]
theorem spec_l3Copy.tab5 : rtab .any (opsOf Try.f31 5) = spec_l3Copy.T5 := by kernel_rfl
theorem spec_l3Copy.bits5 : waitsOk spec_l3Copy.T5.2 spec_l3Copy.B5 = true := by kernel_rfl
set_option maxHeartbeats 8000000 in
set_option maxRecDepth 100000 in
theorem spec_l3Copy.calls (k : Nat) (A0_0 : Option Addr) (c0_0 : Nat) (l0_0 : List (S60)) (A0_1 : Option Addr) (c0_1 : Nat) (l0_1 : List (S36)) (r1 : List (S60)) (r2 : List (S36)) (w : World) (hr0_0 : Kd.C k60 w A0_0 l0_0.length l0_0) (hc0_0 : l0_0.length ≤ c0_0) (hr0_1 : Kd.C k36 w A0_1 l0_1.length l0_1) (hc0_1 : l0_1.length ≤ c0_1) (h : spec_l3Copy.f k l0_0 l0_1 = some (r1, r2)) :
  Calls Try.prog 31 #[.agg #[.slice A0_0 l0_0.length c0_0, .slice A0_1 l0_1.length c0_1]] w fun e w' => ∃ v0_ v1_ : Value, e = .returned (.agg #[v0_, v1_]) ∧ Kd.R k60 60 w' w.heap.size (fun _ => True) v0_ r1 ∧ Kd.S k36 36 w' w.heap.size (fun _ => True) v1_ r2 ∧ Below w.heap.size w w' := by
 have hu26 := Try.underlying26; have hu36 := Try.underlying36; have HR0_0 := Aside0.mk hr0_0; have HC0_0 := Aside0.mk hc0_0; clear hr0_0 hc0_0; have HR0_1 := Aside0.mk hr0_1; have HC0_1 := Aside0.mk hc0_1; clear hr0_1 hc0_1
 have HB := Aside0.mk (Below.refl w.heap.size w)
 have H : ((some (([] : List (S60)) : List (S60))).bind fun y116 => (if y116.length + l0_0.length < 5864062014805 then (spec_l3Copy.l0 k 0 l0_0 l0_1 (y116 ++ l0_0) ([] : List (S36))) else (none))) = some (r1, r2) := h
 clear h
 obtain ⟨y116, hy116⟩ : ∃ y_ : List (S60), y_ = (([] : List (S60))) := ⟨_, rfl⟩
 (first | replace H := sb_ hy116 H | rw [← hy116] at H)
 have Ny116 := Aside0.mk hy116; clear hy116
 by_cases c2 : y116.length + l0_0.length < 5864062014805
 ·rw [if_pos c2] at H
  have LMc2 := Aside0.mk c2; clear c2
  obtain ⟨y119, hy119⟩ : ∃ y_ : List (S60), y_ = (y116 ++ l0_0) := ⟨_, rfl⟩
  (first | replace H := sb_ hy119 H | rw [← hy119] at H)
  have Ny119 := Aside0.mk hy119; clear hy119
  have H' := Aside0.mk H
  clear H
  go_enter Try.func31, Try.ntmps31
  go_wp2_with (first | ((with_reducible refine gate_dst (N := 1) rfl ?_); refine box_ (N := 1) (cs := #[.slice A0_0 l0_0.length c0_0, .slice A0_1 l0_1.length c0_1]) (t := 26) (fun gb114 hg w3 hbox hb => ?_); have BK114 := Aside0.mk (hbox); have GW114 := ge_ hg HB; have GE114 := ge_ hg HB; replace HB := (bs_ HB hb); clear hb hbox hg) | ((with_reducible refine gate_dst (N := 2) rfl ?_); refine box_ (N := 2) (cs := #[.slice none 0 0, .slice none 0 0]) (t := 26) (fun gb115 hg w4 hbox hb => ?_); have BK115 := Aside0.mk (hbox); have GW115 := ge_ hg HB; have GE115 := ge_ hg HB; replace HB := (bs_ HB hb); have NB114_115 := nl_ hg BK114; have NB115_114 := ng_ hg BK114; replace BK114 := (bbA_ BK114 hb); clear hb hbox hg) | ((with_reducible refine gate_dst (N := 5) rfl ?_); refine Kd.R_lit k60 _ 60 ?hg (N := 5) ?hd (xs := ([] : List (S60))) (inner := []) (ok := fun _ => True) (okp := fun _ => True) ?hr ?hp (fun _ hk => hk) trivial (Below.refl _ _) (Nat.le_refl _) (by simp) ?_; (case hd => rfl); (case hg => rfl); (case hr => first | (go_simp; done) | (go_simp; rfl)); (case hp => exact (Reps.none _ _)); intro v117 w5 ho6 hb hg_ hnew_; clear hg_ hnew_; (first | rw [← Ny116.out] at ho6 | (simp only [Int.reduceToNat] at ho6; rw [← Ny116.out] at ho6)); have HO118 := Aside0.mk (Kd.R_lower ho6 (below_size (hbA_ HB.out))); replace BK114 := (bbA_ BK114 hb); replace BK115 := (bbA_ BK115 hb); replace HB := (bs_ HB hb); clear hb ho6; have hnb7 := NB114_115.out; have hnc7 := NB115_114.out; have Z8 := zz2 BK114) | ((with_reducible refine gate_builtin (b := .append) (xs := #[.tmp 5, .tmp 7]) rfl ?_); at_builtin; refine Kd.R_append_rows k60 (w0 := w) w.heap.size rfl (.tmp 5) (.tmp 7) 23 60 (.agg #[(.int .i64 0), (.int .i64 0), (.int .i64 0)]) 24 rfl Try.underlying23 info60 rfl (by decide) (by omega) v117 y116 l0_0 _ _ _ (fun _ => True) (fun _ => False) rfl rfl ?aO ?aR (fun _ _ h => h) (fun _ h => h.elim) ?aF ?aB ?aS ?aL ?_; (case aR => exact kC_ (Kd.C_below HR0_0.out HB.out)); (case aB => exact (hbA_ HB.out)); (case aF => exact (fun _ _ => trivial)); (case aO => exact (kR_ HO118.out)); (case aS => exact (below_size (hbA_ HB.out))); (case aL => have := LMc2.out; omega); intro v120 w9 ho hb hg hat; rw [← Ny119.out] at ho; replace BK114 := (bgA_ BK114 hg (Kd.R_ne HO118.out BK114.out (by decide))); replace BK115 := (bgA_ BK115 hg (Kd.R_ne HO118.out BK115.out (by decide))); replace HB := Aside0.mk (hb); have HO121 := Aside0.mk (ho); clear HO118; clear ho hb hg hat; obtain ⟨Ao10, co10, eo10⟩ := Kd.R_slice HO121.out; subst eo10) | ((with_reducible refine gate_dst (N := 3) rfl ?_); refine box_ (N := 3) (cs := #[.slice none 0 0, .slice none 0 0]) (t := 26) (fun gb122 hg w11 hbox hb => ?_); replace HO121 := Aside0.mk (Kd.R_below (kR_ HO121.out) hb); have BK122 := Aside0.mk (hbox); have GW122 := ge_ hg HB; have GE122 := ge_ hg HB; replace HB := (bs_ HB hb); have NB114_122 := nl_ hg BK114; have NB122_114 := ng_ hg BK114; replace BK114 := (bbA_ BK114 hb); have NB115_122 := nl_ hg BK115; have NB122_115 := ng_ hg BK115; replace BK115 := (bbA_ BK115 hb); clear hb hbox hg; have hnb12 := NB122_114.out; have hnc12 := NB114_122.out; have hnb13 := NB122_115.out; have hnc13 := NB115_122.out; have Z14 := zz2 BK122))
  go_loopg [4] k (fun kq v4 w' => ∃ (x4_1 : Int) (x123001_1 : List (S36)) (u123001 : Value), v4 = .int .i64 x4_1 ∧ Aside0 (spec_l3Copy.l0 kq x4_1 l0_0 l0_1 y119 x123001_1 = some (r1, r2)) ∧ Aside0 (kq ≤ k) ∧ Aside0 (Kd.R k60 60 w' w.heap.size (fun _ => True) (.slice Ao10 y119.length co10) y119) ∧ Aside0 (Kd.S k36 36 w' w.heap.size (fun _ => True) u123001 x123001_1) ∧ Aside0 (w'.heap[gb114]? = some (.cells #[(.slice A0_0 l0_0.length c0_0), (.slice A0_1 l0_1.length c0_1)] 26 (0, 0))) ∧ Aside0 (w'.heap[gb115]? = some (.cells #[(.slice none 0 0), (.slice none 0 0)] 26 (0, 0))) ∧ Aside0 (w'.heap[gb122]? = some (.cells #[(.slice Ao10 y119.length co10), u123001] 26 (0, 0))) ∧ Aside0 (Below w.heap.size w w'))
  case atStart => exact ⟨(0), (([] : List (S36))), (.slice none 0 0), (by first | rfl | (simp; done) | (simp [*]; done)), H', ⟨Nat.le_refl _⟩, ⟨by refine kR_ ?_; exact rfm_ ((Kd.R_types HO121.out BK122.out (by decide))) (fun _ hk => trivial)⟩, ⟨by first | exact Kd.S_nil _ _ _ _ _ | exact Kd.N_nil _ _ _ _ _ | exact Kd.V_nil _ _ _ _ _ | exact Kd.Q_nil _ _ _ _ _ | exact Kd.R_nil _ _ _ _ _⟩, ⟨by exact kf_ BK114.out⟩, ⟨by exact kf_ BK115.out⟩, ⟨by refine kb_ ?_; refine pz2 (cs := #[.slice none 0 0, .slice none 0 0]) ?_; refine kb_ ?_; exact BK122.out⟩, ⟨hbA_ HB.out⟩⟩
  case round =>
   clear H'; (try clear c1); (try clear c2); (try clear p2); (try clear c3); (try clear c7); (try clear c12); (try clear c13); (try clear Z14); (try clear Z8)
   obtain ⟨x4_1, x123001_1, u123001, rfl, HA, HK1, HO_123000, HO_123001, BK114, BK115, BK122, HB⟩ := hrel
   cases gk with
   | zero => exact absurd HA.out (by simp [spec_l3Copy.l0])
   | succ k1 =>
    have H := HA.out; clear HA
    simp only [spec_l3Copy.l0] at H
    by_cases c15 : x4_1 < (l0_1.length : Int)
    ·rw [if_pos c15] at H
     have c15b0 : decide (x4_1 < (l0_1.length : Int)) = true := decide_eq_true c15
     clear c15
     by_cases c16 : 0 ≤ x4_1
     ·rw [if_pos c16] at H
      have c16b0 : decide (0 ≤ x4_1) = true := decide_eq_true c16
      clear c16
      obtain ⟨y124, hy124⟩ : ∃ y_ : List Int, y_ = (([] : List Int)) := ⟨_, rfl⟩
      (first | replace H := sb_ hy124 H | rw [← hy124] at H)
      have Ny124 := Aside0.mk hy124; clear hy124
      by_cases c17 : y124.length + ((rd_T36 l0_1 x4_1).f1).length < 140737488355328
      ·rw [if_pos c17] at H
       have LMc17 := Aside0.mk c17; clear c17
       obtain ⟨y128, hy128⟩ : ∃ y_ : List Int, y_ = (y124 ++ ((rd_T36 l0_1 x4_1).f1)) := ⟨_, rfl⟩
       (first | replace H := sb_ hy128 H | rw [← hy128] at H)
       have Ny128 := Aside0.mk hy128; clear hy128
       by_cases c18 : x123001_1.length < 4398046511104
       ·rw [if_pos c18] at H
        have LMc18 := Aside0.mk c18; clear c18
        obtain ⟨y131, hy131⟩ : ∃ y_ : List (S36), y_ = (x123001_1 ++ [(⟨(rd_T36 l0_1 x4_1).f0, y128⟩ : S36)]) := ⟨_, rfl⟩
        (first | replace H := sb_ hy131 H | rw [← hy131] at H)
        have Ny131 := Aside0.mk hy131; clear hy131
        have H' := Aside0.mk H
        clear H; have hnb19 := NB114_115.out; have hnc19 := NB115_114.out; have hnb20 := NB114_122.out; have hnc20 := NB122_114.out; have Z21 := zz2 BK114
        try go_wp2
        replace HO_123000 := Aside0.mk (Kd.R_drew HO_123000.out); replace HO_123001 := Aside0.mk (Kd.S_drew HO_123001.out); replace BK114 := Aside0.mk (blk_drew BK114.out); replace BK115 := Aside0.mk (blk_drew BK115.out); replace BK122 := Aside0.mk (blk_drew BK122.out); replace HB := (bd_ HB)
        have p123 : 0 ≤ (x4_1 : Int) := of_decide_eq_true (by first | (with_reducible assumption) | assumption)
        have q123 : x4_1 < (l0_1.length : Int) := of_decide_eq_true (by first | (with_reducible assumption) | assumption)
        obtain ⟨ad123, A123_1, c123_1, e123, hx123_0, hx123_1, hl123_1, hi123_1⟩ := at_T36 HR0_1.out x4_1 p123 q123
        have hw123_1 := hx123_1; have hw123_0 := hx123_0
        cases e123
        replace hx123_0 := cc_ HB hx123_0
        replace hx123_1 := cc_ HB hx123_1
        have HR123_1 := Aside0.mk hi123_1; have HC123_1 := Aside0.mk hl123_1; clear hi123_1 hl123_1
        replace p123 := eq_true p123
        replace q123 := eq_true q123
        have p127 : 0 ≤ (x4_1 : Int) := of_decide_eq_true (by first | (with_reducible assumption) | assumption)
        have q127 : x4_1 < (l0_1.length : Int) := of_decide_eq_true (by first | (with_reducible assumption) | assumption)
        obtain ⟨ad127, A127_1, c127_1, e127, hx127_0, hx127_1, hl127_1, hi127_1⟩ := at_T36 HR0_1.out x4_1 p127 q127
        have hw127_1 := hx127_1; have hw127_0 := hx127_0
        obtain rfl : ad123 = ad127 := (by injection e127)
        replace hx127_0 := cc_ HB hx127_0
        replace hx127_1 := cc_ HB hx127_1
        have HR127_1 := Aside0.mk hi127_1; have HC127_1 := Aside0.mk hl127_1; clear hi127_1 hl127_1
        replace p127 := eq_true p127
        replace q127 := eq_true q127
        have ea_ := Option.some.inj (hx123_1.symm.trans hx127_1)
        injection ea_ with ea_ en_ ec_
        subst ea_; subst ec_; clear en_
        refine start_ (n := 21) (S := fun w' => w'.cell? ⟨gb122, 0, none⟩ = some (.slice Ao10 y119.length co10) ∧ w'.cell? ⟨gb122, 1, none⟩ = some (u123001) ∧ w'.cell? ⟨gb114, 0, none⟩ = some (.slice A0_0 l0_0.length c0_0) ∧ w'.cell? ⟨gb114, 1, none⟩ = some (.slice (some ad123) l0_1.length c0_1) ∧ w'.cell? (ad123.add ((x4_1).toNat * 2)) = some (.int .i64 ((rd_T36 l0_1 x4_1).f0)) ∧ w'.cell? ⟨(ad123.add ((x4_1).toNat * 2)).block, (ad123.add ((x4_1).toNat * 2)).off + 1, none⟩ = some (.slice A123_1 ((rd_T36 l0_1 x4_1).f1).length c123_1) ∧ w'.cell? (ad123.add ((x4_1).toNat * 2)) = some (.int .i64 ((rd_T36 l0_1 x4_1).f0)) ∧ w'.cell? ⟨(ad123.add ((x4_1).toNat * 2)).block, (ad123.add ((x4_1).toNat * 2)).off + 1, none⟩ = some (.slice A123_1 ((rd_T36 l0_1 x4_1).f1).length c123_1)) (ds := [20]) #[false, false, false, false, false, false, false, false, false, false, false, false, false, false, false, false, false, false, false, false, false] (by kernel_rfl) rfl rfl ⟨bc_ BK122 0, bc_ BK122 1, bc_ BK114 0, bc_ BK114 1, (cc_ HB hw123_0), (cc_ HB hw123_1), (cc_ HB hw127_0), (cc_ HB hw127_1)⟩ (fun hHeld => ?_); refine with_tabW spec_l3Copy.tab5 spec_l3Copy.bits5 (fun HT_ HW_ => ?_)
        generalize wr.drew = w22 at HO_123000 HO_123001 BK114 BK115 BK122 HB HR123_1 HR127_1 hx123_0 hx123_1 hx127_0 hx127_1 hHeld ⊢
        refine pu_ (i := 0) (N := some 17) HT_ ?_; refine pu_ (i := 2) (N := some 19) HT_ ?_; refine pu_ (i := 4) (N := some 21) HT_ ?_; refine pu_ (i := 9) (N := some 26) HT_ ?_; refine pu_ (i := 11) (N := some 28) HT_ ?_; refine tk_ (i := 1) (N := some 18) HT_ HW_ hHeld ?_; refine tk_ (i := 3) (N := some 20) HT_ HW_ hHeld ?_; refine pu_ (i := 5) (N := some 22) HT_ ?_; refine pu_ (i := 6) (N := some 23) HT_ ?_; refine tk_ (i := 7) (N := some 24) HT_ HW_ hHeld ?_; refine tk_ (i := 10) (N := some 27) HT_ HW_ hHeld ?_; refine pu_ (i := 12) (N := some 29) HT_ ?_; refine pu_ (i := 13) (N := some 30) HT_ ?_; refine tk_ (i := 14) (N := some 31) HT_ HW_ hHeld ?_
        refine on_ (i := 8) (N := some 25) HT_ (fun K hK => ?_)
        refine Kd.R_lit_step (Kd.int .u8) _ 5 ?hg (N := 25) ?hd (xs := ([] : List Int)) (inner := []) (ok := fun _ => True) (okp := fun _ => True) ?hr ?hp (fun _ hk => hk) trivial (Below.refl _ _) (Nat.le_refl _) (by simp) ?_; (case hd => rfl); (case hg => rfl); (case hr => first | (go_simp; done) | (go_simp; rfl)); (case hp => exact (Reps.none _ _))
        intro v125 w23 ho24 hb hg_ hnew_
        clear hg_ hnew_
        (first | rw [← Ny124.out] at ho24 | (simp only [Int.reduceToNat] at ho24; rw [← Ny124.out] at ho24))
        have n0_ := Aside0.mk (Kd.R_below (kR_ HO_123000.out) hb); have n1_ := Aside0.mk (Kd.S_elder' (kS_ HO_123001.out) (Kd.R_base ho24) hb); have n2_ := Aside0.mk (Kd.R_lower ho24 (below_size (hbA_ HB.out))); have n3_ := (bbA_ BK114 hb); have n4_ := (bbA_ BK115 hb); have n5_ := (bbA_ BK122 hb); have n6_ := (bs_ HB hb); clear HO_123000 HO_123001 BK114 BK115 BK122 HB; have HO_123000 := n0_; have HO_123001 := n1_; have HO126 := n2_; have BK114 := n3_; have BK115 := n4_; have BK122 := n5_; have HB := n6_; clear n0_ n1_ n2_ n3_ n4_ n5_ n6_ hb ho24
        refine hK.out _ _ ⟨bc_ BK122 0, bc_ BK122 1, bc_ BK114 0, bc_ BK114 1, (by first | exact cc_ HB hw123_0 | exact cc_ ⟨hbA_ HB.out⟩ hw123_0), (by first | exact cc_ HB hw123_1 | exact cc_ ⟨hbA_ HB.out⟩ hw123_1), (by first | exact cc_ HB hw127_0 | exact cc_ ⟨hbA_ HB.out⟩ hw127_0), (by first | exact cc_ HB hw127_1 | exact cc_ ⟨hbA_ HB.out⟩ hw127_1)⟩ (fun hHeld => ?_)
        clear hK K; refine nm_ 25 ?_
        refine on_ (i := 15) (N := some 32) HT_ (fun K hK => ?_)
        refine Kd.R_append_rows_step (Kd.int .u8) (w0 := w) w.heap.size (by rfl) (.tmp 25) (.tmp 31) 22 5 (.int .u8 0) 1 rfl Try.underlying22 info5 rfl (by decide) (by omega) v125 y124 ((rd_T36 l0_1 x4_1).f1) _ _ _ (fun _ => True) (fun _ => False) rfl rfl ?aO ?aR (fun _ _ h => h) (fun _ h => h.elim) ?aF ?aB ?aS ?aL ?_
        (case aR => exact kC_ (Kd.C_below HR127_1.out HB.out))
        (case aB => exact (hbA_ HB.out))
        (case aF => exact (fun _ _ => trivial))
        (case aO => exact (kR_ HO126.out))
        (case aS => exact (below_size (hbA_ HB.out)))
        (case aL => have := LMc17.out; omega)
        intro v129 w25 ho hb hg hat
        rw [← Ny128.out] at ho
        have n0_ := Aside0.mk (Kd.R_over' (kR_ HO_123000.out) (Kd.R_typed (kR_ HO126.out)) (by decide) hg); have n1_ := Aside0.mk (Kd.S_after (ok := (fun _ => True)) (kS_ HO_123001.out) hg hat); have n2_ := (bgA_ BK114 hg (Kd.R_ne HO126.out BK114.out (by decide))); have n3_ := (bgA_ BK115 hg (Kd.R_ne HO126.out BK115.out (by decide))); have n4_ := (bgA_ BK122 hg (Kd.R_ne HO126.out BK122.out (by decide))); have n5_ := Aside0.mk (hb); have n6_ := Aside0.mk (ho); clear HO_123000 HO_123001 BK114 BK115 BK122 HB HO126; have HO_123000 := n0_; have HO_123001 := n1_; have BK114 := n2_; have BK115 := n3_; have BK122 := n4_; have HB := n5_; have HO130 := n6_; clear n0_ n1_ n2_ n3_ n4_ n5_ n6_ ho hb hg hat
        obtain ⟨Ao26, co26, eo26⟩ := Kd.R_slice HO130.out
        (first | subst eo26 | (injection eo26 with f1_ f2_ f3_; have f4_ := f1_.symm; have f5_ := f3_.symm; clear f1_ f2_ f3_; subst f4_; subst f5_))
        refine hK.out _ _ ⟨bc_ BK122 0, bc_ BK122 1, bc_ BK114 0, bc_ BK114 1, (by first | exact cc_ HB hw123_0 | exact cc_ ⟨hbA_ HB.out⟩ hw123_0), (by first | exact cc_ HB hw123_1 | exact cc_ ⟨hbA_ HB.out⟩ hw123_1), (by first | exact cc_ HB hw127_0 | exact cc_ ⟨hbA_ HB.out⟩ hw127_0), (by first | exact cc_ HB hw127_1 | exact cc_ ⟨hbA_ HB.out⟩ hw127_1)⟩ (fun hHeld => ?_)
        clear hK K; refine nm_ 32 ?_; refine pu_ (i := 16) (N := some 33) HT_ ?_
        refine on_ (i := 17) (N := some 34) HT_ (fun K hK => ?_)
        refine value_ (w1 := ?_) (v := ?_) (by rfl) rfl ?_ ?_
        rotate_left 2
        ·go_simp
         constructor
         ·rfl
         ·rfl
        refine hK.out _ _ ⟨(blk_cell (blk_alloc BK122.out _) 0).trans rfl, (blk_cell (blk_alloc BK122.out _) 1).trans rfl, (blk_cell (blk_alloc BK114.out _) 0).trans rfl, (blk_cell (blk_alloc BK114.out _) 1).trans rfl, (World.cell?_alloc_lt _ _ _ (World.block_lt_of_cell? _ _ ((by first | exact cc_ HB hw123_0 | exact cc_ ⟨hbA_ HB.out⟩ hw123_0)))).trans ((by first | exact cc_ HB hw123_0 | exact cc_ ⟨hbA_ HB.out⟩ hw123_0)), (World.cell?_alloc_lt _ _ _ (World.block_lt_of_cell? _ _ ((by first | exact cc_ HB hw123_1 | exact cc_ ⟨hbA_ HB.out⟩ hw123_1)))).trans ((by first | exact cc_ HB hw123_1 | exact cc_ ⟨hbA_ HB.out⟩ hw123_1)), (World.cell?_alloc_lt _ _ _ (World.block_lt_of_cell? _ _ ((by first | exact cc_ HB hw127_0 | exact cc_ ⟨hbA_ HB.out⟩ hw127_0)))).trans ((by first | exact cc_ HB hw127_0 | exact cc_ ⟨hbA_ HB.out⟩ hw127_0)), (World.cell?_alloc_lt _ _ _ (World.block_lt_of_cell? _ _ ((by first | exact cc_ HB hw127_1 | exact cc_ ⟨hbA_ HB.out⟩ hw127_1)))).trans ((by first | exact cc_ HB hw127_1 | exact cc_ ⟨hbA_ HB.out⟩ hw127_1))⟩ (fun hHeld => ?_)
        clear hK K; refine nm_ 34 ?_
        refine on_ (i := 18) (N := some 35) HT_ (fun K hK => ?_)
        refine Kd.S_append_step k36 (w0 := w) w.heap.size (by rfl) (.tmp 18) (.tmp 34) 24 36 (.agg #[(.int .i64 0), (.slice none 0 0)]) 32 rfl Try.underlying24 info36 rfl (by decide) (by omega) u123001 x123001_1 (⟨(rd_T36 l0_1 x4_1).f0, y128⟩ : S36) [.int .i64 ((rd_T36 l0_1 x4_1).f0), .slice Ao26 y128.length co26] (fun _ => True) (fun k_ => some k_ = (.slice Ao26 y128.length co26 : Value).ownBlock) rfl rfl ?aP (fun k_ hk_ => ((Kd.R_mono (ok' := fun k_ => ((fun _ => True)) k_ ∧ some k_ ≠ (u123001 : Value).ownBlock) (Kd.R_apart' (HO130.out) (Kd.S_typed HO_123001.out) (by decide)) (fun k_ hk => ⟨trivial, hk.2⟩))).1 k_ hk_.symm) ?aF ?aO ?aB ?aS ?aL ?_
        (case aP => exact k36_mkM _ _ _ (⟨(rd_T36 l0_1 x4_1).f0, y128⟩ : S36) (Kd.R_mono (Kd.R_tight rfl (Kd.R_mono (ok' := fun k_ => ((fun _ => True)) k_ ∧ some k_ ≠ (u123001 : Value).ownBlock) (Kd.R_apart' (HO130.out) (Kd.S_typed HO_123001.out) (by decide)) (fun k_ hk => ⟨trivial, hk.2⟩))) (fun _ h_ => h_)))
        (case aB => exact (hbA_ HB.out))
        (case aF => exact (fun _ _ => trivial))
        (case aO => exact (by refine kS_ ?_; exact Kd.S_mono HO_123001.out (fun k_ hk => ⟨trivial, fun e_ => hk.2 e_⟩)))
        (case aS => exact (below_size (hbA_ HB.out)))
        (case aL => have := LMc18.out; omega)
        intro v132 w27 ho hb hg hat
        rw [← Ny131.out] at ho
        have n0_ := Aside0.mk (Kd.R_over' (kR_ HO_123000.out) (Kd.S_typed (kS_ HO_123001.out)) (by decide) hg); have n1_ := (bgA_ BK114 hg (Kd.S_ne HO_123001.out BK114.out (by decide))); have n2_ := (bgA_ BK115 hg (Kd.S_ne HO_123001.out BK115.out (by decide))); have n3_ := (bgA_ BK122 hg (Kd.S_ne HO_123001.out BK122.out (by decide))); have n4_ := Aside0.mk (hb); have n5_ := Aside0.mk (ho); clear HO_123000 BK114 BK115 BK122 HB HO_123001 HO130; have HO_123000 := n0_; have BK114 := n1_; have BK115 := n2_; have BK122 := n3_; have HB := n4_; have HO133 := n5_; clear n0_ n1_ n2_ n3_ n4_ n5_ ho hb hg hat
        obtain ⟨Ao28, co28, eo28⟩ := Kd.S_slice HO133.out
        (first | subst eo28 | (injection eo28 with f1_ f2_ f3_; have f4_ := f1_.symm; have f5_ := f3_.symm; clear f1_ f2_ f3_; subst f4_; subst f5_))
        refine hK.out _ _ ⟨bc_ BK122 0, bc_ BK122 1, bc_ BK114 0, bc_ BK114 1, (by first | exact cc_ HB hw123_0 | exact cc_ ⟨hbA_ HB.out⟩ hw123_0), (by first | exact cc_ HB hw123_1 | exact cc_ ⟨hbA_ HB.out⟩ hw123_1), (by first | exact cc_ HB hw127_0 | exact cc_ ⟨hbA_ HB.out⟩ hw127_0), (by first | exact cc_ HB hw127_1 | exact cc_ ⟨hbA_ HB.out⟩ hw127_1)⟩ (fun hHeld => ?_)
        clear hK K; refine nm_ 35 ?_; refine pu_ (i := 19) (N := some 36) HT_ ?_
        refine last_ (i := 20) (N := none) #[true, true, true, true, true, true, true, true, true, true, true, true, true, true, true, true, true, true, true, true, true] rfl rfl (one_of HT_.out (by kernel_rfl)) (by decide) (fun K hK => ?_)
        have hs29 : w27.cell? ⟨gb122, 1, none⟩ = some (u123001) := bc_ BK122 1
        have hfs29 := blk_frozen BK122.out 1
        have hns29_0 := NB114_122.out; have hns29_1 := NB115_122.out; have hms29_0 := NB122_114.out; have hms29_1 := NB122_115.out
        refine skip_ (w1 := ?_) (by rfl) rfl ?_ ?_
        rotate_left
        ·go_simp
         rfl
        refine hK.out _ _ ?_
        clear hK K
        refine done_ (done_of HT_.out (by kernel_rfl)) ?_
        try go_wp2
        go_roundg k1
        case measure => have := HK1.out; omega
        case rel => exact ⟨(wrap64 (x4_1 + 1)), (y131), (.slice Ao28 y131.length co28), (by first | rfl | (simp; done) | (simp [*]; done)), H', ⟨by have := HK1.out; omega⟩, ⟨by refine kR_ ?_; exact Kd.R_mono (Kd.R_f gb122 1 (.slice Ao28 y131.length co28) (Kd.R_types HO_123000.out BK122.out (by decide))) (fun _ hk => trivial)⟩, ⟨by refine kS_ ?_; exact Kd.S_mono (Kd.S_far (p := ⟨gb122, 1, none⟩) (Kd.S_types HO133.out BK122.out (by decide)) (fun _ hk => hk.2) (.slice Ao28 y131.length co28)) (fun _ hk => trivial)⟩, ⟨by exact kf_ BK114.out⟩, ⟨by exact kf_ BK115.out⟩, ⟨by refine kb_ ?_; refine blk_put (cs := #[.slice Ao10 y119.length co10, u123001]) ?_ 1 _ rfl; refine kb_ ?_; exact BK122.out⟩, ⟨hbA_ HB.out⟩⟩
       ·rw [if_neg c18] at H
        exact absurd H (by simp)
      ·rw [if_neg c17] at H
       exact absurd H (by simp)
     ·rw [if_neg c16] at H
      exact absurd H (by simp)
    ·rw [if_neg c15] at H
     have c15b0 : decide (x4_1 < (l0_1.length : Int)) = false := decide_eq_false c15
     clear c15
     simp only [Option.some.injEq, Prod.mk.injEq] at H
     obtain ⟨rfl, rfl⟩ := H
     have hnb30 := NB114_115.out; have hnc30 := NB115_114.out; have hnb31 := NB114_122.out; have hnc31 := NB122_114.out; have Z32 := zz2 BK114; have hnb33 := NB122_115.out; have hnc33 := NB115_122.out; have Z34 := zz2 BK122; have Z35 := zz2 BK115
     obtain ⟨Ao36, co36, eo36⟩ := Kd.S_slice HO_123001.out
     subst eo36
     go_wp2
     refine bodyPost_ret (results_cell_row rfl _ _ gb115 26 #[.slice Ao10 y119.length co10, .slice Ao36 x123001_1.length co36] (0, 0) _ rfl (by refine kb_ ?_; refine pz2 (cs := #[.slice none 0 0, .slice none 0 0]) ?_; refine kb_ ?_; exact BK115.out) Try.underlying26 rfl (by kernel_rfl)) rfl ?_
     exact ⟨_, _, by first | rfl | (simp [errW_none, errW_some] <;> rfl) | (simp [*, errW_none, errW_some] <;> rfl), by refine kR_ ?_; exact rfm_ ((Kd.R_types HO_123000.out BK115.out (by decide))) (fun _ hk => trivial), by refine kS_ ?_; exact Kd.S_mono (Kd.S_far (p := ⟨gb115, 1, none⟩) (Kd.S_far (p := ⟨gb115, 0, none⟩) (Kd.S_types HO_123001.out BK115.out (by decide)) (fun _ hk => hk.2) (.slice Ao10 y119.length co10)) (fun _ hk => hk.2) (.slice Ao36 x123001_1.length co36)) (fun _ hk => trivial), hbA_ HB.out⟩
 ·rw [if_neg c2] at H
  exact absurd H (by simp)
mutual
def spec_NearFind.l0 : Nat → Int → Int → Int → List (S60) → List (S36) → Option (Int)
 | 0, _, _, _, _, _ => none
 | k + 1, x1, x2, x7, x135000, x135001 => if x7 < (x135000.length : Int) then ((spec_NearOk.f k x135000 x135001).bind fun t135 => (spec_NearFind.j1 k x1 x2 x7 t135 x135000 x135001)) else (spec_NearFind.j1 k x1 x2 x7 false x135000 x135001)
def spec_NearFind.j1 : Nat → Int → Int → Int → Bool → List (S60) → List (S36) → Option (Int)
 | 0, _, _, _, _, _, _ => none
 | k + 1, x1, x2, x7, x16, x135000, x135001 => if x16 = true then (if 0 ≤ x7 then (if x7 < (x135000.length : Int) then (if ((rd_T60 x135000 x7).f0) = x1 then (if ((rd_T60 x135000 x7).f2) > x2 then (some ((rd_T60 x135000 x7).f1)) else (spec_NearFind.l0 k x1 x2 (wrap64 (x7 + 1)) x135000 x135001)) else (spec_NearFind.l0 k x1 x2 (wrap64 (x7 + 1)) x135000 x135001)) else (none)) else (none)) else (some (-1))
end
def spec_NearFind.f (k : Nat) (l0_0 : List (S60)) (l0_1 : List (S36)) (a1 : Int) (a2 : Int) : Option (Int) := spec_NearFind.l0 k a1 a2 0 l0_0 l0_1
theorem spec_NearFind.mono_l : ∀ k, (∀ y0 y1 y2 y3 y4, LeO (spec_NearFind.l0 k y0 y1 y2 y3 y4) (spec_NearFind.l0 (k + 1) y0 y1 y2 y3 y4)) ∧ (∀ y0 y1 y2 y3 y4 y5, LeO (spec_NearFind.j1 k y0 y1 y2 y3 y4 y5) (spec_NearFind.j1 (k + 1) y0 y1 y2 y3 y4 y5))
 | 0 => ⟨fun _ _ _ _ _ r h => by simp [spec_NearFind.l0] at h, fun _ _ _ _ _ _ r h => by simp [spec_NearFind.j1] at h⟩
 | k + 1 => by
  obtain ⟨ih0, ih1⟩ := spec_NearFind.mono_l k
  refine ⟨?_, ?_⟩
  ·intro y0 y1 y2 y3 y4
   unfold spec_NearFind.l0
   repeat' first | (with_reducible first | apply ih0 | apply ih1 | apply spec_NearOk.mono | exact LeO.refl _ | exact LeO.none _ | refine LeO.ite ?_ ?_ | refine LeO.bind ?_ fun _ => ?_) | apply ih0 | apply ih1 | apply spec_NearOk.mono | exact LeO.none _ | refine LeO.ite ?_ ?_ | refine LeO.bind ?_ fun _ => ?_
  ·intro y0 y1 y2 y3 y4 y5
   unfold spec_NearFind.j1
   repeat' first | (with_reducible first | apply ih0 | apply ih1 | apply spec_NearOk.mono | exact LeO.refl _ | exact LeO.none _ | refine LeO.ite ?_ ?_ | refine LeO.bind ?_ fun _ => ?_) | apply ih0 | apply ih1 | apply spec_NearOk.mono | exact LeO.none _ | refine LeO.ite ?_ ?_ | refine LeO.bind ?_ fun _ => ?_
theorem spec_NearFind.mono : ∀ a0 a1 a2 a3 k, LeO (spec_NearFind.f k a0 a1 a2 a3) (spec_NearFind.f (k + 1) a0 a1 a2 a3) := by
 intro a0 a1 a2 a3 k
 obtain ⟨ih0, ih1⟩ := spec_NearFind.mono_l k
 unfold spec_NearFind.f
 repeat' first | (with_reducible first | apply ih0 | apply ih1 | apply spec_NearOk.mono | exact LeO.refl _ | exact LeO.none _ | refine LeO.ite ?_ ?_ | refine LeO.bind ?_ fun _ => ?_) | apply ih0 | apply ih1 | apply spec_NearOk.mono | exact LeO.none _ | refine LeO.ite ?_ ?_ | refine LeO.bind ?_ fun _ => ?_
set_option maxHeartbeats 8000000 in
set_option maxRecDepth 100000 in
theorem spec_NearFind.calls (k : Nat) (A0_0 : Option Addr) (c0_0 : Nat) (l0_0 : List (S60)) (A0_1 : Option Addr) (c0_1 : Nat) (l0_1 : List (S36)) (a1 : Int) (a2 : Int) (r : Int) (w : World) (hr0_0 : Kd.C k60 w A0_0 l0_0.length l0_0) (hc0_0 : l0_0.length ≤ c0_0) (hr0_1 : Kd.C k36 w A0_1 l0_1.length l0_1) (hc0_1 : l0_1.length ≤ c0_1) (h : spec_NearFind.f k l0_0 l0_1 a1 a2 = some r) :
  Calls Try.prog 32 #[.agg #[.slice A0_0 l0_0.length c0_0, .slice A0_1 l0_1.length c0_1], .int .i64 a1, .int .i64 a2] w fun e w' => e = .returned (.int .i64 r) ∧ Below w.heap.size w w' := by
 have hu26 := Try.underlying26; have HR0_0 := Aside0.mk hr0_0; have HC0_0 := Aside0.mk hc0_0; clear hr0_0 hc0_0; have HR0_1 := Aside0.mk hr0_1; have HC0_1 := Aside0.mk hc0_1; clear hr0_1 hc0_1
 have HB := Aside0.mk (Below.refl w.heap.size w)
 have H : (spec_NearFind.l0 k a1 a2 0 l0_0 l0_1) = some r := h
 clear h
 have H' := Aside0.mk H
 clear H
 go_enter Try.func32, Try.ntmps32
 go_wp2_with (first | ((with_reducible refine gate_dst (N := 3) rfl ?_); refine box_ (N := 3) (cs := #[.slice A0_0 l0_0.length c0_0, .slice A0_1 l0_1.length c0_1]) (t := 26) (fun gb134 hg w4 hbox hb => ?_); have BK134 := Aside0.mk (hbox); have GW134 := ge_ hg HB; have GE134 := ge_ hg HB; replace HB := (bs_ HB hb); clear hb hbox hg))
 go_loopg [7] k (fun kq v7 w' => ∃ (x7_1 : Int), v7 = .int .i64 x7_1 ∧ Aside0 (spec_NearFind.l0 kq a1 a2 x7_1 l0_0 l0_1 = some r) ∧ Aside0 (kq ≤ k) ∧ Aside0 (w'.heap[gb134]? = some (.cells #[(.slice A0_0 l0_0.length c0_0), (.slice A0_1 l0_1.length c0_1)] 26 (0, 0))) ∧ Aside0 (Below w.heap.size w w'))
 case atStart => exact ⟨(0), (by first | rfl | (simp; done) | (simp [*]; done)), H', ⟨Nat.le_refl _⟩, ⟨by refine kb_ ?_; exact BK134.out⟩, ⟨hbA_ HB.out⟩⟩
 case round =>
  clear H'; (try clear p2); (try clear c3)
  obtain ⟨x7_1, rfl, HA, HK1, BK134, HB⟩ := hrel
  cases gk with
  | zero => exact absurd HA.out (by simp [spec_NearFind.l0])
  | succ k1 =>
   have H := HA.out; clear HA
   simp only [spec_NearFind.l0] at H
   have HC5 := Aside0.mk H; clear H
   go_upto_region 2 with (fail)
   go_cut [16] (fun v16 wc => ∃ (kq : Nat) (x16_4 : Bool), v16 = .bool x16_4 ∧ Aside0 (spec_NearFind.j1 kq a1 a2 x7_1 x16_4 l0_0 l0_1 = some r) ∧ Aside0 (kq ≤ k1) ∧ Aside0 (wc.heap[gb134]? = some (.cells #[(.slice A0_0 l0_0.length c0_0), (.slice A0_1 l0_1.length c0_1)] 26 (0, 0))) ∧ Aside0 (Below w.heap.size w wc))
   case first =>
    have H := HC5.out; clear HC5
    by_cases c6 : x7_1 < (l0_0.length : Int)
    ·rw [if_pos c6] at H
     have c6b0 : decide (x7_1 < (l0_0.length : Int)) = true := decide_eq_true c6
     clear c6
     (first | rw [c6b0] | (simp only [i64_w, i32_w]; rw [c6b0]) | skip)
     replace H := Option.bind_eq_some_iff.mp H
     obtain ⟨t135, A70, H⟩ := H
     (try dsimp only at H)
     have A7 := Aside0.mk A70; clear A70
     have H' := Aside0.mk H
     clear H; have Z8 := zz2 BK134
     go_wp2_with (first | (go_at_call 29; (with_reducible refine (spec_NearOk.calls k1 _ _ l0_0 _ _ l0_1 t135 _ ?side1 ?side2 ?side3 ?side4 A7.out).mono ?_); (case side1 => exact kC_ (Kd.C_below HR0_0.out HB.out)); (case side2 => exact HC0_0.out); (case side3 => exact kC_ (Kd.C_below HR0_1.out HB.out)); (case side4 => exact HC0_1.out); rintro e w9 ⟨rfl, hb⟩; replace BK134 := (bbA_ BK134 hb); replace HB := (bs_ HB hb); (try clear hb); (try clear hb2); (try clear hk); (try clear hi)))
     go_meet
     case rel => exact ⟨_, (t135), (by first | rfl | (simp; done) | (simp [*]; done)), H', ⟨by have := HK1.out; first | omega | exact Nat.le_refl _⟩, ⟨by refine kb_ ?_; exact BK134.out⟩, ⟨hbA_ HB.out⟩⟩
    ·rw [if_neg c6] at H
     have c6b0 : decide (x7_1 < (l0_0.length : Int)) = false := decide_eq_false c6
     clear c6
     (first | rw [c6b0] | (simp only [i64_w, i32_w]; rw [c6b0]) | skip)
     have H' := Aside0.mk H
     clear H; have Z10 := zz2 BK134
     go_wp2
     go_meet
     case rel => exact ⟨_, (false), (by first | rfl | (simp; done) | (simp [*]; done)), H', ⟨by have := HK1.out; first | omega | exact Nat.le_refl _⟩, ⟨by refine kb_ ?_; exact BK134.out⟩, ⟨hbA_ HB.out⟩⟩
   case rest =>
    clear HC5; (try clear p2); (try clear c3); (try clear c6); (try clear c6b0); (try clear Z10); (try clear Z8); (try clear p2)
    obtain ⟨kq, x16_4, rfl, HA, HJ4, BK134, HB⟩ := hcut
    cases kq with
    | zero => exact absurd HA.out (by simp [spec_NearFind.j1])
    | succ kj4 =>
     have H := HA.out; clear HA
     simp only [spec_NearFind.j1] at H
     by_cases c11 : x16_4 = true
     ·subst c11
      rw [if_pos rfl] at H
      by_cases c12 : 0 ≤ x7_1
      ·rw [if_pos c12] at H
       have c12b0 : decide (0 ≤ x7_1) = true := decide_eq_true c12
       clear c12
       by_cases c13 : x7_1 < (l0_0.length : Int)
       ·rw [if_pos c13] at H
        have c13b0 : decide (x7_1 < (l0_0.length : Int)) = true := decide_eq_true c13
        clear c13
        by_cases c14 : ((rd_T60 l0_0 x7_1).f0) = a1
        ·rw [if_pos c14] at H
         have c14b0 : (((rd_T60 l0_0 x7_1).f0) == a1) = true := beq_iff_eq.mpr c14
         have c14b1 : (((rd_T60 l0_0 x7_1).f0) != a1) = false := bne_eq_false_iff_eq.mpr c14
         clear c14
         by_cases c15 : ((rd_T60 l0_0 x7_1).f2) > a2
         ·rw [if_pos c15] at H
          have c15b0 : decide (a2 < ((rd_T60 l0_0 x7_1).f2)) = true := decide_eq_true c15
          clear c15
          obtain rfl := Option.some.inj H
          have Z16 := zz2 BK134
          have p136 : 0 ≤ (x7_1 : Int) := of_decide_eq_true (by first | (with_reducible assumption) | assumption)
          have q136 : x7_1 < (l0_0.length : Int) := of_decide_eq_true (by first | (with_reducible assumption) | assumption)
          obtain ⟨ad136, e136, hx136_0, hx136_1, hx136_2⟩ := at_T60 HR0_0.out x7_1 p136 q136
          cases e136
          replace hx136_0 := cc_ HB hx136_0
          replace hx136_1 := cc_ HB hx136_1
          replace hx136_2 := cc_ HB hx136_2
          replace p136 := eq_true p136
          replace q136 := eq_true q136
          have p137 : 0 ≤ (x7_1 : Int) := of_decide_eq_true (by first | (with_reducible assumption) | assumption)
          have q137 : x7_1 < (l0_0.length : Int) := of_decide_eq_true (by first | (with_reducible assumption) | assumption)
          obtain ⟨ad137, e137, hx137_0, hx137_1, hx137_2⟩ := at_T60 HR0_0.out x7_1 p137 q137
          obtain rfl : ad136 = ad137 := (by injection e137)
          replace hx137_0 := cc_ HB hx137_0
          replace hx137_1 := cc_ HB hx137_1
          replace hx137_2 := cc_ HB hx137_2
          replace p137 := eq_true p137
          replace q137 := eq_true q137
          have p138 : 0 ≤ (x7_1 : Int) := of_decide_eq_true (by first | (with_reducible assumption) | assumption)
          have q138 : x7_1 < (l0_0.length : Int) := of_decide_eq_true (by first | (with_reducible assumption) | assumption)
          obtain ⟨ad138, e138, hx138_0, hx138_1, hx138_2⟩ := at_T60 HR0_0.out x7_1 p138 q138
          obtain rfl : ad136 = ad138 := (by injection e138)
          replace hx138_0 := cc_ HB hx138_0
          replace hx138_1 := cc_ HB hx138_1
          replace hx138_2 := cc_ HB hx138_2
          replace p138 := eq_true p138
          replace q138 := eq_true q138
          go_wp2
          go_ret
          exact ⟨by first | rfl | (simp [errW_none, errW_some] <;> rfl) | (simp [*, errW_none, errW_some] <;> rfl), hbA_ HB.out⟩
         ·rw [if_neg c15] at H
          have c15b0 : decide (a2 < ((rd_T60 l0_0 x7_1).f2)) = false := decide_eq_false c15
          clear c15
          have H' := Aside0.mk H
          clear H; have Z17 := zz2 BK134
          have p136 : 0 ≤ (x7_1 : Int) := of_decide_eq_true (by first | (with_reducible assumption) | assumption)
          have q136 : x7_1 < (l0_0.length : Int) := of_decide_eq_true (by first | (with_reducible assumption) | assumption)
          obtain ⟨ad136, e136, hx136_0, hx136_1, hx136_2⟩ := at_T60 HR0_0.out x7_1 p136 q136
          cases e136
          replace hx136_0 := cc_ HB hx136_0
          replace hx136_1 := cc_ HB hx136_1
          replace hx136_2 := cc_ HB hx136_2
          replace p136 := eq_true p136
          replace q136 := eq_true q136
          have p137 : 0 ≤ (x7_1 : Int) := of_decide_eq_true (by first | (with_reducible assumption) | assumption)
          have q137 : x7_1 < (l0_0.length : Int) := of_decide_eq_true (by first | (with_reducible assumption) | assumption)
          obtain ⟨ad137, e137, hx137_0, hx137_1, hx137_2⟩ := at_T60 HR0_0.out x7_1 p137 q137
          obtain rfl : ad136 = ad137 := (by injection e137)
          replace hx137_0 := cc_ HB hx137_0
          replace hx137_1 := cc_ HB hx137_1
          replace hx137_2 := cc_ HB hx137_2
          replace p137 := eq_true p137
          replace q137 := eq_true q137
          go_wp2
          go_roundg kj4
          case measure => have := HK1.out; have := HJ4.out; omega
          case rel => exact ⟨(wrap64 (x7_1 + 1)), (by first | rfl | (simp; done) | (simp [*]; done)), H', ⟨by have := HK1.out; have := HJ4.out; omega⟩, ⟨by refine kb_ ?_; exact BK134.out⟩, ⟨hbA_ HB.out⟩⟩
        ·rw [if_neg c14] at H
         have c14b0 : (((rd_T60 l0_0 x7_1).f0) == a1) = false := beq_eq_false_iff_ne.mpr c14
         have c14b1 : (((rd_T60 l0_0 x7_1).f0) != a1) = true := bne_iff_ne.mpr c14
         have H' := Aside0.mk H
         clear H; have Z18 := zz2 BK134
         have p136 : 0 ≤ (x7_1 : Int) := of_decide_eq_true (by first | (with_reducible assumption) | assumption)
         have q136 : x7_1 < (l0_0.length : Int) := of_decide_eq_true (by first | (with_reducible assumption) | assumption)
         obtain ⟨ad136, e136, hx136_0, hx136_1, hx136_2⟩ := at_T60 HR0_0.out x7_1 p136 q136
         cases e136
         replace hx136_0 := cc_ HB hx136_0
         replace hx136_1 := cc_ HB hx136_1
         replace hx136_2 := cc_ HB hx136_2
         replace p136 := eq_true p136
         replace q136 := eq_true q136
         go_wp2
         go_roundg kj4
         case measure => have := HK1.out; have := HJ4.out; omega
         case rel => exact ⟨(wrap64 (x7_1 + 1)), (by first | rfl | (simp; done) | (simp [*]; done)), H', ⟨by have := HK1.out; have := HJ4.out; omega⟩, ⟨by refine kb_ ?_; exact BK134.out⟩, ⟨hbA_ HB.out⟩⟩
       ·rw [if_neg c13] at H
        exact absurd H (by simp)
      ·rw [if_neg c12] at H
       exact absurd H (by simp)
     ·replace c11 := Bool.eq_false_iff.mpr c11
      subst c11
      rw [if_neg (show ¬ (false = true) by decide)] at H
      obtain rfl := Option.some.inj H
      go_wp2
      go_ret
      exact ⟨by first | rfl | (simp [errW_none, errW_some] <;> rfl) | (simp [*, errW_none, errW_some] <;> rfl), hbA_ HB.out⟩
end Go.Proofs.Ytcbiljabpadaeaa.PFnNearSend
