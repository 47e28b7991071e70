/- Printed by wip/xp/xprint.sh out of the translation, for this claim: what each function answers, as a plain function, and that the machine does just that. No condition. -/
import Derived.Test.YtcbiljabpadaeaaPFnNearSendx0
import Derived.Test.YtcbiljabpadaeaaPFnNearSendx1
import Derived.Test.YtcbiljabpadaeaaPFnNearSendx3
import Derived.Test.YtcbiljabpadaeaaPFnNearSendx5
import Derived.Test.YtcbiljabpadaeaaPFnNearSendx6
namespace Go.Proofs.Ytcbiljabpadaeaa.PFnNearSend
open Go.RowKit Go.Proofs.YtcbiljabpadaeaaW.PrintWords Go.Proofs.YtcbiljabpadaeaaW.PrintLast Go.Proofs.YtcbiljabpadaeaaW.PrintMore
attribute [local go_sem] max2_int min2_int max_two min_two max_three min_three max_four min_four   -- for this text's walks alone
set_option linter.unusedVariables false
set_option linter.unusedSimpArgs false
attribute [local go_sem high] eqA60
mutual
def laws_sameNear.j0 : Nat → Bool → List (S60) → List (S36) → List (S60) → List (S36) → Option (Bool)
 | 0, _, _, _, _, _ => none
 | k + 1, x22, x416000, x416001, x417000, x417001 => if x22 = true then (some false) else (laws_sameNear.l0 k 0 x416000 x416001 x417000 x417001)
def laws_sameNear.l0 : Nat → Int → List (S60) → List (S36) → List (S60) → List (S36) → Option (Bool)
 | 0, _, _, _, _, _ => none
 | k + 1, x5, x416000, x416001, x417000, x417001 => if x5 < (x416000.length : Int) then (if 0 ≤ x5 then (if x5 < (x417000.length : Int) then (if (!(((rd_T60 x416000 x5).f0) == ((rd_T60 x417000 x5).f0)) || (!(((rd_T60 x416000 x5).f1) == ((rd_T60 x417000 x5).f1)) || (!(((rd_T60 x416000 x5).f2) == ((rd_T60 x417000 x5).f2))))) = true then (some false) else (laws_sameNear.l0 k (wrap64 (x5 + 1)) x416000 x416001 x417000 x417001)) else (none)) else (none)) else (laws_sameNear.l1 k 0 x416000 x416001 x417000 x417001)
def laws_sameNear.l1 : Nat → Int → List (S60) → List (S36) → List (S60) → List (S36) → Option (Bool)
 | 0, _, _, _, _, _ => none
 | k + 1, x6, x416000, x416001, x417000, x417001 => if x6 < (x416001.length : Int) then (if 0 ≤ x6 then (if x6 < (x417001.length : Int) then (if ((rd_T36 x416001 x6).f0) = ((rd_T36 x417001 x6).f0) then ((laws_sameBytes.f ((rd_T36 x416001 x6).f1) ((rd_T36 x417001 x6).f1)).bind fun t423 => (if t423 = true then (laws_sameNear.l1 k (wrap64 (x6 + 1)) x416000 x416001 x417000 x417001) else (some false))) else (some false)) else (none)) else (none)) else (some true)
end
def laws_sameNear.f (k : Nat) (l0_0 : List (S60)) (l0_1 : List (S36)) (l1_0 : List (S60)) (l1_1 : List (S36)) : Option (Bool) := if (l0_0.length : Int) = (l1_0.length : Int) then (laws_sameNear.j0 k ((l0_1.length : Int) != (l1_1.length : Int)) l0_0 l0_1 l1_0 l1_1) else (laws_sameNear.j0 k true l0_0 l0_1 l1_0 l1_1)
theorem laws_sameNear.mono_l : ∀ k, (∀ y0 y1 y2 y3 y4, LeO (laws_sameNear.j0 k y0 y1 y2 y3 y4) (laws_sameNear.j0 (k + 1) y0 y1 y2 y3 y4)) ∧ (∀ y0 y1 y2 y3 y4, LeO (laws_sameNear.l0 k y0 y1 y2 y3 y4) (laws_sameNear.l0 (k + 1) y0 y1 y2 y3 y4)) ∧ (∀ y0 y1 y2 y3 y4, LeO (laws_sameNear.l1 k y0 y1 y2 y3 y4) (laws_sameNear.l1 (k + 1) y0 y1 y2 y3 y4))
 | 0 => ⟨fun _ _ _ _ _ r h => by simp [laws_sameNear.j0] at h, fun _ _ _ _ _ r h => by simp [laws_sameNear.l0] at h, fun _ _ _ _ _ r h => by simp [laws_sameNear.l1] at h⟩
 | k + 1 => by
  obtain ⟨ih0, ih1, ih2⟩ := laws_sameNear.mono_l k
  refine ⟨?_, ?_, ?_⟩
  ·intro y0 y1 y2 y3 y4
   unfold laws_sameNear.j0
   repeat' first | (with_reducible first | apply ih0 | apply ih1 | apply ih2 | exact LeO.refl _ | exact LeO.none _ | refine LeO.ite ?_ ?_ | refine LeO.bind ?_ fun _ => ?_) | apply ih0 | apply ih1 | apply ih2 | exact LeO.none _ | refine LeO.ite ?_ ?_ | refine LeO.bind ?_ fun _ => ?_
  ·intro y0 y1 y2 y3 y4
   unfold laws_sameNear.l0
   repeat' first | (with_reducible first | apply ih0 | apply ih1 | apply ih2 | exact LeO.refl _ | exact LeO.none _ | refine LeO.ite ?_ ?_ | refine LeO.bind ?_ fun _ => ?_) | apply ih0 | apply ih1 | apply ih2 | exact LeO.none _ | refine LeO.ite ?_ ?_ | refine LeO.bind ?_ fun _ => ?_
  ·intro y0 y1 y2 y3 y4
   unfold laws_sameNear.l1
   repeat' first | (with_reducible first | apply ih0 | apply ih1 | apply ih2 | exact LeO.refl _ | exact LeO.none _ | refine LeO.ite ?_ ?_ | refine LeO.bind ?_ fun _ => ?_) | apply ih0 | apply ih1 | apply ih2 | exact LeO.none _ | refine LeO.ite ?_ ?_ | refine LeO.bind ?_ fun _ => ?_
theorem laws_sameNear.mono : ∀ a0 a1 a2 a3 k, LeO (laws_sameNear.f k a0 a1 a2 a3) (laws_sameNear.f (k + 1) a0 a1 a2 a3) := by
 intro a0 a1 a2 a3 k
 obtain ⟨ih0, ih1, ih2⟩ := laws_sameNear.mono_l k
 unfold laws_sameNear.f
 repeat' first | (with_reducible first | apply ih0 | apply ih1 | apply ih2 | exact LeO.refl _ | exact LeO.none _ | refine LeO.ite ?_ ?_ | refine LeO.bind ?_ fun _ => ?_) | apply ih0 | apply ih1 | apply ih2 | exact LeO.none _ | refine LeO.ite ?_ ?_ | refine LeO.bind ?_ fun _ => ?_
set_option maxHeartbeats 8000000 in
set_option maxRecDepth 100000 in
theorem laws_sameNear.calls (k : Nat) (A0_0 : Option Addr) (c0_0 : Nat) (l0_0 : List (S60)) (A0_1 : Option Addr) (c0_1 : Nat) (l0_1 : List (S36)) (A1_0 : Option Addr) (c1_0 : Nat) (l1_0 : List (S60)) (A1_1 : Option Addr) (c1_1 : Nat) (l1_1 : List (S36)) (r : Bool) (w : World) (hr0_0 : Kd.C k60 w A0_0 l0_0.length l0_0) (hc0_0 : l0_0.length ≤ c0_0) (hr0_1 : Kd.C k36 w A0_1 l0_1.length l0_1) (hc0_1 : l0_1.length ≤ c0_1) (hr1_0 : Kd.C k60 w A1_0 l1_0.length l1_0) (hc1_0 : l1_0.length ≤ c1_0) (hr1_1 : Kd.C k36 w A1_1 l1_1.length l1_1) (hc1_1 : l1_1.length ≤ c1_1) (h : laws_sameNear.f k l0_0 l0_1 l1_0 l1_1 = some r) :
  Calls Try.prog 8 #[.agg #[.slice A0_0 l0_0.length c0_0, .slice A0_1 l0_1.length c0_1], .agg #[.slice A1_0 l1_0.length c1_0, .slice A1_1 l1_1.length c1_1]] w fun e w' => e = .returned (.bool r) ∧ Below w.heap.size w w' := by
 have hu26 := Try.underlying26; have hu60 := Try.underlying60; have HR0_0 := Aside0.mk hr0_0; have HC0_0 := Aside0.mk hc0_0; clear hr0_0 hc0_0; have HR0_1 := Aside0.mk hr0_1; have HC0_1 := Aside0.mk hc0_1; clear hr0_1 hc0_1; have HR1_0 := Aside0.mk hr1_0; have HC1_0 := Aside0.mk hc1_0; clear hr1_0 hc1_0; have HR1_1 := Aside0.mk hr1_1; have HC1_1 := Aside0.mk hc1_1; clear hr1_1 hc1_1
 have HB := Aside0.mk (Below.refl w.heap.size w)
 have H : (if (l0_0.length : Int) = (l1_0.length : Int) then (laws_sameNear.j0 k ((l0_1.length : Int) != (l1_1.length : Int)) l0_0 l0_1 l1_0 l1_1) else (laws_sameNear.j0 k true l0_0 l0_1 l1_0 l1_1)) = some r := h
 clear h; have HC3 := Aside0.mk H; clear H
 go_enter Try.func8, Try.ntmps8
 go_upto_region 1 with (first | ((with_reducible refine gate_dst (N := 2) rfl ?_); (try (refine gate_guard (by rfl) ?_; dsimp only)); refine box_ (N := 2) (cs := #[.slice A0_0 l0_0.length c0_0, .slice A0_1 l0_1.length c0_1]) (t := 26) (fun gb415 hg w4 hbox hb => ?_); have BK415 := Aside0.mk (hbox); have GW415 := ge_ hg HB; have GE415 := ge_ hg HB; replace HB := (bs_ HB hb); clear hb hbox hg) | ((with_reducible refine gate_dst (N := 3) rfl ?_); (try (refine gate_guard (by rfl) ?_; dsimp only)); refine box_ (N := 3) (cs := #[.slice A1_0 l1_0.length c1_0, .slice A1_1 l1_1.length c1_1]) (t := 26) (fun gb416 hg w5 hbox hb => ?_); have BK416 := Aside0.mk (hbox); have GW416 := ge_ hg HB; have GE416 := ge_ hg HB; replace HB := (bs_ HB hb); have NB415_416 := nl_ hg BK415; have NB416_415 := ng_ hg BK415; replace BK415 := (bbA_ BK415 hb); clear hb hbox hg))
 repeat (go_quiet (first | ((with_reducible refine gate_dst (N := 2) rfl ?_); (try (refine gate_guard (by rfl) ?_; dsimp only)); refine box_ (N := 2) (cs := #[.slice A0_0 l0_0.length c0_0, .slice A0_1 l0_1.length c0_1]) (t := 26) (fun gb415 hg w4 hbox hb => ?_); have BK415 := Aside0.mk (hbox); have GW415 := ge_ hg HB; have GE415 := ge_ hg HB; replace HB := (bs_ HB hb); clear hb hbox hg) | ((with_reducible refine gate_dst (N := 3) rfl ?_); (try (refine gate_guard (by rfl) ?_; dsimp only)); refine box_ (N := 3) (cs := #[.slice A1_0 l1_0.length c1_0, .slice A1_1 l1_1.length c1_1]) (t := 26) (fun gb416 hg w5 hbox hb => ?_); have BK416 := Aside0.mk (hbox); have GW416 := ge_ hg HB; have GE416 := ge_ hg HB; replace HB := (bs_ HB hb); have NB415_416 := nl_ hg BK415; have NB416_415 := ng_ hg BK415; replace BK415 := (bbA_ BK415 hb); clear hb hbox hg)); go_upto_region 1 with (first | ((with_reducible refine gate_dst (N := 2) rfl ?_); (try (refine gate_guard (by rfl) ?_; dsimp only)); refine box_ (N := 2) (cs := #[.slice A0_0 l0_0.length c0_0, .slice A0_1 l0_1.length c0_1]) (t := 26) (fun gb415 hg w4 hbox hb => ?_); have BK415 := Aside0.mk (hbox); have GW415 := ge_ hg HB; have GE415 := ge_ hg HB; replace HB := (bs_ HB hb); clear hb hbox hg) | ((with_reducible refine gate_dst (N := 3) rfl ?_); (try (refine gate_guard (by rfl) ?_; dsimp only)); refine box_ (N := 3) (cs := #[.slice A1_0 l1_0.length c1_0, .slice A1_1 l1_1.length c1_1]) (t := 26) (fun gb416 hg w5 hbox hb => ?_); have BK416 := Aside0.mk (hbox); have GW416 := ge_ hg HB; have GE416 := ge_ hg HB; replace HB := (bs_ HB hb); have NB415_416 := nl_ hg BK415; have NB416_415 := ng_ hg BK415; replace BK415 := (bbA_ BK415 hb); clear hb hbox hg)))
 (try simp only [Act.put, List.setIfInBounds_toArray, List.set_cons_zero, List.set_cons_succ])
 go_cut [22] (fun v22 wc => ∃ (kq : Nat) (x22_2 : Bool), v22 = .bool x22_2 ∧ Aside0 (laws_sameNear.j0 kq x22_2 l0_0 l0_1 l1_0 l1_1 = some r) ∧ Aside0 (kq ≤ k) ∧ Aside0 (wc.heap[gb415]? = some (.cells #[(.slice A0_0 l0_0.length c0_0), (.slice A0_1 l0_1.length c0_1)] 26 (0, 0))) ∧ Aside0 (wc.heap[gb416]? = some (.cells #[(.slice A1_0 l1_0.length c1_0), (.slice A1_1 l1_1.length c1_1)] 26 (0, 0))) ∧ Aside0 (Below w.heap.size w wc))
 case first =>
  have H := HC3.out; clear HC3
  by_cases c6 : (l0_0.length : Int) = (l1_0.length : Int)
  ·rw [if_pos c6] at H
   have c6b0 : ((l0_0.length : Int) == (l1_0.length : Int)) = true := beq_iff_eq.mpr c6
   have c6b1 : ((l0_0.length : Int) != (l1_0.length : Int)) = false := bne_eq_false_iff_eq.mpr c6
   have c6b2 : (l0_0.length == l1_0.length) = true := by first | simpa using c6 | (simp at c6 ⊢; omega)
   clear c6
   (first | rw [c6b0] | (simp only [i64_w, i32_w]; rw [c6b0]) | skip)
   have H' := Aside0.mk H
   clear H; have hnb7 := NB415_416.out; have hnc7 := NB416_415.out; have Z8 := zz2 BK415; have Z9 := zz2 BK416
   go_wp2
   repeat (go_quiet (fail); try go_wp2)
   go_meet
   case rel => exact ⟨_, (((l0_1.length : Int) != (l1_1.length : Int))), (by first | rfl | (simp; done) | (simp [*]; done)), H', ⟨by first | omega | exact Nat.le_refl _⟩, ⟨by refine kb_ ?_; exact BK415.out⟩, ⟨by refine kb_ ?_; exact BK416.out⟩, ⟨hbA_ HB.out⟩⟩
  ·rw [if_neg c6] at H
   have c6b0 : ((l0_0.length : Int) == (l1_0.length : Int)) = false := beq_eq_false_iff_ne.mpr c6
   have c6b1 : ((l0_0.length : Int) != (l1_0.length : Int)) = true := bne_iff_ne.mpr c6
   have c6b2 : (l0_0.length == l1_0.length) = false := by first | simpa using c6 | (simp at c6 ⊢; omega)
   (first | rw [c6b0] | (simp only [i64_w, i32_w]; rw [c6b0]) | skip)
   have H' := Aside0.mk H
   clear H; have hnb10 := NB415_416.out; have hnc10 := NB416_415.out; have Z11 := zz2 BK415; have Z12 := zz2 BK416
   go_wp2
   repeat (go_quiet (fail); try go_wp2)
   go_meet
   case rel => exact ⟨_, (true), (by first | rfl | (simp; done) | (simp [*]; done)), H', ⟨by first | omega | exact Nat.le_refl _⟩, ⟨by refine kb_ ?_; exact BK415.out⟩, ⟨by refine kb_ ?_; exact BK416.out⟩, ⟨hbA_ HB.out⟩⟩
 case rest =>
  clear HC3; (try clear c1); (try clear p2); (try clear c6); (try clear c6b0); (try clear c6b1); (try clear c6b2); (try clear c7); (try clear c8); (try clear c10); (try clear Z11); (try clear Z12); (try clear Z8); (try clear Z9)
  obtain ⟨kq, x22_2, rfl, HA, HJ2, BK415, BK416, HB⟩ := hcut
  cases kq with
  | zero => exact absurd HA.out (by simp [laws_sameNear.j0])
  | succ kj2 =>
   have H := HA.out; clear HA
   simp only [laws_sameNear.j0] at H
   by_cases c13 : x22_2 = true
   ·subst c13
    rw [if_pos rfl] at H
    obtain rfl := Option.some.inj H
    go_wp2
    repeat (go_quiet (fail); try go_wp2)
    go_ret
    exact ⟨by first | rfl | (simp [errW_none, errW_some] <;> rfl) | (simp [*, errW_none, errW_some] <;> rfl), hbA_ HB.out⟩
   ·replace c13 := Bool.eq_false_iff.mpr c13
    subst c13
    rw [if_neg (show ¬ (false = true) by decide)] at H
    have H' := Aside0.mk H
    clear H
    go_wp2
    repeat (go_quiet (fail); try go_wp2)
    go_loopg [5] kj2 (fun kq v5 w' => ∃ (x5_2 : Int), v5 = .int .i64 x5_2 ∧ Aside0 (laws_sameNear.l0 kq x5_2 l0_0 l0_1 l1_0 l1_1 = some r) ∧ Aside0 (kq ≤ kj2) ∧ Aside0 (w'.heap[gb415]? = some (.cells #[(.slice A0_0 l0_0.length c0_0), (.slice A0_1 l0_1.length c0_1)] 26 (0, 0))) ∧ Aside0 (w'.heap[gb416]? = some (.cells #[(.slice A1_0 l1_0.length c1_0), (.slice A1_1 l1_1.length c1_1)] 26 (0, 0))) ∧ Aside0 (Below w.heap.size w w'))
    case atStart => exact ⟨(0), (by first | rfl | (simp; done) | (simp [*]; done)), H', ⟨Nat.le_refl _⟩, ⟨by refine kb_ ?_; exact BK415.out⟩, ⟨by refine kb_ ?_; exact BK416.out⟩, ⟨hbA_ HB.out⟩⟩
    case round =>
     clear H'; (try clear c1); (try clear p2); (try clear c6); (try clear c6b0); (try clear c6b1); (try clear c6b2); (try clear c7); (try clear c8); (try clear c10); (try clear c13); (try clear Z11); (try clear Z12); (try clear Z8); (try clear Z9); (try clear p2)
     obtain ⟨x5_2, rfl, HA, HK2, BK415, BK416, HB⟩ := hrel
     cases gk with
     | zero => exact absurd HA.out (by simp [laws_sameNear.l0])
     | succ k2 =>
      have H := HA.out; clear HA
      simp only [laws_sameNear.l0] at H
      by_cases c14 : x5_2 < (l0_0.length : Int)
      ·rw [if_pos c14] at H
       have c14b0 : decide (x5_2 < (l0_0.length : Int)) = true := decide_eq_true c14
       clear c14
       by_cases c15 : 0 ≤ x5_2
       ·rw [if_pos c15] at H
        have c15b0 : decide (0 ≤ x5_2) = true := decide_eq_true c15
        clear c15
        by_cases c16 : x5_2 < (l1_0.length : Int)
        ·rw [if_pos c16] at H
         have c16b0 : decide (x5_2 < (l1_0.length : Int)) = true := decide_eq_true c16
         clear c16
         by_cases c17 : (!(((rd_T60 l0_0 x5_2).f0) == ((rd_T60 l1_0 x5_2).f0)) || (!(((rd_T60 l0_0 x5_2).f1) == ((rd_T60 l1_0 x5_2).f1)) || (!(((rd_T60 l0_0 x5_2).f2) == ((rd_T60 l1_0 x5_2).f2))))) = true
         ·rw [if_pos c17] at H
          have c17b0 : (!(((rd_T60 l0_0 x5_2).f0) == ((rd_T60 l1_0 x5_2).f0)) || (!(((rd_T60 l0_0 x5_2).f1) == ((rd_T60 l1_0 x5_2).f1)) || (!(((rd_T60 l0_0 x5_2).f2) == ((rd_T60 l1_0 x5_2).f2))))) = true := c17
          clear c17
          obtain rfl := Option.some.inj H
          have hnb18 := NB415_416.out; have hnc18 := NB416_415.out; have Z19 := zz2 BK415
          have p417 : 0 ≤ (x5_2 : Int) := of_decide_eq_true (by first | (with_reducible assumption) | assumption)
          have q417 : x5_2 < (l0_0.length : Int) := of_decide_eq_true (by first | (with_reducible assumption) | assumption)
          obtain ⟨ad417, e417, hx417_0, hx417_1, hx417_2⟩ := at_T60 HR0_0.out x5_2 p417 q417
          cases e417
          replace hx417_0 := cc_ HB hx417_0
          replace hx417_1 := cc_ HB hx417_1
          replace hx417_2 := cc_ HB hx417_2
          replace p417 := eq_true p417
          replace q417 := eq_true q417
          have Z20 := zz2 BK416
          have p418 : 0 ≤ (x5_2 : Int) := of_decide_eq_true (by first | (with_reducible assumption) | assumption)
          have q418 : x5_2 < (l1_0.length : Int) := of_decide_eq_true (by first | (with_reducible assumption) | assumption)
          obtain ⟨ad418, e418, hx418_0, hx418_1, hx418_2⟩ := at_T60 HR1_0.out x5_2 p418 q418
          cases e418
          replace hx418_0 := cc_ HB hx418_0
          replace hx418_1 := cc_ HB hx418_1
          replace hx418_2 := cc_ HB hx418_2
          replace p418 := eq_true p418
          replace q418 := eq_true q418
          go_wp2
          repeat (go_quiet (fail); try go_wp2)
          go_ret
          exact ⟨by first | rfl | (simp [errW_none, errW_some] <;> rfl) | (simp [*, errW_none, errW_some] <;> rfl), hbA_ HB.out⟩
         ·rw [if_neg c17] at H
          have c17b0 : (!(((rd_T60 l0_0 x5_2).f0) == ((rd_T60 l1_0 x5_2).f0)) || (!(((rd_T60 l0_0 x5_2).f1) == ((rd_T60 l1_0 x5_2).f1)) || (!(((rd_T60 l0_0 x5_2).f2) == ((rd_T60 l1_0 x5_2).f2))))) = false := by simpa using c17
          clear c17
          have H' := Aside0.mk H
          clear H; have hnb21 := NB415_416.out; have hnc21 := NB416_415.out; have Z22 := zz2 BK415
          have p417 : 0 ≤ (x5_2 : Int) := of_decide_eq_true (by first | (with_reducible assumption) | assumption)
          have q417 : x5_2 < (l0_0.length : Int) := of_decide_eq_true (by first | (with_reducible assumption) | assumption)
          obtain ⟨ad417, e417, hx417_0, hx417_1, hx417_2⟩ := at_T60 HR0_0.out x5_2 p417 q417
          cases e417
          replace hx417_0 := cc_ HB hx417_0
          replace hx417_1 := cc_ HB hx417_1
          replace hx417_2 := cc_ HB hx417_2
          replace p417 := eq_true p417
          replace q417 := eq_true q417
          have Z23 := zz2 BK416
          have p418 : 0 ≤ (x5_2 : Int) := of_decide_eq_true (by first | (with_reducible assumption) | assumption)
          have q418 : x5_2 < (l1_0.length : Int) := of_decide_eq_true (by first | (with_reducible assumption) | assumption)
          obtain ⟨ad418, e418, hx418_0, hx418_1, hx418_2⟩ := at_T60 HR1_0.out x5_2 p418 q418
          cases e418
          replace hx418_0 := cc_ HB hx418_0
          replace hx418_1 := cc_ HB hx418_1
          replace hx418_2 := cc_ HB hx418_2
          replace p418 := eq_true p418
          replace q418 := eq_true q418
          go_wp2
          repeat (go_quiet (fail); try go_wp2)
          go_roundg k2
          case measure => have := HJ2.out; have := HK2.out; omega
          case rel => exact ⟨(wrap64 (x5_2 + 1)), (by first | rfl | (simp; done) | (simp [*]; done)), H', ⟨by have := HJ2.out; have := HK2.out; omega⟩, ⟨by refine kb_ ?_; exact BK415.out⟩, ⟨by refine kb_ ?_; exact BK416.out⟩, ⟨hbA_ HB.out⟩⟩
        ·rw [if_neg c16] at H
         exact absurd H (by simp)
       ·rw [if_neg c15] at H
        exact absurd H (by simp)
      ·rw [if_neg c14] at H
       have c14b0 : decide (x5_2 < (l0_0.length : Int)) = false := decide_eq_false c14
       clear c14
       have H' := Aside0.mk H
       clear H; have hnb24 := NB415_416.out; have hnc24 := NB416_415.out; have Z25 := zz2 BK415
       go_wp2
       repeat (go_quiet (fail); try go_wp2)
       go_loopg [6] k2 (fun kq v6 w' => ∃ (x6_3 : Int), v6 = .int .i64 x6_3 ∧ Aside0 (laws_sameNear.l1 kq x6_3 l0_0 l0_1 l1_0 l1_1 = some r) ∧ Aside0 (kq ≤ k2) ∧ Aside0 (w'.heap[gb415]? = some (.cells #[(.slice A0_0 l0_0.length c0_0), (.slice A0_1 l0_1.length c0_1)] 26 (0, 0))) ∧ Aside0 (w'.heap[gb416]? = some (.cells #[(.slice A1_0 l1_0.length c1_0), (.slice A1_1 l1_1.length c1_1)] 26 (0, 0))) ∧ Aside0 (Below w.heap.size w w'))
       case atStart => exact ⟨(0), (by first | rfl | (simp; done) | (simp [*]; done)), H', ⟨Nat.le_refl _⟩, ⟨by refine kb_ ?_; exact BK415.out⟩, ⟨by refine kb_ ?_; exact BK416.out⟩, ⟨hbA_ HB.out⟩⟩
       case round =>
        clear H'; (try clear c1); (try clear c2); (try clear p2); (try clear p4); (try clear q4); (try clear hx4); (try clear c6); (try clear c6b0); (try clear c6b1); (try clear c6b2); (try clear p6); (try clear c7); (try clear c8); (try clear c10); (try clear c13); (try clear c14); (try clear c14b0); (try clear c15); (try clear c15b0); (try clear c16); (try clear c16b0); (try clear c17); (try clear c17b0); (try clear c18); (try clear c21); (try clear c24); (try clear Z11); (try clear Z12); (try clear Z19); (try clear Z20); (try clear Z22); (try clear Z23); (try clear Z25); (try clear Z8); (try clear Z9); (try clear hx417_0); (try clear hx417_1); (try clear hx417_2); (try clear hx418_0); (try clear hx418_1); (try clear hx418_2); (try clear p2); (try clear p417); (try clear p418); (try clear q417); (try clear q418)
        obtain ⟨x6_3, rfl, HA, HK3, BK415, BK416, HB⟩ := hrel
        cases gk with
        | zero => exact absurd HA.out (by simp [laws_sameNear.l1])
        | succ k3 =>
         have H := HA.out; clear HA
         simp only [laws_sameNear.l1] at H
         by_cases c26 : x6_3 < (l0_1.length : Int)
         ·rw [if_pos c26] at H
          have c26b0 : decide (x6_3 < (l0_1.length : Int)) = true := decide_eq_true c26
          clear c26
          by_cases c27 : 0 ≤ x6_3
          ·rw [if_pos c27] at H
           have c27b0 : decide (0 ≤ x6_3) = true := decide_eq_true c27
           clear c27
           by_cases c28 : x6_3 < (l1_1.length : Int)
           ·rw [if_pos c28] at H
            have c28b0 : decide (x6_3 < (l1_1.length : Int)) = true := decide_eq_true c28
            clear c28
            by_cases c29 : ((rd_T36 l0_1 x6_3).f0) = ((rd_T36 l1_1 x6_3).f0)
            ·rw [if_pos c29] at H
             have c29b0 : (((rd_T36 l0_1 x6_3).f0) == ((rd_T36 l1_1 x6_3).f0)) = true := beq_iff_eq.mpr c29
             have c29b1 : (((rd_T36 l0_1 x6_3).f0) != ((rd_T36 l1_1 x6_3).f0)) = false := bne_eq_false_iff_eq.mpr c29
             clear c29
             replace H := Option.bind_eq_some_iff.mp H
             obtain ⟨t423, A300, H⟩ := H
             (try dsimp only at H)
             have A30 := Aside0.mk A300; clear A300
             by_cases c31 : t423 = true
             ·subst c31
              rw [if_pos rfl] at H
              have H' := Aside0.mk H
              clear H; have hnb32 := NB415_416.out; have hnc32 := NB416_415.out; have Z33 := zz2 BK415
              have p419 : 0 ≤ (x6_3 : Int) := of_decide_eq_true (by first | (with_reducible assumption) | assumption)
              have q419 : x6_3 < (l0_1.length : Int) := of_decide_eq_true (by first | (with_reducible assumption) | assumption)
              obtain ⟨ad419, A419_1, c419_1, e419, hx419_0, hx419_1, hl419_1, hi419_1⟩ := at_T36 HR0_1.out x6_3 p419 q419
              cases e419
              replace hx419_0 := cc_ HB hx419_0
              replace hx419_1 := cc_ HB hx419_1
              have HR419_1 := Aside0.mk hi419_1; have HC419_1 := Aside0.mk hl419_1; clear hi419_1 hl419_1
              replace p419 := eq_true p419
              replace q419 := eq_true q419
              have Z34 := zz2 BK416
              have p420 : 0 ≤ (x6_3 : Int) := of_decide_eq_true (by first | (with_reducible assumption) | assumption)
              have q420 : x6_3 < (l1_1.length : Int) := of_decide_eq_true (by first | (with_reducible assumption) | assumption)
              obtain ⟨ad420, A420_1, c420_1, e420, hx420_0, hx420_1, hl420_1, hi420_1⟩ := at_T36 HR1_1.out x6_3 p420 q420
              cases e420
              replace hx420_0 := cc_ HB hx420_0
              replace hx420_1 := cc_ HB hx420_1
              have HR420_1 := Aside0.mk hi420_1; have HC420_1 := Aside0.mk hl420_1; clear hi420_1 hl420_1
              replace p420 := eq_true p420
              replace q420 := eq_true q420
              have p421 : 0 ≤ (x6_3 : Int) := of_decide_eq_true (by first | (with_reducible assumption) | assumption)
              have q421 : x6_3 < (l0_1.length : Int) := of_decide_eq_true (by first | (with_reducible assumption) | assumption)
              obtain ⟨ad421, A421_1, c421_1, e421, hx421_0, hx421_1, hl421_1, hi421_1⟩ := at_T36 HR0_1.out x6_3 p421 q421
              obtain rfl : ad419 = ad421 := (by injection e421)
              replace hx421_0 := cc_ HB hx421_0
              replace hx421_1 := cc_ HB hx421_1
              have HR421_1 := Aside0.mk hi421_1; have HC421_1 := Aside0.mk hl421_1; clear hi421_1 hl421_1
              replace p421 := eq_true p421
              replace q421 := eq_true q421
              have ea_ := Option.some.inj (hx419_1.symm.trans hx421_1)
              injection ea_ with ea_ en_ ec_
              subst ea_; subst ec_; clear en_
              have p422 : 0 ≤ (x6_3 : Int) := of_decide_eq_true (by first | (with_reducible assumption) | assumption)
              have q422 : x6_3 < (l1_1.length : Int) := of_decide_eq_true (by first | (with_reducible assumption) | assumption)
              obtain ⟨ad422, A422_1, c422_1, e422, hx422_0, hx422_1, hl422_1, hi422_1⟩ := at_T36 HR1_1.out x6_3 p422 q422
              obtain rfl : ad420 = ad422 := (by injection e422)
              replace hx422_0 := cc_ HB hx422_0
              replace hx422_1 := cc_ HB hx422_1
              have HR422_1 := Aside0.mk hi422_1; have HC422_1 := Aside0.mk hl422_1; clear hi422_1 hl422_1
              replace p422 := eq_true p422
              replace q422 := eq_true q422
              have ea_ := Option.some.inj (hx420_1.symm.trans hx422_1)
              injection ea_ with ea_ en_ ec_
              subst ea_; subst ec_; clear en_
              go_wp2_with (first | (go_at_call 12; (with_reducible refine (laws_sameBytes.calls _ _ ((rd_T36 l0_1 x6_3).f1) _ _ ((rd_T36 l1_1 x6_3).f1) true _ ?side1 ?side2 ?side3 ?side4 A30.out).mono ?_); (case side1 => exact kC_ (Kd.C_below HR421_1.out HB.out)); (case side2 => exact HC421_1.out); (case side3 => exact kC_ (Kd.C_below HR422_1.out HB.out)); (case side4 => exact HC422_1.out); rintro e w' ⟨rfl, ⟨nd, rfl⟩⟩; (try first | exact ⟨rfl, _, World.drewN_drewN _ _ _⟩ | exact ⟨rfl, _, Eq.trans (World.drewN_drewN _ _ _) (congrArg (World.drewN _) (Nat.add_assoc _ _ _))⟩)))
              repeat (go_quiet (first | (go_at_call 12; (with_reducible refine (laws_sameBytes.calls _ _ ((rd_T36 l0_1 x6_3).f1) _ _ ((rd_T36 l1_1 x6_3).f1) true _ ?side1 ?side2 ?side3 ?side4 A30.out).mono ?_); (case side1 => exact kC_ (Kd.C_below HR421_1.out HB.out)); (case side2 => exact HC421_1.out); (case side3 => exact kC_ (Kd.C_below HR422_1.out HB.out)); (case side4 => exact HC422_1.out); rintro e w' ⟨rfl, ⟨nd, rfl⟩⟩; (try first | exact ⟨rfl, _, World.drewN_drewN _ _ _⟩ | exact ⟨rfl, _, Eq.trans (World.drewN_drewN _ _ _) (congrArg (World.drewN _) (Nat.add_assoc _ _ _))⟩))); try go_wp2_with (first | (go_at_call 12; (with_reducible refine (laws_sameBytes.calls _ _ ((rd_T36 l0_1 x6_3).f1) _ _ ((rd_T36 l1_1 x6_3).f1) true _ ?side1 ?side2 ?side3 ?side4 A30.out).mono ?_); (case side1 => exact kC_ (Kd.C_below HR421_1.out HB.out)); (case side2 => exact HC421_1.out); (case side3 => exact kC_ (Kd.C_below HR422_1.out HB.out)); (case side4 => exact HC422_1.out); rintro e w' ⟨rfl, ⟨nd, rfl⟩⟩; (try first | exact ⟨rfl, _, World.drewN_drewN _ _ _⟩ | exact ⟨rfl, _, Eq.trans (World.drewN_drewN _ _ _) (congrArg (World.drewN _) (Nat.add_assoc _ _ _))⟩))))
              go_roundg k3
              case measure => have := HJ2.out; have := HK2.out; have := HK3.out; omega
              case rel => exact ⟨(wrap64 (x6_3 + 1)), (by first | rfl | (simp; done) | (simp [*]; done)), H', ⟨by have := HJ2.out; have := HK2.out; have := HK3.out; omega⟩, ⟨by refine kb_ ?_; exact BK415.out⟩, ⟨by refine kb_ ?_; exact BK416.out⟩, ⟨hbA_ HB.out⟩⟩
             ·replace c31 := Bool.eq_false_iff.mpr c31
              subst c31
              rw [if_neg (show ¬ (false = true) by decide)] at H
              obtain rfl := Option.some.inj H
              have hnb35 := NB415_416.out; have hnc35 := NB416_415.out; have Z36 := zz2 BK415
              have p419 : 0 ≤ (x6_3 : Int) := of_decide_eq_true (by first | (with_reducible assumption) | assumption)
              have q419 : x6_3 < (l0_1.length : Int) := of_decide_eq_true (by first | (with_reducible assumption) | assumption)
              obtain ⟨ad419, A419_1, c419_1, e419, hx419_0, hx419_1, hl419_1, hi419_1⟩ := at_T36 HR0_1.out x6_3 p419 q419
              cases e419
              replace hx419_0 := cc_ HB hx419_0
              replace hx419_1 := cc_ HB hx419_1
              have HR419_1 := Aside0.mk hi419_1; have HC419_1 := Aside0.mk hl419_1; clear hi419_1 hl419_1
              replace p419 := eq_true p419
              replace q419 := eq_true q419
              have Z37 := zz2 BK416
              have p420 : 0 ≤ (x6_3 : Int) := of_decide_eq_true (by first | (with_reducible assumption) | assumption)
              have q420 : x6_3 < (l1_1.length : Int) := of_decide_eq_true (by first | (with_reducible assumption) | assumption)
              obtain ⟨ad420, A420_1, c420_1, e420, hx420_0, hx420_1, hl420_1, hi420_1⟩ := at_T36 HR1_1.out x6_3 p420 q420
              cases e420
              replace hx420_0 := cc_ HB hx420_0
              replace hx420_1 := cc_ HB hx420_1
              have HR420_1 := Aside0.mk hi420_1; have HC420_1 := Aside0.mk hl420_1; clear hi420_1 hl420_1
              replace p420 := eq_true p420
              replace q420 := eq_true q420
              have p421 : 0 ≤ (x6_3 : Int) := of_decide_eq_true (by first | (with_reducible assumption) | assumption)
              have q421 : x6_3 < (l0_1.length : Int) := of_decide_eq_true (by first | (with_reducible assumption) | assumption)
              obtain ⟨ad421, A421_1, c421_1, e421, hx421_0, hx421_1, hl421_1, hi421_1⟩ := at_T36 HR0_1.out x6_3 p421 q421
              obtain rfl : ad419 = ad421 := (by injection e421)
              replace hx421_0 := cc_ HB hx421_0
              replace hx421_1 := cc_ HB hx421_1
              have HR421_1 := Aside0.mk hi421_1; have HC421_1 := Aside0.mk hl421_1; clear hi421_1 hl421_1
              replace p421 := eq_true p421
              replace q421 := eq_true q421
              have ea_ := Option.some.inj (hx419_1.symm.trans hx421_1)
              injection ea_ with ea_ en_ ec_
              subst ea_; subst ec_; clear en_
              have p422 : 0 ≤ (x6_3 : Int) := of_decide_eq_true (by first | (with_reducible assumption) | assumption)
              have q422 : x6_3 < (l1_1.length : Int) := of_decide_eq_true (by first | (with_reducible assumption) | assumption)
              obtain ⟨ad422, A422_1, c422_1, e422, hx422_0, hx422_1, hl422_1, hi422_1⟩ := at_T36 HR1_1.out x6_3 p422 q422
              obtain rfl : ad420 = ad422 := (by injection e422)
              replace hx422_0 := cc_ HB hx422_0
              replace hx422_1 := cc_ HB hx422_1
              have HR422_1 := Aside0.mk hi422_1; have HC422_1 := Aside0.mk hl422_1; clear hi422_1 hl422_1
              replace p422 := eq_true p422
              replace q422 := eq_true q422
              have ea_ := Option.some.inj (hx420_1.symm.trans hx422_1)
              injection ea_ with ea_ en_ ec_
              subst ea_; subst ec_; clear en_
              go_wp2_with (first | (go_at_call 12; (with_reducible refine (laws_sameBytes.calls _ _ ((rd_T36 l0_1 x6_3).f1) _ _ ((rd_T36 l1_1 x6_3).f1) false _ ?side1 ?side2 ?side3 ?side4 A30.out).mono ?_); (case side1 => exact kC_ (Kd.C_below HR421_1.out HB.out)); (case side2 => exact HC421_1.out); (case side3 => exact kC_ (Kd.C_below HR422_1.out HB.out)); (case side4 => exact HC422_1.out); rintro e w' ⟨rfl, ⟨nd, rfl⟩⟩; (try first | exact ⟨rfl, _, World.drewN_drewN _ _ _⟩ | exact ⟨rfl, _, Eq.trans (World.drewN_drewN _ _ _) (congrArg (World.drewN _) (Nat.add_assoc _ _ _))⟩)))
              repeat (go_quiet (first | (go_at_call 12; (with_reducible refine (laws_sameBytes.calls _ _ ((rd_T36 l0_1 x6_3).f1) _ _ ((rd_T36 l1_1 x6_3).f1) false _ ?side1 ?side2 ?side3 ?side4 A30.out).mono ?_); (case side1 => exact kC_ (Kd.C_below HR421_1.out HB.out)); (case side2 => exact HC421_1.out); (case side3 => exact kC_ (Kd.C_below HR422_1.out HB.out)); (case side4 => exact HC422_1.out); rintro e w' ⟨rfl, ⟨nd, rfl⟩⟩; (try first | exact ⟨rfl, _, World.drewN_drewN _ _ _⟩ | exact ⟨rfl, _, Eq.trans (World.drewN_drewN _ _ _) (congrArg (World.drewN _) (Nat.add_assoc _ _ _))⟩))); try go_wp2_with (first | (go_at_call 12; (with_reducible refine (laws_sameBytes.calls _ _ ((rd_T36 l0_1 x6_3).f1) _ _ ((rd_T36 l1_1 x6_3).f1) false _ ?side1 ?side2 ?side3 ?side4 A30.out).mono ?_); (case side1 => exact kC_ (Kd.C_below HR421_1.out HB.out)); (case side2 => exact HC421_1.out); (case side3 => exact kC_ (Kd.C_below HR422_1.out HB.out)); (case side4 => exact HC422_1.out); rintro e w' ⟨rfl, ⟨nd, rfl⟩⟩; (try first | exact ⟨rfl, _, World.drewN_drewN _ _ _⟩ | exact ⟨rfl, _, Eq.trans (World.drewN_drewN _ _ _) (congrArg (World.drewN _) (Nat.add_assoc _ _ _))⟩))))
              go_ret
              exact ⟨by first | rfl | (simp [errW_none, errW_some] <;> rfl) | (simp [*, errW_none, errW_some] <;> rfl), hbA_ HB.out⟩
            ·rw [if_neg c29] at H
             have c29b0 : (((rd_T36 l0_1 x6_3).f0) == ((rd_T36 l1_1 x6_3).f0)) = false := beq_eq_false_iff_ne.mpr c29
             have c29b1 : (((rd_T36 l0_1 x6_3).f0) != ((rd_T36 l1_1 x6_3).f0)) = true := bne_iff_ne.mpr c29
             obtain rfl := Option.some.inj H
             have hnb38 := NB415_416.out; have hnc38 := NB416_415.out; have Z39 := zz2 BK415
             have p419 : 0 ≤ (x6_3 : Int) := of_decide_eq_true (by first | (with_reducible assumption) | assumption)
             have q419 : x6_3 < (l0_1.length : Int) := of_decide_eq_true (by first | (with_reducible assumption) | assumption)
             obtain ⟨ad419, A419_1, c419_1, e419, hx419_0, hx419_1, hl419_1, hi419_1⟩ := at_T36 HR0_1.out x6_3 p419 q419
             cases e419
             replace hx419_0 := cc_ HB hx419_0
             replace hx419_1 := cc_ HB hx419_1
             have HR419_1 := Aside0.mk hi419_1; have HC419_1 := Aside0.mk hl419_1; clear hi419_1 hl419_1
             replace p419 := eq_true p419
             replace q419 := eq_true q419
             have Z40 := zz2 BK416
             have p420 : 0 ≤ (x6_3 : Int) := of_decide_eq_true (by first | (with_reducible assumption) | assumption)
             have q420 : x6_3 < (l1_1.length : Int) := of_decide_eq_true (by first | (with_reducible assumption) | assumption)
             obtain ⟨ad420, A420_1, c420_1, e420, hx420_0, hx420_1, hl420_1, hi420_1⟩ := at_T36 HR1_1.out x6_3 p420 q420
             cases e420
             replace hx420_0 := cc_ HB hx420_0
             replace hx420_1 := cc_ HB hx420_1
             have HR420_1 := Aside0.mk hi420_1; have HC420_1 := Aside0.mk hl420_1; clear hi420_1 hl420_1
             replace p420 := eq_true p420
             replace q420 := eq_true q420
             go_wp2
             repeat (go_quiet (fail); try go_wp2)
             go_ret
             exact ⟨by first | rfl | (simp [errW_none, errW_some] <;> rfl) | (simp [*, errW_none, errW_some] <;> rfl), hbA_ HB.out⟩
           ·rw [if_neg c28] at H
            exact absurd H (by simp)
          ·rw [if_neg c27] at H
           exact absurd H (by simp)
         ·rw [if_neg c26] at H
          have c26b0 : decide (x6_3 < (l0_1.length : Int)) = false := decide_eq_false c26
          clear c26
          obtain rfl := Option.some.inj H
          have hnb41 := NB415_416.out; have hnc41 := NB416_415.out; have Z42 := zz2 BK415
          go_wp2
          repeat (go_quiet (fail); try go_wp2)
          go_ret
          exact ⟨by first | rfl | (simp [errW_none, errW_some] <;> rfl) | (simp [*, errW_none, errW_some] <;> rfl), hbA_ HB.out⟩
def impl_bytesOf.l0 : Nat → Int → List Int → Int → Option (List Int)
 | 0, _, _, _ => none
 | k + 1, x0, x5, x6 => if x6 ≥ 0 then (if 0 ≤ x6 then (if x6 < (x5.length : Int) then (impl_bytesOf.l0 k (x0 / 256) (x5.set (x6 : Int).toNat ((x0) % 256)) (wrap64 (x6 - 1))) else (none)) else (none)) else (some x5)
def impl_bytesOf.f (k : Nat) (a0 : Int) (a1 : Int) : Option (List Int) := if 0 ≤ a1 then (if (a1 : Int).toNat ≤ 281474976710656 then (impl_bytesOf.l0 k a0 (List.replicate (a1 : Int).toNat 0) (wrap64 (a1 - 1))) else (none)) else (none)
theorem impl_bytesOf.mono_l : ∀ k, (∀ y0 y1 y2, LeO (impl_bytesOf.l0 k y0 y1 y2) (impl_bytesOf.l0 (k + 1) y0 y1 y2))
 | 0 => fun _ _ _ r h => by simp [impl_bytesOf.l0] at h
 | k + 1 => by
  have ih0 := impl_bytesOf.mono_l k
  ·intro y0 y1 y2
   unfold impl_bytesOf.l0
   repeat' first | (with_reducible first | apply ih0 | exact LeO.refl _ | exact LeO.none _ | refine LeO.ite ?_ ?_ | refine LeO.bind ?_ fun _ => ?_) | apply ih0 | exact LeO.none _ | refine LeO.ite ?_ ?_ | refine LeO.bind ?_ fun _ => ?_
theorem impl_bytesOf.mono : ∀ a0 a1 k, LeO (impl_bytesOf.f k a0 a1) (impl_bytesOf.f (k + 1) a0 a1) := by
 intro a0 a1 k
 have ih0 := impl_bytesOf.mono_l k
 unfold impl_bytesOf.f
 repeat' first | (with_reducible first | apply ih0 | exact LeO.refl _ | exact LeO.none _ | refine LeO.ite ?_ ?_ | refine LeO.bind ?_ fun _ => ?_) | apply ih0 | exact LeO.none _ | refine LeO.ite ?_ ?_ | refine LeO.bind ?_ fun _ => ?_
set_option maxHeartbeats 8000000 in
set_option maxRecDepth 100000 in
theorem impl_bytesOf.calls (k : Nat) (a0 : Int) (a1 : Int) (r : List Int) (w : World) (h : impl_bytesOf.f k a0 a1 = some r) :
  Calls Try.prog 56 #[.int .i64 a0, .int .i64 a1] w fun e w' => ∃ v0_ : Value, e = .returned (v0_) ∧ Kd.R (Kd.int .u8) 5 w' w.heap.size (fun _ => True) v0_ r ∧ Below w.heap.size w w' := by
 have HB := Aside0.mk (Below.refl w.heap.size w)
 have H : (if 0 ≤ a1 then (if (a1 : Int).toNat ≤ 281474976710656 then (impl_bytesOf.l0 k a0 (List.replicate (a1 : Int).toNat 0) (wrap64 (a1 - 1))) else (none)) else (none)) = some r := h
 clear h
 by_cases c3 : 0 ≤ a1
 ·rw [if_pos c3] at H
  have c3b0 := eq_true c3
  have c3b1 : decide (0 ≤ a1) = true := decide_eq_true c3
  clear c3
  by_cases c4 : (a1 : Int).toNat ≤ 281474976710656
  ·rw [if_pos c4] at H
   have c4b0 := eq_true c4
   have c4b1 : decide ((a1 : Int).toNat ≤ 281474976710656) = true := decide_eq_true c4
   clear c4
   obtain ⟨y424, hy424⟩ : ∃ y_ : List Int, y_ = (List.replicate (a1 : Int).toNat 0) := ⟨_, rfl⟩
   (first | replace H := sb_ hy424 H | rw [← hy424] at H)
   have Ny424 := Aside0.mk hy424; clear hy424
   have H' := Aside0.mk H
   clear H
   go_enter Try.func56, Try.ntmps56
   go_wp2_with (first | ((with_reducible refine gate_dst (N := 8) rfl ?_); refine Kd.R_make (Kd.int .u8) _ 5 rfl (N := 8) rfl 22 _ _ rfl a1 rfl rfl Try.underlying22 (.int .u8 0) 1 info5 rfl (by decide) (by omega) 0 (ok := fun _ => True) (okp := fun _ => True) rfl (fun _ hk => hk) trivial (of_decide_eq_true (by first | (with_reducible assumption) | assumption)) (Nat.le_trans (Nat.mul_le_mul_right _ (of_decide_eq_true (by first | (with_reducible assumption) | assumption) : a1.toNat ≤ 281474976710656)) (by omega)) (Below.refl _ _) (Nat.le_refl _) ?_; intro v425 w5 ho6 hb hg_ hnew_; clear hg_ hnew_; (first | rw [← Ny424.out] at ho6 | (simp only [Int.reduceToNat] at ho6; rw [← Ny424.out] at ho6)); have HO426 := Aside0.mk (Kd.R_lower ho6 (below_size (hbA_ HB.out))); replace HB := (bs_ HB hb); clear hb ho6))
   go_loopg [0, 6] k (fun kq v0 v6 w' => ∃ (x0_1 : Int) (x5_1 : List Int) (x6_1 : Int), v0 = .int .i64 x0_1 ∧ v6 = .int .i64 x6_1 ∧ Aside0 (impl_bytesOf.l0 kq x0_1 x5_1 x6_1 = some r) ∧ Aside0 (kq ≤ k) ∧ Aside0 (Kd.R (Kd.int .u8) 5 w' w.heap.size (fun _ => True) v425 x5_1) ∧ Aside0 (Below w.heap.size w w'))
   case atStart => exact ⟨(a0), (y424), (wrap64 (a1 - 1)), (by first | rfl | (simp; done) | (simp [*]; done)), (by first | rfl | (simp; done) | (simp [*]; done)), H', ⟨Nat.le_refl _⟩, ⟨kR_ HO426.out⟩, ⟨hbA_ HB.out⟩⟩
   case round =>
    clear H'; (try clear p2); (try clear c3); (try clear c3b0); (try clear c3b1); (try clear c4); (try clear c4b0); (try clear c4b1); (try clear c5); (try clear p6)
    obtain ⟨x0_1, x5_1, x6_1, rfl, rfl, HA, HK1, HO_5, HB⟩ := hrel
    cases gk with
    | zero => exact absurd HA.out (by simp [impl_bytesOf.l0])
    | succ k1 =>
     have H := HA.out; clear HA
     simp only [impl_bytesOf.l0] at H
     by_cases c7 : x6_1 ≥ 0
     ·rw [if_pos c7] at H
      have c7b0 : decide (0 ≤ x6_1) = true := decide_eq_true c7
      clear c7
      by_cases c8 : 0 ≤ x6_1
      ·rw [if_pos c8] at H
       have c8b0 : decide (0 ≤ x6_1) = true := decide_eq_true c8
       clear c8
       by_cases c9 : x6_1 < (x5_1.length : Int)
       ·rw [if_pos c9] at H
        have c9b0 : decide (x6_1 < (x5_1.length : Int)) = true := decide_eq_true c9
        clear c9
        obtain ⟨y427, hy427⟩ : ∃ y_ : List Int, y_ = (x5_1.set (x6_1 : Int).toNat ((x0_1) % 256)) := ⟨_, rfl⟩
        (first | replace H := sb_ hy427 H | rw [← hy427] at H)
        have Ny427 := Aside0.mk hy427; clear hy427
        have H' := Aside0.mk H
        clear H
        have p10 : 0 ≤ (x6_1 : Int) := of_decide_eq_true (by first | (with_reducible assumption) | assumption)
        have q10 : (x6_1 : Int) < ((x5_1.length : Int) : Int) := of_decide_eq_true (by first | (with_reducible assumption) | assumption)
        obtain ⟨go10, co10, eo10, gb10, gl10, cl10, HG10⟩ := Kd.R_form HO_5.out (by omega)
        (first | cases eo10 | (injection eo10 with ea_ en_ ec_; (first | subst ea_ | (injection ea_ with ea_; subst ea_)); subst ec_; clear en_))
        have GB10 := Aside0.mk gb10; have GG10 := Aside0.mk HG10; clear gb10 gl10 HG10
        obtain ⟨hx10_0, hf10_0⟩ := Kd.R_celln 0 HO_5.out (x6_1 : Int) p10 q10
        replace p10 := eq_true p10
        replace q10 := eq_true q10
        have HP11 := Kd.R_putg HO_5.out (x6_1 : Int) ((x0_1) % 256)
        go_wp2_with (first | ((with_reducible refine gate_store (t := 5) (p := 19) rfl ?_); refine store_event (t := 5) (p := 19) (v := ?vo_w12) (w1 := (wr.setCell ⟨go10, (x6_1 : Int).toNat, none⟩ (.int .u8 ((x0_1) % 256)))) ?hg ?ho ?hn ?hr ?_; (case ho => rfl); (case hg => rfl); (case hn => rfl); (case hr => first | (go_simp; done) | (go_simp; rfl)); intro w12 hw; have hg : wr.grownBy w12 (some go10) := (by rw [hw]; exact HP11.2); have hp_ : Kd.R (Kd.int .u8) 5 w12 w.heap.size (fun _ => True) (.slice (some ⟨go10, 0, none⟩) x5_1.length co10) y427 := (by rw [hw, Ny427.out]; exact HP11.1); clear HP11; replace HO_5 := Aside0.mk (hp_); replace HB := Aside0.mk ((by rw [hw]; exact below_set (HB.out) GB10.out : Below w.heap.size w w12)); clear hg hw hp_))
        go_roundg k1
        case measure => have := HK1.out; omega
        case rel => exact ⟨(x0_1 / 256), (y427), (wrap64 (x6_1 - 1)), (by first | rfl | (simp; done) | (simp [*]; done)), (by first | rfl | (simp; done) | (simp [*]; done)), H', ⟨by have := HK1.out; omega⟩, ⟨kR_ HO_5.out⟩, ⟨hbA_ HB.out⟩⟩
       ·rw [if_neg c9] at H
        exact absurd H (by simp)
      ·rw [if_neg c8] at H
       exact absurd H (by simp)
     ·rw [if_neg c7] at H
      have c7b0 : decide (0 ≤ x6_1) = false := decide_eq_false c7
      clear c7
      obtain rfl := Option.some.inj H
      go_wp2
      go_ret
      exact ⟨_, by first | rfl | (simp [errW_none, errW_some] <;> rfl) | (simp [*, errW_none, errW_some] <;> rfl), kR_ HO_5.out, hbA_ HB.out⟩
  ·rw [if_neg c4] at H
   exact absurd H (by simp)
 ·rw [if_neg c3] at H
  exact absurd H (by simp)
def impl_BytesOf.f (k : Nat) (a0 : Int) (a1 : Int) : Option (List Int) := (impl_in.f a1 1 4).bind fun t428 => (if t428 = true then (if 0 ≤ (wrap64 (8 * a1)) then ((impl_in.f a0 0 (wrap64 ((shl .i64 1 (wrap64 (8 * a1))) - 1))).bind fun t429 => (if t429 = true then ((impl_bytesOf.f k a0 a1).bind fun t430 => (some t430)) else (some ([] : List Int)))) else (none)) else (some ([] : List Int)))
theorem impl_BytesOf.mono : ∀ a0 a1 k, LeO (impl_BytesOf.f k a0 a1) (impl_BytesOf.f (k + 1) a0 a1) := by
 intro a0 a1 k
 unfold impl_BytesOf.f
 repeat' first | (with_reducible first | apply impl_bytesOf.mono | exact LeO.refl _ | exact LeO.none _ | refine LeO.ite ?_ ?_ | refine LeO.bind ?_ fun _ => ?_) | apply impl_bytesOf.mono | exact LeO.none _ | refine LeO.ite ?_ ?_ | refine LeO.bind ?_ fun _ => ?_
set_option maxHeartbeats 8000000 in
set_option maxRecDepth 100000 in
theorem impl_BytesOf.calls (k : Nat) (a0 : Int) (a1 : Int) (r : List Int) (w : World) (h : impl_BytesOf.f k a0 a1 = some r) :
  Calls Try.prog 36 #[.int .i64 a0, .int .i64 a1] w fun e w' => ∃ v0_ : Value, e = .returned (v0_) ∧ Kd.R (Kd.int .u8) 5 w' w.heap.size (fun _ => True) v0_ r ∧ Below w.heap.size w w' := by
 have HB := Aside0.mk (Below.refl w.heap.size w)
 have H : ((impl_in.f a1 1 4).bind fun t428 => (if t428 = true then (if 0 ≤ (wrap64 (8 * a1)) then ((impl_in.f a0 0 (wrap64 ((shl .i64 1 (wrap64 (8 * a1))) - 1))).bind fun t429 => (if t429 = true then ((impl_bytesOf.f k a0 a1).bind fun t430 => (some t430)) else (some ([] : List Int)))) else (none)) else (some ([] : List Int)))) = some r := h
 clear h
 replace H := Option.bind_eq_some_iff.mp H
 obtain ⟨t428, A30, H⟩ := H
 (try dsimp only at H)
 have A3 := Aside0.mk A30; clear A30
 by_cases c4 : t428 = true
 ·subst c4
  rw [if_pos rfl] at H
  obtain ⟨ji5, hji5⟩ : ∃ j_ : Int, (wrap64 (8 * a1)) = j_ := ⟨_, rfl⟩
  (first | rw [hji5] at H | simp only [hji5] at H)
  (try rw [hji5] at A3)
  have hji5w : (IntKind.i64.wrap (8 * a1)) = ji5 := (i64_w _).trans hji5
  by_cases c6 : 0 ≤ (ji5)
  ·rw [if_pos c6] at H
   have c6b0 := eq_true c6
   have c6b1 : decide (0 ≤ (ji5)) = true := decide_eq_true c6
   clear c6
   obtain ⟨ji7, hji7⟩ : ∃ j_ : Int, (shl .i64 1 (ji5)) = j_ := ⟨_, rfl⟩
   (first | rw [hji7] at H | simp only [hji7] at H)
   (try rw [hji7] at A3)
   have hji7_ : (IntKind.i64.wrap (1 * 2 ^ min (ji5).toNat 64)) = ji7 := hji7
   have hji7z : (ji5) ≤ 64 → (IntKind.i64.wrap (1 * 2 ^ (ji5).toNat)) = ji7 := shl_small hji7
   have hji7u : (IntKind.i64.wrap (2 ^ min (ji5).toNat 64)) = ji7 := by have h_ := hji7_; rw [Int.one_mul] at h_; exact h_
   have hji7v : (ji5) ≤ 64 → (IntKind.i64.wrap (2 ^ (ji5).toNat)) = ji7 := fun hle_ => by have h_ := hji7z hle_; rw [Int.one_mul] at h_; exact h_
   have hji7y : (wrap64 (1 * 2 ^ min (ji5).toNat 64)) = ji7 := (i64_w _).symm.trans hji7_
   have hji7x : (ji5) ≤ 64 → (wrap64 (1 * 2 ^ (ji5).toNat)) = ji7 := fun h_ => (i64_w _).symm.trans (hji7z h_)
   replace H := Option.bind_eq_some_iff.mp H
   obtain ⟨t429, A80, H⟩ := H
   (try dsimp only at H)
   have A8 := Aside0.mk A80; clear A80
   by_cases c9 : t429 = true
   ·subst c9
    rw [if_pos rfl] at H
    replace H := Option.bind_eq_some_iff.mp H
    obtain ⟨t430, A100, H⟩ := H
    (try dsimp only at H)
    have A10 := Aside0.mk A100; clear A100
    obtain rfl := Option.some.inj H
    go_enter Try.func36, Try.ntmps36
    go_wp2_with (first | ((with_reducible refine gate_callee (f := 26) rfl ?_); refine goesL_ (some 6) rfl rfl Try.func26 (by kernel_rfl) rfl #[.int .i64 a1, .int .i64 1, .int .i64 4] rfl ar_ ?_; (with_reducible refine (impl_in.calls a1 1 4 true _ A3.out).mono ?_); rintro e w' ⟨rfl, ⟨nd, rfl⟩⟩; refine ⟨_, rfl, ?_⟩) | (go_at_call 26; (with_reducible refine (impl_in.calls a0 0 (wrap64 ((ji7) - 1)) true _ A8.out).mono ?_); rintro e w' ⟨rfl, ⟨nd, rfl⟩⟩) | ((with_reducible refine gate_callee (f := 56) rfl ?_); refine goesL_ (some 19) rfl rfl Try.func56 (by kernel_rfl) rfl #[.int .i64 a0, .int .i64 a1] rfl ar_ ?_; (with_reducible refine (impl_bytesOf.calls k a0 a1 t430 _ A10.out).mono ?_); rintro e w11 ⟨v431, rfl, ho0, hb⟩; refine ⟨_, rfl, ?_⟩; have HO432 := Aside0.mk (Kd.R_lower ho0 (below_size (hbA_ HB.out))); replace HB := (bs_ HB hb); (try clear hb); (try clear hb2); (try clear hk); (try clear hi); (try clear ho0)))
    go_ret
    exact ⟨_, by first | rfl | (simp [errW_none, errW_some] <;> rfl) | (simp only [← hji5, ← hji7]; first | rfl | (simp [errW_none, errW_some] <;> rfl)) | (simp [*, errW_none, errW_some] <;> rfl), kR_ HO432.out, hbA_ HB.out⟩
   ·replace c9 := Bool.eq_false_iff.mpr c9
    subst c9
    rw [if_neg (show ¬ (false = true) by decide)] at H
    obtain rfl := Option.some.inj H
    go_enter Try.func36, Try.ntmps36
    go_wp2_with (first | ((with_reducible refine gate_callee (f := 26) rfl ?_); refine goesL_ (some 6) rfl rfl Try.func26 (by kernel_rfl) rfl #[.int .i64 a1, .int .i64 1, .int .i64 4] rfl ar_ ?_; (with_reducible refine (impl_in.calls a1 1 4 true _ A3.out).mono ?_); rintro e w' ⟨rfl, ⟨nd, rfl⟩⟩; refine ⟨_, rfl, ?_⟩) | (go_at_call 26; (with_reducible refine (impl_in.calls a0 0 (wrap64 ((ji7) - 1)) false _ A8.out).mono ?_); rintro e w' ⟨rfl, ⟨nd, rfl⟩⟩))
    go_ret
    exact ⟨_, by first | rfl | (simp [errW_none, errW_some] <;> rfl) | (simp only [← hji5, ← hji7]; first | rfl | (simp [errW_none, errW_some] <;> rfl)) | (simp [*, errW_none, errW_some] <;> rfl), by first | exact Kd.R_nil _ _ _ _ _ | exact Kd.N_nil _ _ _ _ _ | exact Kd.V_nil _ _ _ _ _ | exact Kd.Q_nil _ _ _ _ _ | exact Kd.S_nil _ _ _ _ _, hbA_ HB.out⟩
  ·rw [if_neg c6] at H
   exact absurd H (by simp)
 ·replace c4 := Bool.eq_false_iff.mpr c4
  subst c4
  rw [if_neg (show ¬ (false = true) by decide)] at H
  obtain rfl := Option.some.inj H
  go_enter Try.func36, Try.ntmps36
  go_wp2_with (first | ((with_reducible refine gate_callee (f := 26) rfl ?_); refine goesL_ (some 6) rfl rfl Try.func26 (by kernel_rfl) rfl #[.int .i64 a1, .int .i64 1, .int .i64 4] rfl ar_ ?_; (with_reducible refine (impl_in.calls a1 1 4 false _ A3.out).mono ?_); rintro e w' ⟨rfl, ⟨nd, rfl⟩⟩; refine ⟨_, rfl, ?_⟩))
  go_ret
  exact ⟨_, by first | rfl | (simp [errW_none, errW_some] <;> rfl) | (simp [*, errW_none, errW_some] <;> rfl), by first | exact Kd.R_nil _ _ _ _ _ | exact Kd.N_nil _ _ _ _ _ | exact Kd.V_nil _ _ _ _ _ | exact Kd.Q_nil _ _ _ _ _ | exact Kd.S_nil _ _ _ _ _, hbA_ HB.out⟩
def laws_alive.f (k : Nat)  : Option (Bool) := (impl_BytesOf.f k 5 1).bind fun t433 => (if (t433.length : Int) = 1 then ((impl_BytesOf.f k 256 1).bind fun t436 => (some ((t436.length : Int) == 0))) else (some false))
theorem laws_alive.mono : ∀ k, LeO (laws_alive.f k ) (laws_alive.f (k + 1) ) := by
 intro  k
 unfold laws_alive.f
 repeat' first | (with_reducible first | apply impl_BytesOf.mono | exact LeO.refl _ | exact LeO.none _ | refine LeO.ite ?_ ?_ | refine LeO.bind ?_ fun _ => ?_) | apply impl_BytesOf.mono | exact LeO.none _ | refine LeO.ite ?_ ?_ | refine LeO.bind ?_ fun _ => ?_
set_option maxHeartbeats 8000000 in
set_option maxRecDepth 100000 in
theorem laws_alive.calls (k : Nat)  (r : Bool) (w : World) (h : laws_alive.f k  = some r) :
  Calls Try.prog 10 #[] w fun e w' => e = .returned (.bool r) ∧ Below w.heap.size w w' := by
 have HB := Aside0.mk (Below.refl w.heap.size w)
 have H : ((impl_BytesOf.f k 5 1).bind fun t433 => (if (t433.length : Int) = 1 then ((impl_BytesOf.f k 256 1).bind fun t436 => (some ((t436.length : Int) == 0))) else (some false))) = some r := h
 clear h
 replace H := Option.bind_eq_some_iff.mp H
 obtain ⟨t433, A10, H⟩ := H
 (try dsimp only at H)
 have A1 := Aside0.mk A10; clear A10
 by_cases c2 : (t433.length : Int) = 1
 ·rw [if_pos c2] at H
  have c2b0 : ((t433.length : Int) == 1) = true := beq_iff_eq.mpr c2
  have c2b1 : ((t433.length : Int) != 1) = false := bne_eq_false_iff_eq.mpr c2
  clear c2
  replace H := Option.bind_eq_some_iff.mp H
  obtain ⟨t436, A30, H⟩ := H
  (try dsimp only at H)
  have A3 := Aside0.mk A30; clear A30
  obtain rfl := Option.some.inj H
  go_enter Try.func10, Try.ntmps10
  go_wp2_with (first | ((with_reducible refine gate_callee (f := 36) rfl ?_); refine goesL_ (some 1) rfl rfl Try.func36 (by kernel_rfl) rfl #[.int .i64 5, .int .i64 1] rfl ar_ ?_; (with_reducible refine (impl_BytesOf.calls k 5 1 t433 _ A1.out).mono ?_); rintro e w4 ⟨v434, rfl, ho0, hb⟩; refine ⟨_, rfl, ?_⟩; have HO435 := Aside0.mk (Kd.R_lower ho0 (below_size (hbA_ HB.out))); replace HB := (bs_ HB hb); (try clear hb); (try clear hb2); (try clear hk); (try clear hi); (try clear ho0); obtain ⟨Ao5, co5, eo5⟩ := Kd.R_slice HO435.out; subst eo5) | (go_at_call 36; (with_reducible refine (impl_BytesOf.calls k 256 1 t436 _ A3.out).mono ?_); rintro e w6 ⟨v437, rfl, ho0, hb⟩; have HO438 := Aside0.mk (Kd.R_lower (Kd.R_new' ho0 (Kd.R_lt (kR_ HO435.out))) (below_size (hbA_ HB.out))); replace HO435 := Aside0.mk (Kd.R_elder' (kR_ HO435.out) (Kd.R_base ho0) hb); replace HB := (bs_ HB hb); (try clear hb); (try clear hb2); (try clear hk); (try clear hi); (try clear ho0); obtain ⟨Ao7, co7, eo7⟩ := Kd.R_slice HO438.out; subst eo7))
  go_ret
  exact ⟨by first | rfl | (simp [errW_none, errW_some] <;> rfl) | (simp [*, errW_none, errW_some] <;> rfl), hbA_ HB.out⟩
 ·rw [if_neg c2] at H
  have c2b0 : ((t433.length : Int) == 1) = false := beq_eq_false_iff_ne.mpr c2
  have c2b1 : ((t433.length : Int) != 1) = true := bne_iff_ne.mpr c2
  obtain rfl := Option.some.inj H
  go_enter Try.func10, Try.ntmps10
  go_wp2_with (first | ((with_reducible refine gate_callee (f := 36) rfl ?_); refine goesL_ (some 1) rfl rfl Try.func36 (by kernel_rfl) rfl #[.int .i64 5, .int .i64 1] rfl ar_ ?_; (with_reducible refine (impl_BytesOf.calls k 5 1 t433 _ A1.out).mono ?_); rintro e w8 ⟨v434, rfl, ho0, hb⟩; refine ⟨_, rfl, ?_⟩; have HO435 := Aside0.mk (Kd.R_lower ho0 (below_size (hbA_ HB.out))); replace HB := (bs_ HB hb); (try clear hb); (try clear hb2); (try clear hk); (try clear hi); (try clear ho0); obtain ⟨Ao9, co9, eo9⟩ := Kd.R_slice HO435.out; subst eo9))
  go_ret
  exact ⟨by first | rfl | (simp [errW_none, errW_some] <;> rfl) | (simp [*, errW_none, errW_some] <;> rfl), hbA_ HB.out⟩
def impl_NearFind.f (k : Nat) (l0_0 : List (S60)) (l0_1 : List (S36)) (a1 : Int) (a2 : Int) : Option (Int) := (impl_NearOk.f k l0_0 l0_1).bind fun t440 => (if t440 = true then ((impl_Near_find.f l0_0 l0_1 a1 a2).bind fun t441 => (some t441)) else (some (-1)))
theorem impl_NearFind.mono : ∀ a0 a1 a2 a3 k, LeO (impl_NearFind.f k a0 a1 a2 a3) (impl_NearFind.f (k + 1) a0 a1 a2 a3) := by
 intro a0 a1 a2 a3 k
 unfold impl_NearFind.f
 repeat' first | (with_reducible first | apply impl_NearOk.mono | exact LeO.refl _ | exact LeO.none _ | refine LeO.ite ?_ ?_ | refine LeO.bind ?_ fun _ => ?_) | apply impl_NearOk.mono | exact LeO.none _ | refine LeO.ite ?_ ?_ | refine LeO.bind ?_ fun _ => ?_
set_option maxHeartbeats 8000000 in
set_option maxRecDepth 100000 in
theorem impl_NearFind.calls (k : Nat) (A0_0 : Option Addr) (c0_0 : Nat) (l0_0 : List (S60)) (A0_1 : Option Addr) (c0_1 : Nat) (l0_1 : List (S36)) (a1 : Int) (a2 : Int) (r : Int) (w : World) (hr0_0 : Kd.C k60 w A0_0 l0_0.length l0_0) (hc0_0 : l0_0.length ≤ c0_0) (hr0_1 : Kd.C k36 w A0_1 l0_1.length l0_1) (hc0_1 : l0_1.length ≤ c0_1) (h : impl_NearFind.f k l0_0 l0_1 a1 a2 = some r) :
  Calls Try.prog 11 #[.agg #[.slice A0_0 l0_0.length c0_0, .slice A0_1 l0_1.length c0_1], .int .i64 a1, .int .i64 a2] w fun e w' => e = .returned (.int .i64 r) ∧ Below w.heap.size w w' := by
 have hu26 := Try.underlying26; have HR0_0 := Aside0.mk hr0_0; have HC0_0 := Aside0.mk hc0_0; clear hr0_0 hc0_0; have HR0_1 := Aside0.mk hr0_1; have HC0_1 := Aside0.mk hc0_1; clear hr0_1 hc0_1
 have HB := Aside0.mk (Below.refl w.heap.size w)
 have H : ((impl_NearOk.f k l0_0 l0_1).bind fun t440 => (if t440 = true then ((impl_Near_find.f l0_0 l0_1 a1 a2).bind fun t441 => (some t441)) else (some (-1)))) = some r := h
 clear h
 replace H := Option.bind_eq_some_iff.mp H
 obtain ⟨t440, A40, H⟩ := H
 (try dsimp only at H)
 have A4 := Aside0.mk A40; clear A40
 by_cases c5 : t440 = true
 ·subst c5
  rw [if_pos rfl] at H
  replace H := Option.bind_eq_some_iff.mp H
  obtain ⟨t441, A60, H⟩ := H
  (try dsimp only at H)
  have A6 := Aside0.mk A60; clear A60
  obtain rfl := Option.some.inj H
  go_enter Try.func11, Try.ntmps11
  go_wp2_with (first | ((with_reducible refine gate_dst (N := 3) rfl ?_); refine box_ (N := 3) (cs := #[.slice A0_0 l0_0.length c0_0, .slice A0_1 l0_1.length c0_1]) (t := 26) (fun gb439 hg w7 hbox hb => ?_); have BK439 := Aside0.mk (hbox); have GW439 := ge_ hg HB; have GE439 := ge_ hg HB; replace HB := (bs_ HB hb); clear hb hbox hg; have Z8 := zz2 BK439) | ((with_reducible refine gate_callee (f := 9) rfl ?_); refine goesL_ (some 8) rfl rfl Try.func9 (by kernel_rfl) rfl #[.agg #[.slice A0_0 l0_0.length c0_0, .slice A0_1 l0_1.length c0_1]] rfl ar_ ?_; (with_reducible refine (impl_NearOk.calls k _ _ l0_0 _ _ l0_1 true _ ?side1 ?side2 ?side3 ?side4 A4.out).mono ?_); (case side1 => exact kC_ (Kd.C_below HR0_0.out HB.out)); (case side2 => exact HC0_0.out); (case side3 => exact kC_ (Kd.C_below HR0_1.out HB.out)); (case side4 => exact HC0_1.out); rintro e w9 ⟨rfl, hb⟩; refine ⟨_, rfl, ?_⟩; replace BK439 := (bbA_ BK439 hb); replace HB := (bs_ HB hb); (try clear hb); (try clear hb2); (try clear hk); (try clear hi); have Z10 := zz2 BK439) | ((with_reducible refine gate_callee (f := 27) rfl ?_); refine goesL_ (some 13) rfl rfl Try.func27 (by kernel_rfl) rfl #[.agg #[.slice A0_0 l0_0.length c0_0, .slice A0_1 l0_1.length c0_1], .int .i64 a1, .int .i64 a2] rfl ar_ ?_; (with_reducible refine (impl_Near_find.calls _ _ l0_0 _ _ l0_1 a1 a2 t441 _ ?side1 ?side2 ?side3 ?side4 A6.out).mono ?_); (case side1 => exact kC_ (Kd.C_below HR0_0.out HB.out)); (case side2 => exact HC0_0.out); (case side3 => exact kC_ (Kd.C_below HR0_1.out HB.out)); (case side4 => exact HC0_1.out); rintro e w11 ⟨rfl, hb⟩; refine ⟨_, rfl, ?_⟩; replace BK439 := (bbA_ BK439 hb); replace HB := (bs_ HB hb); (try clear hb); (try clear hb2); (try clear hk); (try clear hi)))
  go_ret
  exact ⟨by first | rfl | (simp [errW_none, errW_some] <;> rfl) | (simp [*, errW_none, errW_some] <;> rfl), hbA_ HB.out⟩
 ·replace c5 := Bool.eq_false_iff.mpr c5
  subst c5
  rw [if_neg (show ¬ (false = true) by decide)] at H
  obtain rfl := Option.some.inj H
  go_enter Try.func11, Try.ntmps11
  go_wp2_with (first | ((with_reducible refine gate_dst (N := 3) rfl ?_); refine box_ (N := 3) (cs := #[.slice A0_0 l0_0.length c0_0, .slice A0_1 l0_1.length c0_1]) (t := 26) (fun gb439 hg w12 hbox hb => ?_); have BK439 := Aside0.mk (hbox); have GW439 := ge_ hg HB; have GE439 := ge_ hg HB; replace HB := (bs_ HB hb); clear hb hbox hg; have Z13 := zz2 BK439) | ((with_reducible refine gate_callee (f := 9) rfl ?_); refine goesL_ (some 8) rfl rfl Try.func9 (by kernel_rfl) rfl #[.agg #[.slice A0_0 l0_0.length c0_0, .slice A0_1 l0_1.length c0_1]] rfl ar_ ?_; (with_reducible refine (impl_NearOk.calls k _ _ l0_0 _ _ l0_1 false _ ?side1 ?side2 ?side3 ?side4 A4.out).mono ?_); (case side1 => exact kC_ (Kd.C_below HR0_0.out HB.out)); (case side2 => exact HC0_0.out); (case side3 => exact kC_ (Kd.C_below HR0_1.out HB.out)); (case side4 => exact HC0_1.out); rintro e w14 ⟨rfl, hb⟩; refine ⟨_, rfl, ?_⟩; replace BK439 := (bbA_ BK439 hb); replace HB := (bs_ HB hb); (try clear hb); (try clear hb2); (try clear hk); (try clear hi)))
  go_ret
  exact ⟨by first | rfl | (simp [errW_none, errW_some] <;> rfl) | (simp [*, errW_none, errW_some] <;> rfl), hbA_ HB.out⟩
mutual
def laws_FnNearSend.j0 : Nat → Int → List Int → Int → Int → Bool → List (S60) → List (S36) → List (S60) → List (S36) → Option (Bool)
 | 0, _, _, _, _, _, _, _, _, _ => none
 | k + 1, x4, x5, x6, x8, x46, x454000, x454001, x462000, x462001 => if x46 = true then (some false) else ((impl_NearOk.f k x454000 x454001).bind fun t471 => (if t471 = true then (if x4 > 65535 then (laws_FnNearSend.j1 k x4 x5 x6 x8 true x454000 x454001 x462000 x462001) else (laws_FnNearSend.j1 k x4 x5 x6 x8 (decide (x6 < 0)) x454000 x454001 x462000 x462001)) else (laws_FnNearSend.j1 k x4 x5 x6 x8 true x454000 x454001 x462000 x462001)))
def laws_FnNearSend.j1 : Nat → Int → List Int → Int → Int → Bool → List (S60) → List (S36) → List (S60) → List (S36) → Option (Bool)
 | 0, _, _, _, _, _, _, _, _, _ => none
 | k + 1, x4, x5, x6, x8, x57, x454000, x454001, x462000, x462001 => if x57 = true then (if x8 = (-1) then ((laws_alive.f k).bind fun t472 => (some t472)) else (some false)) else (if x8 ≥ 0 then ((laws_sameNear.f k x462000 x462001 x454000 x454001).bind fun t473 => (if t473 = true then ((impl_NearFind.f k x454000 x454001 x4 x6).bind fun t474 => (some (x8 == t474))) else (some false))) else ((impl_NearOk.f k x462000 x462001).bind fun t475 => (if t475 = true then (if (x462001.length : Int) > 0 then (if 0 ≤ (wrap64 ((x462001.length : Int) - 1)) then (if (wrap64 ((x462001.length : Int) - 1)) < (x462001.length : Int) then (if ((rd_T36 x462001 (wrap64 ((x462001.length : Int) - 1))).f0) = x4 then ((laws_sameBytes.f ((rd_T36 x462001 (wrap64 ((x462001.length : Int) - 1))).f1) x5).bind fun t478 => (if t478 = true then (if (x462001.length : Int) = (mn (wrap64 ((x454001.length : Int) + 1)) 4) then ((laws_alive.f k).bind fun t479 => (some t479)) else (some false)) else (some false))) else (some false)) else (none)) else (none)) else (some false)) else (some false))))
end
def laws_FnNearSend.f (k : Nat) (l0 : List Int) : Option (Bool) := if (l0.length : Int) > 1048576 then (some true) else ((spec_DrawNearSend.f k l0).bind fun bt442 => ((impl_NearSend.f k bt442.1 bt442.2.1 bt442.2.2.1 bt442.2.2.2.1 bt442.2.2.2.2).bind fun bt454 => ((spec_NearSend.f k bt442.1 bt442.2.1 bt442.2.2.1 bt442.2.2.2.1 bt442.2.2.2.2).bind fun bt462 => (if bt454.2.2 = bt462.2.2 then ((laws_sameNear.f k bt454.1 bt454.2.1 bt462.1 bt462.2.1).bind fun t470 => (laws_FnNearSend.j0 k bt442.2.2.1 bt442.2.2.2.1 bt442.2.2.2.2 bt454.2.2 (!t470) bt442.1 bt442.2.1 bt454.1 bt454.2.1)) else (laws_FnNearSend.j0 k bt442.2.2.1 bt442.2.2.2.1 bt442.2.2.2.2 bt454.2.2 true bt442.1 bt442.2.1 bt454.1 bt454.2.1)))))
theorem laws_FnNearSend.mono_l : ∀ k, (∀ y0 y1 y2 y3 y4 y5 y6 y7 y8, LeO (laws_FnNearSend.j0 k y0 y1 y2 y3 y4 y5 y6 y7 y8) (laws_FnNearSend.j0 (k + 1) y0 y1 y2 y3 y4 y5 y6 y7 y8)) ∧ (∀ y0 y1 y2 y3 y4 y5 y6 y7 y8, LeO (laws_FnNearSend.j1 k y0 y1 y2 y3 y4 y5 y6 y7 y8) (laws_FnNearSend.j1 (k + 1) y0 y1 y2 y3 y4 y5 y6 y7 y8))
 | 0 => ⟨fun _ _ _ _ _ _ _ _ _ r h => by simp [laws_FnNearSend.j0] at h, fun _ _ _ _ _ _ _ _ _ r h => by simp [laws_FnNearSend.j1] at h⟩
 | k + 1 => by
  obtain ⟨ih0, ih1⟩ := laws_FnNearSend.mono_l k
  refine ⟨?_, ?_⟩
  ·intro y0 y1 y2 y3 y4 y5 y6 y7 y8
   unfold laws_FnNearSend.j0
   repeat' first | (with_reducible first | apply ih0 | apply ih1 | apply impl_NearFind.mono | apply impl_NearOk.mono | apply impl_NearSend.mono | apply laws_alive.mono | apply laws_sameNear.mono | apply spec_DrawNearSend.mono | apply spec_NearSend.mono | exact LeO.refl _ | exact LeO.none _ | refine LeO.ite ?_ ?_ | refine LeO.bind ?_ fun _ => ?_) | apply ih0 | apply ih1 | apply impl_NearFind.mono | apply impl_NearOk.mono | apply impl_NearSend.mono | apply laws_alive.mono | apply laws_sameNear.mono | apply spec_DrawNearSend.mono | apply spec_NearSend.mono | exact LeO.none _ | refine LeO.ite ?_ ?_ | refine LeO.bind ?_ fun _ => ?_
  ·intro y0 y1 y2 y3 y4 y5 y6 y7 y8
   unfold laws_FnNearSend.j1
   repeat' first | (with_reducible first | apply ih0 | apply ih1 | apply impl_NearFind.mono | apply impl_NearOk.mono | apply impl_NearSend.mono | apply laws_alive.mono | apply laws_sameNear.mono | apply spec_DrawNearSend.mono | apply spec_NearSend.mono | exact LeO.refl _ | exact LeO.none _ | refine LeO.ite ?_ ?_ | refine LeO.bind ?_ fun _ => ?_) | apply ih0 | apply ih1 | apply impl_NearFind.mono | apply impl_NearOk.mono | apply impl_NearSend.mono | apply laws_alive.mono | apply laws_sameNear.mono | apply spec_DrawNearSend.mono | apply spec_NearSend.mono | exact LeO.none _ | refine LeO.ite ?_ ?_ | refine LeO.bind ?_ fun _ => ?_
theorem laws_FnNearSend.mono : ∀ a0 k, LeO (laws_FnNearSend.f k a0) (laws_FnNearSend.f (k + 1) a0) := by
 intro a0 k
 obtain ⟨ih0, ih1⟩ := laws_FnNearSend.mono_l k
 unfold laws_FnNearSend.f
 repeat' first | (with_reducible first | apply ih0 | apply ih1 | apply impl_NearFind.mono | apply impl_NearOk.mono | apply impl_NearSend.mono | apply laws_alive.mono | apply laws_sameNear.mono | apply spec_DrawNearSend.mono | apply spec_NearSend.mono | exact LeO.refl _ | exact LeO.none _ | refine LeO.ite ?_ ?_ | refine LeO.bind ?_ fun _ => ?_) | apply ih0 | apply ih1 | apply impl_NearFind.mono | apply impl_NearOk.mono | apply impl_NearSend.mono | apply laws_alive.mono | apply laws_sameNear.mono | apply spec_DrawNearSend.mono | apply spec_NearSend.mono | exact LeO.none _ | refine LeO.ite ?_ ?_ | refine LeO.bind ?_ fun _ => ?_
set_option maxHeartbeats 8000000 in
set_option maxRecDepth 100000 in
theorem laws_FnNearSend.calls (k : Nat) (A0 : Option Addr) (c0 : Nat) (l0 : List Int) (r : Bool) (w : World) (hr0 : Kd.C (Kd.int .u8) w A0 l0.length l0) (hc0 : l0.length ≤ c0) (h : laws_FnNearSend.f k l0 = some r) (hlw : r = true) :
  Calls Try.prog 3 #[.slice A0 l0.length c0] w fun e w' => e = .returned (.bool r) ∧ Below w.heap.size w w' := by
 have hu26 := Try.underlying26; have HLW := Aside0.mk hlw; clear hlw; have HR0 := Aside0.mk hr0; have HC0 := Aside0.mk hc0; clear hr0 hc0
 have HB := Aside0.mk (Below.refl w.heap.size w)
 have H : (if (l0.length : Int) > 1048576 then (some true) else ((spec_DrawNearSend.f k l0).bind fun bt442 => ((impl_NearSend.f k bt442.1 bt442.2.1 bt442.2.2.1 bt442.2.2.2.1 bt442.2.2.2.2).bind fun bt454 => ((spec_NearSend.f k bt442.1 bt442.2.1 bt442.2.2.1 bt442.2.2.2.1 bt442.2.2.2.2).bind fun bt462 => (if bt454.2.2 = bt462.2.2 then ((laws_sameNear.f k bt454.1 bt454.2.1 bt462.1 bt462.2.1).bind fun t470 => (laws_FnNearSend.j0 k bt442.2.2.1 bt442.2.2.2.1 bt442.2.2.2.2 bt454.2.2 (!t470) bt442.1 bt442.2.1 bt454.1 bt454.2.1)) else (laws_FnNearSend.j0 k bt442.2.2.1 bt442.2.2.2.1 bt442.2.2.2.2 bt454.2.2 true bt442.1 bt442.2.1 bt454.1 bt454.2.1)))))) = some r := h
 clear h
 by_cases c2 : (l0.length : Int) > 1048576
 ·rw [if_pos c2] at H
  have c2b0 : decide (1048576 < (l0.length : Int)) = true := decide_eq_true c2
  have c2b1 : decide (1048576 < l0.length) = true := decide_eq_true (by omega)
  clear c2
  obtain rfl := Option.some.inj H
  go_enter Try.func3, Try.ntmps3
  go_wp2
  go_ret
  exact ⟨by first | rfl | (simp [errW_none, errW_some] <;> rfl) | (simp [*, errW_none, errW_some] <;> rfl), hbA_ HB.out⟩
 ·rw [if_neg c2] at H
  have c2b0 : decide (1048576 < (l0.length : Int)) = false := decide_eq_false c2
  have c2b1 : decide (1048576 < l0.length) = false := decide_eq_false (by omega)
  clear c2
  replace H := Option.bind_eq_some_iff.mp H
  obtain ⟨⟨t442, t445, t448, t449, t452⟩, A30, H⟩ := H
  (try dsimp only at H)
  have A3 := Aside0.mk A30; clear A30
  replace H := Option.bind_eq_some_iff.mp H
  obtain ⟨⟨t454, t457, t460⟩, A40, H⟩ := H
  (try dsimp only at H)
  have A4 := Aside0.mk A40; clear A40
  replace H := Option.bind_eq_some_iff.mp H
  obtain ⟨⟨t462, t465, t468⟩, A50, H⟩ := H
  (try dsimp only at H)
  have A5 := Aside0.mk A50; clear A50; have HC6 := Aside0.mk H; clear H
  go_enter Try.func3, Try.ntmps3
  go_upto_region 6 with (first | ((with_reducible refine gate_callee (f := 5) rfl ?_); refine goesL_ (some 17) rfl rfl Try.func5 (by kernel_rfl) rfl #[.slice A0 l0.length c0] rfl ar_ ?_; (with_reducible refine (spec_DrawNearSend.calls k _ _ l0 t442 t445 t448 t449 t452 _ ?side1 ?side2 A3.out).mono ?_); (case side1 => exact kC_ HR0.out); (case side2 => exact HC0.out); rintro e w7 ⟨v443, v446, v450, rfl, ho0, ho1, ho2, hb⟩; refine ⟨_, rfl, ?_⟩; have HO444 := Aside0.mk (Kd.Q_lower ho0 (below_size (hbA_ HB.out))); have HO447 := Aside0.mk (Kd.Q_lower ho1 (below_size (hbA_ HB.out))); have HO451 := Aside0.mk (Kd.R_lower ho2 (below_size (hbA_ HB.out))); replace HB := (bs_ HB hb); (try clear hb); (try clear hb2); (try clear hk); (try clear hi); (try clear ho0); (try clear ho1); (try clear ho2)) | ((with_reducible refine gate_dst (N := 3) rfl ?_); (try (refine gate_guard (by rfl) ?_; dsimp only)); refine box_ (N := 3) (cs := #[.slice none 0 0, .slice none 0 0]) (t := 26) (fun gb453 hg w8 hbox hb => ?_); replace HO444 := Aside0.mk (Kd.Q_below (by (with_reducible repeat (first | apply Kd.Q_alloc | apply Kd.Q_drewN | apply Kd.Q_drew)); exact HO444.out) hb); replace HO447 := Aside0.mk (Kd.Q_below (by (with_reducible repeat (first | apply Kd.Q_alloc | apply Kd.Q_drewN | apply Kd.Q_drew)); exact HO447.out) hb); replace HO451 := Aside0.mk (Kd.R_below (kR_ HO451.out) hb); have BK453 := Aside0.mk (hbox); have GW453 := ge_ hg HB; have GE453 := ge_ hg HB; replace HB := (bs_ HB hb); clear hb hbox hg; obtain ⟨Ao9, co9, eo9, _⟩ := Kd.Q_slice HO444.out; subst eo9; have Z10 := zz2 BK453; obtain ⟨Ao11, co11, eo11, _⟩ := Kd.Q_slice HO447.out; subst eo11) | ((with_reducible refine gate_store (t := 26) (p := 3) rfl ?_); refine store_event (t := 26) (p := 3) (v := ?vo_w12) (w1 := ((w8.setCell ⟨gb453, 0, none⟩ (.slice Ao9 t442.length co9)).setCell ⟨gb453, 1, none⟩ (.slice Ao11 t445.length co11))) ?hg ?ho ?hn ?hr ?_; (case ho => rfl); (case hg => rfl); (case hn => rfl); (case hr => first | (go_simp; done) | (go_simp; rfl)); intro w12 hw; have n0_ : Aside0 (Kd.Q k60 60 w12 w.heap.size (fun _ => True) (.slice Ao9 t442.length co9) t442) := ⟨(by rw [hw]; exact (by (with_reducible repeat (first | apply Kd.Q_alloc | apply Kd.Q_drewN | apply Kd.Q_drew)); exact Kd.Q_mono (Kd.Q_far (p := ⟨gb453, 1, none⟩) (Kd.Q_far (p := ⟨gb453, 0, none⟩) (Kd.Q_types HO444.out BK453.out (by decide)) (fun _ hk => hk.2) (.slice Ao9 t442.length co9)) (fun _ hk => hk.2) (.slice Ao11 t445.length co11)) (fun _ hk => trivial)))⟩; have n1_ : Aside0 (Kd.Q k36 36 w12 w.heap.size (fun k_ => some k_ ≠ (v450 : Value).ownBlock) (.slice Ao11 t445.length co11) t445) := ⟨(by rw [hw]; exact (by (with_reducible repeat (first | apply Kd.Q_alloc | apply Kd.Q_drewN | apply Kd.Q_drew)); exact Kd.Q_mono (Kd.Q_far (p := ⟨gb453, 1, none⟩) (Kd.Q_far (p := ⟨gb453, 0, none⟩) (Kd.Q_types HO447.out BK453.out (by decide)) (fun _ hk => hk.2) (.slice Ao9 t442.length co9)) (fun _ hk => hk.2) (.slice Ao11 t445.length co11)) (fun _ hk => hk.1)))⟩; have n2_ : Aside0 (Kd.R (Kd.int .u8) 5 w12 w.heap.size (fun _ => True) v450 t449) := ⟨(by rw [hw]; exact (by refine kR_ ?_; exact rfm_ ((Kd.R_types HO451.out BK453.out (by decide))) (fun _ hk => trivial)))⟩; have n3_ : Aside0 (w12.heap[gb453]? = some (.cells #[.slice Ao9 t442.length co9, .slice Ao11 t445.length co11] 26 (0, 0))) := ⟨(by rw [hw]; exact (by refine kb_ ?_; refine pz2 (cs := #[.slice none 0 0, .slice none 0 0]) ?_; refine kb_ ?_; exact BK453.out))⟩; have n4_ : Aside0 (Below w.heap.size w w12) := ⟨(by rw [hw]; exact (hbA_ HB.out))⟩; clear hw; clear HO444; clear HO447; clear HO451; clear BK453; clear HB; have HO444 := n0_; have HO447 := n1_; have HO451 := n2_; have BK453 := n3_; have HB := n4_; clear n0_ n1_ n2_ n3_ n4_; have Z13 := zz2 BK453; obtain ⟨Ao14, co14, eo14⟩ := Kd.R_slice HO451.out; subst eo14) | ((with_reducible refine gate_callee (f := 6) rfl ?_); refine goesL_ (some 27) rfl rfl Try.func6 (by kernel_rfl) rfl #[.agg #[.slice Ao9 t442.length co9, .slice Ao11 t445.length co11], .int .i64 t448, .slice Ao14 t449.length co14, .int .i64 t452] rfl ar_ ?_; (with_reducible refine (impl_NearSend.calls k _ _ t442 _ _ t445 t448 (fun k_ => some k_ = (.slice Ao14 t449.length co14 : Value).ownBlock) _ _ t449 t452 t454 t457 t460 _ ?side1 ?side2 ?side3 ?side4 ?side5 A4.out).mono ?_); (case side1 => exact kC_ (Kd.Q_reads' HO444.out).2.2); (case side2 => exact (Kd.Q_reads' HO444.out).2.1); (case side3 => exact kC_ (Kd.Q_reads' HO447.out).2.2); (case side4 => exact (Kd.Q_reads' HO447.out).2.1); (case side5 => exact Kd.R_V (Kd.R_tight rfl (Kd.R_types (Kd.R_apart' (Kd.R_apart' (HO451.out) (Kd.Q_typed HO444.out) (by decide)) (Kd.Q_typed HO447.out) (by decide)) BK453.out (by decide)))); rintro e w15 ⟨v455, v458, rfl, ho0, ho1, hb⟩; refine ⟨_, rfl, ?_⟩; have HO456 := Aside0.mk (Kd.R_lower (Kd.R_new' (Kd.R_mono (ok' := fun k_ => True) ho0 (fun _ hk_ => trivial)) (Kd.Q_lt (by (with_reducible repeat (first | apply Kd.Q_alloc | apply Kd.Q_drewN | apply Kd.Q_drew)); exact HO444.out))) (below_size (hbA_ HB.out))); have HO459 := Aside0.mk (Kd.N_lower (Kd.N_mono (ok' := fun k_ => some k_ ≠ (v455 : Value).ownBlock ∧ some k_ ≠ (.slice Ao9 t442.length co9 : Value).ownBlock ∧ some k_ ≠ (.slice Ao11 t445.length co11 : Value).ownBlock ∧ k_ ≠ gb453) ho1 (fun k_ hk_ => ⟨hk_.2, Or.elim hk_.1 (fun hs_ => ((Kd.R_types (Kd.R_apart' (Kd.R_apart' (HO451.out) (Kd.Q_typed HO444.out) (by decide)) (Kd.Q_typed HO447.out) (by decide)) BK453.out (by decide)).1 k_ hs_.symm).1.1.2) (fun hn_ => (Kd.fresh' (Kd.Q_lt (by (with_reducible repeat (first | apply Kd.Q_alloc | apply Kd.Q_drewN | apply Kd.Q_drew)); exact HO444.out)) k_ hn_)), Or.elim hk_.1 (fun hs_ => ((Kd.R_types (Kd.R_apart' (Kd.R_apart' (HO451.out) (Kd.Q_typed HO444.out) (by decide)) (Kd.Q_typed HO447.out) (by decide)) BK453.out (by decide)).1 k_ hs_.symm).1.2) (fun hn_ => (Kd.fresh' (Kd.Q_lt (by (with_reducible repeat (first | apply Kd.Q_alloc | apply Kd.Q_drewN | apply Kd.Q_drew)); exact HO447.out)) k_ hn_)), Or.elim hk_.1 (fun hs_ => ((Kd.R_types (Kd.R_apart' (Kd.R_apart' (HO451.out) (Kd.Q_typed HO444.out) (by decide)) (Kd.Q_typed HO447.out) (by decide)) BK453.out (by decide)).1 k_ hs_.symm).2) (fun hn_ => (fb_ BK453 k_ hn_))⟩)) (below_size (hbA_ HB.out))); replace HO444 := Aside0.mk (Kd.Q_elder' (by (with_reducible repeat (first | apply Kd.Q_alloc | apply Kd.Q_drewN | apply Kd.Q_drew)); exact HO444.out) (Kd.R_base ho0) hb); replace HO447 := Aside0.mk (Kd.Q_elder' (by (with_reducible repeat (first | apply Kd.Q_alloc | apply Kd.Q_drewN | apply Kd.Q_drew)); exact HO447.out) (Kd.base_ ho1) hb); replace HO451 := Aside0.mk (Kd.R_below (kR_ HO451.out) hb); replace BK453 := (bbA_ BK453 hb); replace HB := (bs_ HB hb); (try clear hb); (try clear hb2); (try clear hk); (try clear hi); (try clear ho0); (try clear ho1)) | ((with_reducible refine gate_dst (N := 7) rfl ?_); (try (refine gate_guard (by rfl) ?_; dsimp only)); refine box_ (N := 7) (cs := #[.slice none 0 0, .slice none 0 0]) (t := 26) (fun gb461 hg w16 hbox hb => ?_); replace HO444 := Aside0.mk (Kd.Q_below (by (with_reducible repeat (first | apply Kd.Q_alloc | apply Kd.Q_drewN | apply Kd.Q_drew)); exact HO444.out) hb); replace HO447 := Aside0.mk (Kd.Q_below (by (with_reducible repeat (first | apply Kd.Q_alloc | apply Kd.Q_drewN | apply Kd.Q_drew)); exact HO447.out) hb); replace HO451 := Aside0.mk (Kd.R_below (kR_ HO451.out) hb); replace HO456 := Aside0.mk (Kd.R_below (kR_ HO456.out) hb); replace HO459 := Aside0.mk (Kd.N_below (Kd.N_elderB (kN_ HO459.out) gb461 (Nat.le_of_eq hg.symm)) hb); have BK461 := Aside0.mk (hbox); have GW461 := ge_ hg HB; have GE461 := ge_ hg HB; replace HB := (bs_ HB hb); have NB453_461 := nl_ hg BK453; have NB461_453 := ng_ hg BK453; replace BK453 := (bbA_ BK453 hb); clear hb hbox hg; obtain ⟨Ao17, co17, eo17⟩ := Kd.R_slice HO456.out; subst eo17; have hnb18 := NB461_453.out; have hnc18 := NB453_461.out; have Z19 := zz2 BK461; obtain ⟨Ao20, co20, eo20⟩ := Kd.N_slice HO459.out; subst eo20; have Z21 := zz2 BK453) | ((with_reducible refine gate_callee (f := 7) rfl ?_); refine goesL_ (some 35) rfl rfl Try.func7 (by kernel_rfl) rfl #[.agg #[.slice Ao9 t442.length co9, .slice Ao11 t445.length co11], .int .i64 t448, .slice Ao14 t449.length co14, .int .i64 t452] rfl ar_ ?_; (with_reducible refine (spec_NearSend.calls k _ _ t442 _ _ t445 t448 _ _ t449 t452 t462 t465 t468 _ ?side1 ?side2 ?side3 ?side4 ?side5 ?side6 A5.out).mono ?_); (case side1 => refine (Kd.Q_reads' (e := 60) (base := w.heap.size) (ok := fun k_ => (True ∧ some k_ ≠ (.slice Ao17 t454.length co17 : Value).ownBlock)) (n := t442.length) (c := co9) ?_).2.2; exact (by (with_reducible repeat (first | apply Kd.Q_alloc | apply Kd.Q_drewN | apply Kd.Q_drew)); exact (Kd.Q_mono (Kd.Q_far (p := ⟨gb461, 1, none⟩) (Kd.Q_far (p := ⟨gb461, 0, none⟩) (Kd.Q_types HO444.out BK461.out (by decide)) (fun _ hk => hk.2) (.slice Ao17 t454.length co17)) (fun _ hk => hk.2) (.slice Ao20 t457.length co20)) (fun _ h_ => op1_ h_)))); (case side2 => exact (Kd.Q_reads' HO444.out).2.1); (case side3 => refine (Kd.Q_reads' (e := 36) (base := w.heap.size) (ok := fun k_ => (some k_ ≠ (.slice Ao14 t449.length co14 : Value).ownBlock ∧ some k_ ≠ (.slice Ao20 t457.length co20 : Value).ownBlock)) (n := t445.length) (c := co11) ?_).2.2; exact (by (with_reducible repeat (first | apply Kd.Q_alloc | apply Kd.Q_drewN | apply Kd.Q_drew)); exact (Kd.Q_mono (Kd.Q_far (p := ⟨gb461, 1, none⟩) (Kd.Q_far (p := ⟨gb461, 0, none⟩) (Kd.Q_types HO447.out BK461.out (by decide)) (fun _ hk => hk.2) (.slice Ao17 t454.length co17)) (fun _ hk => hk.2) (.slice Ao20 t457.length co20)) (fun _ h_ => op1_ h_)))); (case side4 => exact (Kd.Q_reads' HO447.out).2.1); (case side5 => refine (Kd.R_reads' (e := 5) (base := w.heap.size) (ok := fun k_ => True) (n := t449.length) (c := co14) ?_).2.2; exact (by refine kR_ ?_; exact (rfm_ ((Kd.R_types HO451.out BK461.out (by decide))) (fun _ h_ => op1_ h_)))); (case side6 => exact (Kd.R_reads' HO451.out).2.1); rintro e w22 ⟨v463, v466, rfl, ho0, ho1, hb⟩; refine ⟨_, rfl, ?_⟩; have HO464 := Aside0.mk (Kd.R_lower (Kd.R_new' (Kd.R_new' ho0 (Kd.Q_lt (by (with_reducible repeat (first | apply Kd.Q_alloc | apply Kd.Q_drewN | apply Kd.Q_drew)); exact (Kd.Q_mono (Kd.Q_far (p := ⟨gb461, 1, none⟩) (Kd.Q_far (p := ⟨gb461, 0, none⟩) (Kd.Q_types HO444.out BK461.out (by decide)) (fun _ hk => hk.2) (.slice Ao17 t454.length co17)) (fun _ hk => hk.2) (.slice Ao20 t457.length co20)) (fun _ h_ => op1_ h_))))) (Kd.R_lt (by refine kR_ ?_; exact (rfm_ ((Kd.R_types HO456.out BK461.out (by decide))) (fun _ h_ => op1_ h_))))) (below_size (hbA_ HB.out))); replace HO444 := Aside0.mk (Kd.Q_elder' (by (with_reducible repeat (first | apply Kd.Q_alloc | apply Kd.Q_drewN | apply Kd.Q_drew)); exact (Kd.Q_mono (Kd.Q_far (p := ⟨gb461, 1, none⟩) (Kd.Q_far (p := ⟨gb461, 0, none⟩) (Kd.Q_types HO444.out BK461.out (by decide)) (fun _ hk => hk.2) (.slice Ao17 t454.length co17)) (fun _ hk => hk.2) (.slice Ao20 t457.length co20)) (fun _ h_ => op1_ h_))) (Kd.R_base ho0) hb); replace HO456 := Aside0.mk (Kd.R_elder' (by refine kR_ ?_; exact (rfm_ ((Kd.R_types HO456.out BK461.out (by decide))) (fun _ h_ => op1_ h_))) (Kd.R_base ho0) hb); have HO467 := Aside0.mk (Kd.Q_lower (Kd.Q_new' (Kd.Q_new' (Kd.Q_new' ho1 (Kd.Q_lt (by (with_reducible repeat (first | apply Kd.Q_alloc | apply Kd.Q_drewN | apply Kd.Q_drew)); exact (Kd.Q_mono (Kd.Q_far (p := ⟨gb461, 1, none⟩) (Kd.Q_far (p := ⟨gb461, 0, none⟩) (Kd.Q_types HO447.out BK461.out (by decide)) (fun _ hk => hk.2) (.slice Ao17 t454.length co17)) (fun _ hk => hk.2) (.slice Ao20 t457.length co20)) (fun _ h_ => op1_ h_))))) (Kd.R_lt (by refine kR_ ?_; exact (rfm_ ((Kd.R_types HO451.out BK461.out (by decide))) (fun _ h_ => op1_ h_))))) (Kd.N_lt (by refine kN_ ?_; exact (nfN_ gb461 HO459.out (fun _ hk => hk.2) (fun _ h_ => op1_ h_))))) (below_size (hbA_ HB.out))); replace HO447 := Aside0.mk (Kd.Q_elder' (by (with_reducible repeat (first | apply Kd.Q_alloc | apply Kd.Q_drewN | apply Kd.Q_drew)); exact (Kd.Q_mono (Kd.Q_far (p := ⟨gb461, 1, none⟩) (Kd.Q_far (p := ⟨gb461, 0, none⟩) (Kd.Q_types HO447.out BK461.out (by decide)) (fun _ hk => hk.2) (.slice Ao17 t454.length co17)) (fun _ hk => hk.2) (.slice Ao20 t457.length co20)) (fun _ h_ => op1_ h_))) (Kd.Q_base ho1) hb); replace HO451 := Aside0.mk (Kd.R_below (by refine kR_ ?_; exact (rfm_ ((Kd.R_types HO451.out BK461.out (by decide))) (fun _ h_ => op1_ h_))) hb); replace HO459 := Aside0.mk (Kd.N_mono (Kd.N_told (Kd.N_told (Kd.N_old (by refine kN_ ?_; exact (nfN_ gb461 HO459.out (fun _ hk => hk.2) (fun _ h_ => op1_ h_))) hb) (Kd.R_base ho0)) (Kd.Q_base ho1)) (fun _ h_ => op1_ h_)); replace BK453 := Aside0.mk (blk_below (g := gb453) (o := .cells #[.slice Ao9 t442.length co9, .slice Ao11 t445.length co11] 26 (0, 0)) (by exact kf_ BK453.out) hb); replace BK461 := Aside0.mk (blk_below (g := gb461) (o := .cells #[.slice Ao17 t454.length co17, .slice Ao20 t457.length co20] 26 (0, 0)) (by refine kb_ ?_; refine pz2 (cs := #[.slice none 0 0, .slice none 0 0]) ?_; refine kb_ ?_; exact BK461.out) hb); replace HB := (bs_ HB hb); (try clear hb); (try clear hb2); (try clear hk); (try clear hi); (try clear ho0); (try clear ho1)) | ((with_reducible refine gate_dst (N := 9) rfl ?_); (try (refine gate_guard (by rfl) ?_; dsimp only)); refine box_ (N := 9) (cs := #[.slice none 0 0, .slice none 0 0]) (t := 26) (fun gb469 hg w23 hbox hb => ?_); replace HO444 := Aside0.mk (Kd.Q_below (by (with_reducible repeat (first | apply Kd.Q_alloc | apply Kd.Q_drewN | apply Kd.Q_drew)); exact HO444.out) hb); replace HO447 := Aside0.mk (Kd.Q_below (by (with_reducible repeat (first | apply Kd.Q_alloc | apply Kd.Q_drewN | apply Kd.Q_drew)); exact HO447.out) hb); replace HO451 := Aside0.mk (Kd.R_below (kR_ HO451.out) hb); replace HO456 := Aside0.mk (Kd.R_below (kR_ HO456.out) hb); replace HO459 := Aside0.mk (Kd.N_below (Kd.N_elderB (kN_ HO459.out) gb469 (Nat.le_of_eq hg.symm)) hb); replace HO464 := Aside0.mk (Kd.R_below (kR_ HO464.out) hb); replace HO467 := Aside0.mk (Kd.Q_below (by (with_reducible repeat (first | apply Kd.Q_alloc | apply Kd.Q_drewN | apply Kd.Q_drew)); exact HO467.out) hb); have BK469 := Aside0.mk (hbox); have GW469 := ge_ hg HB; have GE469 := ge_ hg HB; replace HB := (bs_ HB hb); have NB453_469 := nl_ hg BK453; have NB469_453 := ng_ hg BK453; replace BK453 := (bbA_ BK453 hb); have NB461_469 := nl_ hg BK461; have NB469_461 := ng_ hg BK461; replace BK461 := (bbA_ BK461 hb); clear hb hbox hg; obtain ⟨Ao24, co24, eo24⟩ := Kd.R_slice HO464.out; subst eo24; have hnb25 := NB469_453.out; have hnc25 := NB453_469.out; have hnb26 := NB469_461.out; have hnc26 := NB461_469.out; have Z27 := zz2 BK469; obtain ⟨Ao28, co28, eo28, _⟩ := Kd.Q_slice HO467.out; subst eo28))
  (try simp only [Act.put, List.setIfInBounds_toArray, List.set_cons_zero, List.set_cons_succ])
  go_cut [46] (fun v46 wc => ∃ (kq : Nat) (x46_5 : Bool), v46 = .bool x46_5 ∧ Aside0 (laws_FnNearSend.j0 kq t448 t449 t452 t460 x46_5 t442 t445 t454 t457 = some r) ∧ Aside0 (kq ≤ k) ∧ Aside0 (Kd.R (Kd.int .u8) 5 wc w.heap.size (fun _ => True) (.slice Ao14 t449.length co14) t449) ∧ Aside0 (Kd.Q k60 60 wc w.heap.size (fun k_ => some k_ ≠ ((.slice Ao17 t454.length co17) : Value).ownBlock ∧ some k_ ≠ ((.slice Ao24 t462.length co24) : Value).ownBlock) (.slice Ao9 t442.length co9) t442) ∧ Aside0 (Kd.Q k36 36 wc w.heap.size (fun k_ => some k_ ≠ ((.slice Ao14 t449.length co14) : Value).ownBlock ∧ some k_ ≠ ((.slice Ao20 t457.length co20) : Value).ownBlock ∧ some k_ ≠ ((.slice Ao28 t465.length co28) : Value).ownBlock) (.slice Ao11 t445.length co11) t445) ∧ Aside0 (Kd.Q k60 60 wc w.heap.size (fun k_ => some k_ ≠ ((.slice Ao9 t442.length co9) : Value).ownBlock ∧ some k_ ≠ ((.slice Ao24 t462.length co24) : Value).ownBlock) (.slice Ao17 t454.length co17) t454) ∧ Aside0 (Kd.N k36 36 wc w.heap.size (fun k_ => some k_ ≠ ((.slice Ao9 t442.length co9) : Value).ownBlock ∧ some k_ ≠ ((.slice Ao11 t445.length co11) : Value).ownBlock ∧ some k_ ≠ ((.slice Ao17 t454.length co17) : Value).ownBlock ∧ some k_ ≠ ((.slice Ao24 t462.length co24) : Value).ownBlock ∧ some k_ ≠ ((.slice Ao28 t465.length co28) : Value).ownBlock ∧ k_ ≠ gb453 ∧ k_ ≠ gb461 ∧ k_ ≠ gb469) (.slice Ao20 t457.length co20) t457) ∧ Aside0 (Kd.Q k60 60 wc w.heap.size (fun k_ => some k_ ≠ ((.slice Ao9 t442.length co9) : Value).ownBlock ∧ some k_ ≠ ((.slice Ao17 t454.length co17) : Value).ownBlock) (.slice Ao24 t462.length co24) t462) ∧ Aside0 (Kd.Q k36 36 wc w.heap.size (fun k_ => some k_ ≠ ((.slice Ao14 t449.length co14) : Value).ownBlock ∧ some k_ ≠ ((.slice Ao11 t445.length co11) : Value).ownBlock ∧ some k_ ≠ ((.slice Ao20 t457.length co20) : Value).ownBlock) (.slice Ao28 t465.length co28) t465) ∧ Aside0 (wc.heap[gb453]? = some (.cells #[(.slice Ao9 t442.length co9), (.slice Ao11 t445.length co11)] 26 (0, 0))) ∧ Aside0 (wc.heap[gb461]? = some (.cells #[(.slice Ao17 t454.length co17), (.slice Ao20 t457.length co20)] 26 (0, 0))) ∧ Aside0 (wc.heap[gb469]? = some (.cells #[(.slice Ao24 t462.length co24), (.slice Ao28 t465.length co28)] 26 (0, 0))) ∧ Aside0 (Below w.heap.size w wc))
  case first =>
   have H := HC6.out; clear HC6
   by_cases c29 : t460 = t468
   ·rw [if_pos c29] at H
    have c29b0 : (t460 == t468) = true := beq_iff_eq.mpr c29
    have c29b1 : (t460 != t468) = false := bne_eq_false_iff_eq.mpr c29
    clear c29
    (first | rw [c29b0] | (simp only [i64_w, i32_w]; rw [c29b0]) | skip)
    replace H := Option.bind_eq_some_iff.mp H
    obtain ⟨t470, A300, H⟩ := H
    (try dsimp only at H)
    have A30 := Aside0.mk A300; clear A300
    have H' := Aside0.mk H
    clear H; have hnb31 := NB461_453.out; have hnc31 := NB453_461.out; have hnb32 := NB461_469.out; have hnc32 := NB469_461.out; have Z33 := zz2 BK461; have hnb34 := NB469_453.out; have hnc34 := NB453_469.out; have Z35 := zz2 BK469
    go_wp2_with (first | (go_at_call 8; (with_reducible refine (laws_sameNear.calls k _ _ t454 _ _ t457 _ _ t462 _ _ t465 t470 _ ?side1 ?side2 ?side3 ?side4 ?side5 ?side6 ?side7 ?side8 A30.out).mono ?_); (case side1 => refine (Kd.R_reads' (e := 60) (base := w.heap.size) (ok := fun k_ => ((True ∧ some k_ ≠ (.slice Ao9 t442.length co9 : Value).ownBlock) ∧ some k_ ≠ (.slice Ao24 t462.length co24 : Value).ownBlock)) (n := t454.length) (c := co17) ?_).2.2; exact (by refine kR_ ?_; exact (rfm_ ((Kd.R_types HO456.out BK469.out (by decide))) (fun _ h_ => op1_ h_)))); (case side2 => exact (Kd.R_reads' HO456.out).2.1); (case side3 => refine (Kd.N_reads' (e := 36) (base := w.heap.size) (ok := fun k_ => (((((some k_ ≠ (.slice Ao17 t454.length co17 : Value).ownBlock ∧ (some k_ ≠ (.slice Ao9 t442.length co9 : Value).ownBlock ∧ (some k_ ≠ (.slice Ao11 t445.length co11 : Value).ownBlock ∧ k_ ≠ gb453))) ∧ k_ ≠ gb461) ∧ some k_ ≠ (.slice Ao24 t462.length co24 : Value).ownBlock) ∧ some k_ ≠ (.slice Ao28 t465.length co28 : Value).ownBlock) ∧ k_ ≠ gb469)) (n := t457.length) (c := co20) ?_).2.2; exact (by refine kN_ ?_; exact (nfN_ gb469 HO459.out (fun _ hk => hk.2) (fun _ h_ => op1_ h_)))); (case side4 => exact (Kd.N_reads' HO459.out).2.1); (case side5 => refine (Kd.R_reads' (e := 60) (base := w.heap.size) (ok := fun k_ => ((True ∧ some k_ ≠ (.slice Ao9 t442.length co9 : Value).ownBlock) ∧ some k_ ≠ (.slice Ao17 t454.length co17 : Value).ownBlock)) (n := t462.length) (c := co24) ?_).2.2; exact (by refine kR_ ?_; exact (rfm_ ((Kd.R_types HO464.out BK469.out (by decide))) (fun _ h_ => op1_ h_)))); (case side6 => exact (Kd.R_reads' HO464.out).2.1); (case side7 => refine (Kd.Q_reads' (e := 36) (base := w.heap.size) (ok := fun k_ => (((True ∧ some k_ ≠ (.slice Ao11 t445.length co11 : Value).ownBlock) ∧ some k_ ≠ (.slice Ao14 t449.length co14 : Value).ownBlock) ∧ some k_ ≠ (.slice Ao20 t457.length co20 : Value).ownBlock)) (n := t465.length) (c := co28) ?_).2.2; exact (by (with_reducible repeat (first | apply Kd.Q_alloc | apply Kd.Q_drewN | apply Kd.Q_drew)); exact (Kd.Q_mono (Kd.Q_far (p := ⟨gb469, 1, none⟩) (Kd.Q_far (p := ⟨gb469, 0, none⟩) (Kd.Q_types HO467.out BK469.out (by decide)) (fun _ hk => hk.2) (.slice Ao24 t462.length co24)) (fun _ hk => hk.2) (.slice Ao28 t465.length co28)) (fun _ h_ => op1_ h_)))); (case side8 => exact (Kd.Q_reads' HO467.out).2.1); rintro e w36 ⟨rfl, hb⟩; replace HO444 := Aside0.mk (Kd.Q_below (by (with_reducible repeat (first | apply Kd.Q_alloc | apply Kd.Q_drewN | apply Kd.Q_drew)); exact (Kd.Q_mono (Kd.Q_far (p := ⟨gb469, 1, none⟩) (Kd.Q_far (p := ⟨gb469, 0, none⟩) (Kd.Q_types HO444.out BK469.out (by decide)) (fun _ hk => hk.2) (.slice Ao24 t462.length co24)) (fun _ hk => hk.2) (.slice Ao28 t465.length co28)) (fun _ h_ => op1_ h_))) hb); replace HO447 := Aside0.mk (Kd.Q_below (by (with_reducible repeat (first | apply Kd.Q_alloc | apply Kd.Q_drewN | apply Kd.Q_drew)); exact (Kd.Q_mono (Kd.Q_far (p := ⟨gb469, 1, none⟩) (Kd.Q_far (p := ⟨gb469, 0, none⟩) (Kd.Q_types HO447.out BK469.out (by decide)) (fun _ hk => hk.2) (.slice Ao24 t462.length co24)) (fun _ hk => hk.2) (.slice Ao28 t465.length co28)) (fun _ h_ => op1_ h_))) hb); replace HO451 := Aside0.mk (Kd.R_below (by refine kR_ ?_; exact (rfm_ ((Kd.R_types HO451.out BK469.out (by decide))) (fun _ h_ => op1_ h_))) hb); replace HO456 := Aside0.mk (Kd.R_below (by refine kR_ ?_; exact (rfm_ ((Kd.R_types HO456.out BK469.out (by decide))) (fun _ h_ => op1_ h_))) hb); replace HO459 := Aside0.mk (Kd.N_below (by refine kN_ ?_; exact (nfN_ gb469 HO459.out (fun _ hk => hk.2) (fun _ h_ => op1_ h_))) hb); replace HO464 := Aside0.mk (Kd.R_below (by refine kR_ ?_; exact (rfm_ ((Kd.R_types HO464.out BK469.out (by decide))) (fun _ h_ => op1_ h_))) hb); replace HO467 := Aside0.mk (Kd.Q_below (by (with_reducible repeat (first | apply Kd.Q_alloc | apply Kd.Q_drewN | apply Kd.Q_drew)); exact (Kd.Q_mono (Kd.Q_far (p := ⟨gb469, 1, none⟩) (Kd.Q_far (p := ⟨gb469, 0, none⟩) (Kd.Q_types HO467.out BK469.out (by decide)) (fun _ hk => hk.2) (.slice Ao24 t462.length co24)) (fun _ hk => hk.2) (.slice Ao28 t465.length co28)) (fun _ h_ => op1_ h_))) hb); replace BK453 := Aside0.mk (blk_below (g := gb453) (o := .cells #[.slice Ao9 t442.length co9, .slice Ao11 t445.length co11] 26 (0, 0)) (by exact kf_ BK453.out) hb); replace BK461 := Aside0.mk (blk_below (g := gb461) (o := .cells #[.slice Ao17 t454.length co17, .slice Ao20 t457.length co20] 26 (0, 0)) (by exact kf_ BK461.out) hb); replace BK469 := Aside0.mk (blk_below (g := gb469) (o := .cells #[.slice Ao24 t462.length co24, .slice Ao28 t465.length co28] 26 (0, 0)) (by refine kb_ ?_; refine pz2 (cs := #[.slice none 0 0, .slice none 0 0]) ?_; refine kb_ ?_; exact BK469.out) hb); replace HB := (bs_ HB hb); (try clear hb); (try clear hb2); (try clear hk); (try clear hi)))
    go_meet
    case rel => exact ⟨_, (!t470), (by first | rfl | (simp; done) | (simp [*]; done)), H', ⟨by first | omega | exact Nat.le_refl _⟩, ⟨kR_ HO451.out⟩, ⟨by (with_reducible repeat (first | apply Kd.Q_alloc | apply Kd.Q_drewN | apply Kd.Q_drew)); exact Kd.Q_mono HO444.out (fun _ hk => ⟨hk.1.2, hk.2⟩)⟩, ⟨by (with_reducible repeat (first | apply Kd.Q_alloc | apply Kd.Q_drewN | apply Kd.Q_drew)); exact Kd.Q_mono HO447.out (fun _ hk => ⟨hk.1.1, ⟨hk.1.2, hk.2⟩⟩)⟩, ⟨Kd.Q_of_R (by refine kR_ ?_; exact Kd.R_mono HO456.out (fun _ hk => op2_ hk))⟩, ⟨by refine kN_ ?_; exact Kd.N_mono HO459.out (fun _ hk => ⟨hk.1.1.1.1.2.1, ⟨hk.1.1.1.1.2.2.1, ⟨hk.1.1.1.1.1, ⟨hk.1.1.2, ⟨hk.1.2, ⟨hk.1.1.1.1.2.2.2, ⟨hk.1.1.1.2, hk.2⟩⟩⟩⟩⟩⟩⟩)⟩, ⟨Kd.Q_of_R (by refine kR_ ?_; exact Kd.R_mono HO464.out (fun _ hk => op2_ hk))⟩, ⟨by (with_reducible repeat (first | apply Kd.Q_alloc | apply Kd.Q_drewN | apply Kd.Q_drew)); exact Kd.Q_mono HO467.out (fun _ hk => ⟨hk.1.2, ⟨hk.1.1.2, hk.2⟩⟩)⟩, ⟨by refine kb_ ?_; exact BK453.out⟩, ⟨by refine kb_ ?_; exact BK461.out⟩, ⟨by refine kb_ ?_; exact BK469.out⟩, ⟨hbA_ HB.out⟩⟩
   ·rw [if_neg c29] at H
    have c29b0 : (t460 == t468) = false := beq_eq_false_iff_ne.mpr c29
    have c29b1 : (t460 != t468) = true := bne_iff_ne.mpr c29
    (first | rw [c29b0] | (simp only [i64_w, i32_w]; rw [c29b0]) | skip)
    have H' := Aside0.mk H
    clear H
    go_wp2
    go_meet
    case rel => exact ⟨_, (true), (by first | rfl | (simp; done) | (simp [*]; done)), H', ⟨by first | omega | exact Nat.le_refl _⟩, ⟨by refine kR_ ?_; exact rfm_ ((Kd.R_types HO451.out BK469.out (by decide))) (fun _ hk => trivial)⟩, ⟨by (with_reducible repeat (first | apply Kd.Q_alloc | apply Kd.Q_drewN | apply Kd.Q_drew)); exact Kd.Q_mono (Kd.Q_far (p := ⟨gb469, 1, none⟩) (Kd.Q_far (p := ⟨gb469, 0, none⟩) (Kd.Q_types HO444.out BK469.out (by decide)) (fun _ hk => hk.2) (.slice Ao24 t462.length co24)) (fun _ hk => hk.2) (.slice Ao28 t465.length co28)) (fun _ hk => ⟨hk.1.1.2, hk.1.2⟩)⟩, ⟨by (with_reducible repeat (first | apply Kd.Q_alloc | apply Kd.Q_drewN | apply Kd.Q_drew)); exact Kd.Q_mono (Kd.Q_far (p := ⟨gb469, 1, none⟩) (Kd.Q_far (p := ⟨gb469, 0, none⟩) (Kd.Q_types HO447.out BK469.out (by decide)) (fun _ hk => hk.2) (.slice Ao24 t462.length co24)) (fun _ hk => hk.2) (.slice Ao28 t465.length co28)) (fun _ hk => ⟨hk.1.1.1, ⟨hk.1.1.2, hk.1.2⟩⟩)⟩, ⟨Kd.Q_of_R (by refine kR_ ?_; exact rfm_ ((Kd.R_types HO456.out BK469.out (by decide))) (fun _ hk => ⟨hk.1.1.2, hk.1.2⟩))⟩, ⟨by refine kN_ ?_; exact nfN_ gb469 HO459.out (fun _ hk => hk.2) (fun _ hk => ⟨hk.1.1.1.1.1.2.1, ⟨hk.1.1.1.1.1.2.2.1, ⟨hk.1.1.1.1.1.1, ⟨hk.1.1.1.2, ⟨hk.1.1.2, ⟨hk.1.1.1.1.1.2.2.2, ⟨hk.1.1.1.1.2, hk.1.2⟩⟩⟩⟩⟩⟩⟩)⟩, ⟨Kd.Q_of_R (by refine kR_ ?_; exact rfm_ ((Kd.R_types HO464.out BK469.out (by decide))) (fun _ hk => ⟨hk.1.1.2, hk.1.2⟩))⟩, ⟨by (with_reducible repeat (first | apply Kd.Q_alloc | apply Kd.Q_drewN | apply Kd.Q_drew)); exact Kd.Q_mono (Kd.Q_far (p := ⟨gb469, 1, none⟩) (Kd.Q_far (p := ⟨gb469, 0, none⟩) (Kd.Q_types HO467.out BK469.out (by decide)) (fun _ hk => hk.2) (.slice Ao24 t462.length co24)) (fun _ hk => hk.2) (.slice Ao28 t465.length co28)) (fun _ hk => ⟨hk.1.1.2, ⟨hk.1.1.1.2, hk.1.2⟩⟩)⟩, ⟨by exact kf_ BK453.out⟩, ⟨by exact kf_ BK461.out⟩, ⟨by refine kb_ ?_; refine pz2 (cs := #[.slice none 0 0, .slice none 0 0]) ?_; refine kb_ ?_; exact BK469.out⟩, ⟨hbA_ HB.out⟩⟩
  case rest =>
   clear HC6; (try clear c1); (try clear c2); (try clear c2b0); (try clear c2b1); (try clear p2); (try clear c3); (try clear c5); (try clear c6); (try clear c7); (try clear c18); (try clear c25); (try clear c26); (try clear c29); (try clear c29b0); (try clear c29b1); (try clear c31); (try clear c32); (try clear c34); (try clear Z10); (try clear Z13); (try clear Z19); (try clear Z21); (try clear Z27); (try clear Z33); (try clear Z35)
   obtain ⟨kq, x46_5, rfl, HA, HJ5, HO_5, HO_454000, HO_454001, HO_462000, HO_462001, HO_470000, HO_470001, BK453, BK461, BK469, HB⟩ := hcut
   cases kq with
   | zero => exact absurd HA.out (by simp [laws_FnNearSend.j0])
   | succ kj5 =>
    have H := HA.out; clear HA
    simp only [laws_FnNearSend.j0] at H
    by_cases c37 : x46_5 = true
    ·subst c37
     rw [if_pos rfl] at H
     exact absurd (Option.some.inj H) (by rw [HLW.out]; exact Bool.false_ne_true)
    ·replace c37 := Bool.eq_false_iff.mpr c37
     subst c37
     rw [if_neg (show ¬ (false = true) by decide)] at H; have HC38 := Aside0.mk H; clear H
     go_upto_region 8 with (fail)
     go_cut [57] (fun v57 wc => ∃ (kq : Nat) (x57_37 : Bool), v57 = .bool x57_37 ∧ Aside0 (laws_FnNearSend.j1 kq t448 t449 t452 t460 x57_37 t442 t445 t454 t457 = some r) ∧ Aside0 (kq ≤ kj5) ∧ Aside0 (Kd.R (Kd.int .u8) 5 wc w.heap.size (fun _ => True) (.slice Ao14 t449.length co14) t449) ∧ Aside0 (Kd.Q k60 60 wc w.heap.size (fun k_ => some k_ ≠ ((.slice Ao17 t454.length co17) : Value).ownBlock ∧ some k_ ≠ ((.slice Ao24 t462.length co24) : Value).ownBlock) (.slice Ao9 t442.length co9) t442) ∧ Aside0 (Kd.Q k36 36 wc w.heap.size (fun k_ => some k_ ≠ ((.slice Ao14 t449.length co14) : Value).ownBlock ∧ some k_ ≠ ((.slice Ao20 t457.length co20) : Value).ownBlock ∧ some k_ ≠ ((.slice Ao28 t465.length co28) : Value).ownBlock) (.slice Ao11 t445.length co11) t445) ∧ Aside0 (Kd.Q k60 60 wc w.heap.size (fun k_ => some k_ ≠ ((.slice Ao9 t442.length co9) : Value).ownBlock ∧ some k_ ≠ ((.slice Ao24 t462.length co24) : Value).ownBlock) (.slice Ao17 t454.length co17) t454) ∧ Aside0 (Kd.N k36 36 wc w.heap.size (fun k_ => some k_ ≠ ((.slice Ao9 t442.length co9) : Value).ownBlock ∧ some k_ ≠ ((.slice Ao11 t445.length co11) : Value).ownBlock ∧ some k_ ≠ ((.slice Ao17 t454.length co17) : Value).ownBlock ∧ some k_ ≠ ((.slice Ao24 t462.length co24) : Value).ownBlock ∧ some k_ ≠ ((.slice Ao28 t465.length co28) : Value).ownBlock ∧ k_ ≠ gb453 ∧ k_ ≠ gb461 ∧ k_ ≠ gb469) (.slice Ao20 t457.length co20) t457) ∧ Aside0 (Kd.Q k60 60 wc w.heap.size (fun k_ => some k_ ≠ ((.slice Ao9 t442.length co9) : Value).ownBlock ∧ some k_ ≠ ((.slice Ao17 t454.length co17) : Value).ownBlock) (.slice Ao24 t462.length co24) t462) ∧ Aside0 (Kd.Q k36 36 wc w.heap.size (fun k_ => some k_ ≠ ((.slice Ao14 t449.length co14) : Value).ownBlock ∧ some k_ ≠ ((.slice Ao11 t445.length co11) : Value).ownBlock ∧ some k_ ≠ ((.slice Ao20 t457.length co20) : Value).ownBlock) (.slice Ao28 t465.length co28) t465) ∧ Aside0 (wc.heap[gb453]? = some (.cells #[(.slice Ao9 t442.length co9), (.slice Ao11 t445.length co11)] 26 (0, 0))) ∧ Aside0 (wc.heap[gb461]? = some (.cells #[(.slice Ao17 t454.length co17), (.slice Ao20 t457.length co20)] 26 (0, 0))) ∧ Aside0 (wc.heap[gb469]? = some (.cells #[(.slice Ao24 t462.length co24), (.slice Ao28 t465.length co28)] 26 (0, 0))) ∧ Aside0 (Below w.heap.size w wc))
     case first =>
      have H := HC38.out; clear HC38
      replace H := Option.bind_eq_some_iff.mp H
      obtain ⟨t471, A390, H⟩ := H
      (try dsimp only at H)
      have A39 := Aside0.mk A390; clear A390
      by_cases c40 : t471 = true
      ·subst c40
       rw [if_pos rfl] at H
       by_cases c41 : t448 > 65535
       ·rw [if_pos c41] at H
        have c41b0 : decide (65535 < t448) = true := decide_eq_true c41
        clear c41
        (first | rw [c41b0] | (simp only [i64_w, i32_w]; rw [c41b0]) | skip)
        have H' := Aside0.mk H
        clear H; have hnb42 := NB453_461.out; have hnc42 := NB461_453.out; have hnb43 := NB453_469.out; have hnc43 := NB469_453.out; have Z44 := zz2 BK453
        go_wp2_with (first | ((with_reducible refine gate_callee (f := 9) rfl ?_); refine goesL_ (some 48) rfl rfl Try.func9 (by kernel_rfl) rfl #[.agg #[.slice Ao9 t442.length co9, .slice Ao11 t445.length co11]] rfl ar_ ?_; (with_reducible refine (impl_NearOk.calls kj5 _ _ t442 _ _ t445 true _ ?side1 ?side2 ?side3 ?side4 A39.out).mono ?_); (case side1 => exact kC_ (Kd.Q_reads' HO_454000.out).2.2); (case side2 => exact (Kd.Q_reads' HO_454000.out).2.1); (case side3 => exact kC_ (Kd.Q_reads' HO_454001.out).2.2); (case side4 => exact (Kd.Q_reads' HO_454001.out).2.1); rintro e w45 ⟨rfl, hb⟩; refine ⟨_, rfl, ?_⟩; replace HO_5 := Aside0.mk (Kd.R_below (kR_ HO_5.out) hb); replace HO_454000 := Aside0.mk (Kd.Q_below (by (with_reducible repeat (first | apply Kd.Q_alloc | apply Kd.Q_drewN | apply Kd.Q_drew)); exact HO_454000.out) hb); replace HO_454001 := Aside0.mk (Kd.Q_below (by (with_reducible repeat (first | apply Kd.Q_alloc | apply Kd.Q_drewN | apply Kd.Q_drew)); exact HO_454001.out) hb); replace HO_462000 := Aside0.mk (Kd.Q_below (by (with_reducible repeat (first | apply Kd.Q_alloc | apply Kd.Q_drewN | apply Kd.Q_drew)); exact HO_462000.out) hb); replace HO_462001 := Aside0.mk (Kd.N_below (kN_ HO_462001.out) hb); replace HO_470000 := Aside0.mk (Kd.Q_below (by (with_reducible repeat (first | apply Kd.Q_alloc | apply Kd.Q_drewN | apply Kd.Q_drew)); exact HO_470000.out) hb); replace HO_470001 := Aside0.mk (Kd.Q_below (by (with_reducible repeat (first | apply Kd.Q_alloc | apply Kd.Q_drewN | apply Kd.Q_drew)); exact HO_470001.out) hb); replace BK453 := (bbA_ BK453 hb); replace BK461 := (bbA_ BK461 hb); replace BK469 := (bbA_ BK469 hb); replace HB := (bs_ HB hb); (try clear hb); (try clear hb2); (try clear hk); (try clear hi)))
        go_meet
        case rel => exact ⟨_, (true), (by first | rfl | (simp; done) | (simp [*]; done)), H', ⟨by have := HJ5.out; first | omega | exact Nat.le_refl _⟩, ⟨kR_ HO_5.out⟩, ⟨by (with_reducible repeat (first | apply Kd.Q_alloc | apply Kd.Q_drewN | apply Kd.Q_drew)); exact HO_454000.out⟩, ⟨by (with_reducible repeat (first | apply Kd.Q_alloc | apply Kd.Q_drewN | apply Kd.Q_drew)); exact HO_454001.out⟩, ⟨by (with_reducible repeat (first | apply Kd.Q_alloc | apply Kd.Q_drewN | apply Kd.Q_drew)); exact HO_462000.out⟩, ⟨by refine kN_ ?_; exact HO_462001.out⟩, ⟨by (with_reducible repeat (first | apply Kd.Q_alloc | apply Kd.Q_drewN | apply Kd.Q_drew)); exact HO_470000.out⟩, ⟨by (with_reducible repeat (first | apply Kd.Q_alloc | apply Kd.Q_drewN | apply Kd.Q_drew)); exact HO_470001.out⟩, ⟨by refine kb_ ?_; exact BK453.out⟩, ⟨by refine kb_ ?_; exact BK461.out⟩, ⟨by refine kb_ ?_; exact BK469.out⟩, ⟨hbA_ HB.out⟩⟩
       ·rw [if_neg c41] at H
        have c41b0 : decide (65535 < t448) = false := decide_eq_false c41
        clear c41
        (first | rw [c41b0] | (simp only [i64_w, i32_w]; rw [c41b0]) | skip)
        have H' := Aside0.mk H
        clear H; have hnb46 := NB453_461.out; have hnc46 := NB461_453.out; have hnb47 := NB453_469.out; have hnc47 := NB469_453.out; have Z48 := zz2 BK453
        go_wp2_with (first | ((with_reducible refine gate_callee (f := 9) rfl ?_); refine goesL_ (some 48) rfl rfl Try.func9 (by kernel_rfl) rfl #[.agg #[.slice Ao9 t442.length co9, .slice Ao11 t445.length co11]] rfl ar_ ?_; (with_reducible refine (impl_NearOk.calls kj5 _ _ t442 _ _ t445 true _ ?side1 ?side2 ?side3 ?side4 A39.out).mono ?_); (case side1 => exact kC_ (Kd.Q_reads' HO_454000.out).2.2); (case side2 => exact (Kd.Q_reads' HO_454000.out).2.1); (case side3 => exact kC_ (Kd.Q_reads' HO_454001.out).2.2); (case side4 => exact (Kd.Q_reads' HO_454001.out).2.1); rintro e w49 ⟨rfl, hb⟩; refine ⟨_, rfl, ?_⟩; replace HO_5 := Aside0.mk (Kd.R_below (kR_ HO_5.out) hb); replace HO_454000 := Aside0.mk (Kd.Q_below (by (with_reducible repeat (first | apply Kd.Q_alloc | apply Kd.Q_drewN | apply Kd.Q_drew)); exact HO_454000.out) hb); replace HO_454001 := Aside0.mk (Kd.Q_below (by (with_reducible repeat (first | apply Kd.Q_alloc | apply Kd.Q_drewN | apply Kd.Q_drew)); exact HO_454001.out) hb); replace HO_462000 := Aside0.mk (Kd.Q_below (by (with_reducible repeat (first | apply Kd.Q_alloc | apply Kd.Q_drewN | apply Kd.Q_drew)); exact HO_462000.out) hb); replace HO_462001 := Aside0.mk (Kd.N_below (kN_ HO_462001.out) hb); replace HO_470000 := Aside0.mk (Kd.Q_below (by (with_reducible repeat (first | apply Kd.Q_alloc | apply Kd.Q_drewN | apply Kd.Q_drew)); exact HO_470000.out) hb); replace HO_470001 := Aside0.mk (Kd.Q_below (by (with_reducible repeat (first | apply Kd.Q_alloc | apply Kd.Q_drewN | apply Kd.Q_drew)); exact HO_470001.out) hb); replace BK453 := (bbA_ BK453 hb); replace BK461 := (bbA_ BK461 hb); replace BK469 := (bbA_ BK469 hb); replace HB := (bs_ HB hb); (try clear hb); (try clear hb2); (try clear hk); (try clear hi)))
        go_meet
        case rel => exact ⟨_, (decide (t452 < 0)), (by first | rfl | (simp; done) | (simp [*]; done)), H', ⟨by have := HJ5.out; first | omega | exact Nat.le_refl _⟩, ⟨kR_ HO_5.out⟩, ⟨by (with_reducible repeat (first | apply Kd.Q_alloc | apply Kd.Q_drewN | apply Kd.Q_drew)); exact HO_454000.out⟩, ⟨by (with_reducible repeat (first | apply Kd.Q_alloc | apply Kd.Q_drewN | apply Kd.Q_drew)); exact HO_454001.out⟩, ⟨by (with_reducible repeat (first | apply Kd.Q_alloc | apply Kd.Q_drewN | apply Kd.Q_drew)); exact HO_462000.out⟩, ⟨by refine kN_ ?_; exact HO_462001.out⟩, ⟨by (with_reducible repeat (first | apply Kd.Q_alloc | apply Kd.Q_drewN | apply Kd.Q_drew)); exact HO_470000.out⟩, ⟨by (with_reducible repeat (first | apply Kd.Q_alloc | apply Kd.Q_drewN | apply Kd.Q_drew)); exact HO_470001.out⟩, ⟨by refine kb_ ?_; exact BK453.out⟩, ⟨by refine kb_ ?_; exact BK461.out⟩, ⟨by refine kb_ ?_; exact BK469.out⟩, ⟨hbA_ HB.out⟩⟩
      ·replace c40 := Bool.eq_false_iff.mpr c40
       subst c40
       rw [if_neg (show ¬ (false = true) by decide)] at H
       have H' := Aside0.mk H
       clear H; have hnb50 := NB453_461.out; have hnc50 := NB461_453.out; have hnb51 := NB453_469.out; have hnc51 := NB469_453.out; have Z52 := zz2 BK453
       go_wp2_with (first | ((with_reducible refine gate_callee (f := 9) rfl ?_); refine goesL_ (some 48) rfl rfl Try.func9 (by kernel_rfl) rfl #[.agg #[.slice Ao9 t442.length co9, .slice Ao11 t445.length co11]] rfl ar_ ?_; (with_reducible refine (impl_NearOk.calls kj5 _ _ t442 _ _ t445 false _ ?side1 ?side2 ?side3 ?side4 A39.out).mono ?_); (case side1 => exact kC_ (Kd.Q_reads' HO_454000.out).2.2); (case side2 => exact (Kd.Q_reads' HO_454000.out).2.1); (case side3 => exact kC_ (Kd.Q_reads' HO_454001.out).2.2); (case side4 => exact (Kd.Q_reads' HO_454001.out).2.1); rintro e w53 ⟨rfl, hb⟩; refine ⟨_, rfl, ?_⟩; replace HO_5 := Aside0.mk (Kd.R_below (kR_ HO_5.out) hb); replace HO_454000 := Aside0.mk (Kd.Q_below (by (with_reducible repeat (first | apply Kd.Q_alloc | apply Kd.Q_drewN | apply Kd.Q_drew)); exact HO_454000.out) hb); replace HO_454001 := Aside0.mk (Kd.Q_below (by (with_reducible repeat (first | apply Kd.Q_alloc | apply Kd.Q_drewN | apply Kd.Q_drew)); exact HO_454001.out) hb); replace HO_462000 := Aside0.mk (Kd.Q_below (by (with_reducible repeat (first | apply Kd.Q_alloc | apply Kd.Q_drewN | apply Kd.Q_drew)); exact HO_462000.out) hb); replace HO_462001 := Aside0.mk (Kd.N_below (kN_ HO_462001.out) hb); replace HO_470000 := Aside0.mk (Kd.Q_below (by (with_reducible repeat (first | apply Kd.Q_alloc | apply Kd.Q_drewN | apply Kd.Q_drew)); exact HO_470000.out) hb); replace HO_470001 := Aside0.mk (Kd.Q_below (by (with_reducible repeat (first | apply Kd.Q_alloc | apply Kd.Q_drewN | apply Kd.Q_drew)); exact HO_470001.out) hb); replace BK453 := (bbA_ BK453 hb); replace BK461 := (bbA_ BK461 hb); replace BK469 := (bbA_ BK469 hb); replace HB := (bs_ HB hb); (try clear hb); (try clear hb2); (try clear hk); (try clear hi)))
       go_meet
       case rel => exact ⟨_, (true), (by first | rfl | (simp; done) | (simp [*]; done)), H', ⟨by have := HJ5.out; first | omega | exact Nat.le_refl _⟩, ⟨kR_ HO_5.out⟩, ⟨by (with_reducible repeat (first | apply Kd.Q_alloc | apply Kd.Q_drewN | apply Kd.Q_drew)); exact HO_454000.out⟩, ⟨by (with_reducible repeat (first | apply Kd.Q_alloc | apply Kd.Q_drewN | apply Kd.Q_drew)); exact HO_454001.out⟩, ⟨by (with_reducible repeat (first | apply Kd.Q_alloc | apply Kd.Q_drewN | apply Kd.Q_drew)); exact HO_462000.out⟩, ⟨by refine kN_ ?_; exact HO_462001.out⟩, ⟨by (with_reducible repeat (first | apply Kd.Q_alloc | apply Kd.Q_drewN | apply Kd.Q_drew)); exact HO_470000.out⟩, ⟨by (with_reducible repeat (first | apply Kd.Q_alloc | apply Kd.Q_drewN | apply Kd.Q_drew)); exact HO_470001.out⟩, ⟨by refine kb_ ?_; exact BK453.out⟩, ⟨by refine kb_ ?_; exact BK461.out⟩, ⟨by refine kb_ ?_; exact BK469.out⟩, ⟨hbA_ HB.out⟩⟩
     case rest =>
      clear HC38; (try clear c1); (try clear c2); (try clear c2b0); (try clear c2b1); (try clear p2); (try clear c3); (try clear c4); (try clear c5); (try clear c6); (try clear c7); (try clear c9); (try clear c18); (try clear c25); (try clear c26); (try clear c29); (try clear c29b0); (try clear c29b1); (try clear c31); (try clear c32); (try clear c34); (try clear c37); (try clear c40); (try clear c41); (try clear c41b0); (try clear c42); (try clear c43); (try clear c46); (try clear c47); (try clear c50); (try clear c51); (try clear Z10); (try clear Z13); (try clear Z19); (try clear Z21); (try clear Z27); (try clear Z33); (try clear Z35); (try clear Z44); (try clear Z48); (try clear Z52); (try clear p2)
      obtain ⟨kq, x57_37, rfl, HA, HJ37, HO_5, HO_454000, HO_454001, HO_462000, HO_462001, HO_470000, HO_470001, BK453, BK461, BK469, HB⟩ := hcut
      cases kq with
      | zero => exact absurd HA.out (by simp [laws_FnNearSend.j1])
      | succ kj37 =>
       have H := HA.out; clear HA
       simp only [laws_FnNearSend.j1] at H
       by_cases c54 : x57_37 = true
       ·subst c54
        rw [if_pos rfl] at H
        by_cases c55 : t460 = (-1)
        ·rw [if_pos c55] at H
         have c55b0 : (t460 == (-1)) = true := beq_iff_eq.mpr c55
         have c55b1 : (t460 != (-1)) = false := bne_eq_false_iff_eq.mpr c55
         clear c55
         replace H := Option.bind_eq_some_iff.mp H
         obtain ⟨t472, A560, H⟩ := H
         (try dsimp only at H)
         have A56 := Aside0.mk A560; clear A560
         obtain rfl := Option.some.inj H
         go_wp2_with (first | (go_at_call 10; (with_reducible refine (laws_alive.calls kj37  t472 _ A56.out).mono ?_); rintro e w57 ⟨rfl, hb⟩; replace HO_5 := Aside0.mk (Kd.R_below (kR_ HO_5.out) hb); replace HO_454000 := Aside0.mk (Kd.Q_below (by (with_reducible repeat (first | apply Kd.Q_alloc | apply Kd.Q_drewN | apply Kd.Q_drew)); exact HO_454000.out) hb); replace HO_454001 := Aside0.mk (Kd.Q_below (by (with_reducible repeat (first | apply Kd.Q_alloc | apply Kd.Q_drewN | apply Kd.Q_drew)); exact HO_454001.out) hb); replace HO_462000 := Aside0.mk (Kd.Q_below (by (with_reducible repeat (first | apply Kd.Q_alloc | apply Kd.Q_drewN | apply Kd.Q_drew)); exact HO_462000.out) hb); replace HO_462001 := Aside0.mk (Kd.N_below (kN_ HO_462001.out) hb); replace HO_470000 := Aside0.mk (Kd.Q_below (by (with_reducible repeat (first | apply Kd.Q_alloc | apply Kd.Q_drewN | apply Kd.Q_drew)); exact HO_470000.out) hb); replace HO_470001 := Aside0.mk (Kd.Q_below (by (with_reducible repeat (first | apply Kd.Q_alloc | apply Kd.Q_drewN | apply Kd.Q_drew)); exact HO_470001.out) hb); replace BK453 := (bbA_ BK453 hb); replace BK461 := (bbA_ BK461 hb); replace BK469 := (bbA_ BK469 hb); replace HB := (bs_ HB hb); (try clear hb); (try clear hb2); (try clear hk); (try clear hi)))
         go_ret
         exact ⟨by first | rfl | (simp [errW_none, errW_some] <;> rfl) | (simp [*, errW_none, errW_some] <;> rfl), hbA_ HB.out⟩
        ·rw [if_neg c55] at H
         have c55b0 : (t460 == (-1)) = false := beq_eq_false_iff_ne.mpr c55
         have c55b1 : (t460 != (-1)) = true := bne_iff_ne.mpr c55
         exact absurd (Option.some.inj H) (by rw [HLW.out]; exact Bool.false_ne_true)
       ·replace c54 := Bool.eq_false_iff.mpr c54
        subst c54
        rw [if_neg (show ¬ (false = true) by decide)] at H
        by_cases c58 : t460 ≥ 0
        ·rw [if_pos c58] at H
         have c58b0 : decide (0 ≤ t460) = true := decide_eq_true c58
         clear c58
         replace H := Option.bind_eq_some_iff.mp H
         obtain ⟨t473, A590, H⟩ := H
         (try dsimp only at H)
         have A59 := Aside0.mk A590; clear A590
         by_cases c60 : t473 = true
         ·subst c60
          rw [if_pos rfl] at H
          replace H := Option.bind_eq_some_iff.mp H
          obtain ⟨t474, A610, H⟩ := H
          (try dsimp only at H)
          have A61 := Aside0.mk A610; clear A610
          obtain rfl := Option.some.inj H
          have hnb62 := NB461_453.out; have hnc62 := NB453_461.out; have hnb63 := NB461_469.out; have hnc63 := NB469_461.out; have Z64 := zz2 BK461; have hnb65 := NB453_469.out; have hnc65 := NB469_453.out; have Z66 := zz2 BK453
          go_wp2_with (first | ((with_reducible refine gate_callee (f := 8) rfl ?_); refine goesL_ (some 67) rfl rfl Try.func8 (by kernel_rfl) rfl #[.agg #[.slice Ao17 t454.length co17, .slice Ao20 t457.length co20], .agg #[.slice Ao9 t442.length co9, .slice Ao11 t445.length co11]] rfl ar_ ?_; (with_reducible refine (laws_sameNear.calls kj37 _ _ t454 _ _ t457 _ _ t442 _ _ t445 true _ ?side1 ?side2 ?side3 ?side4 ?side5 ?side6 ?side7 ?side8 A59.out).mono ?_); (case side1 => exact kC_ (Kd.Q_reads' HO_462000.out).2.2); (case side2 => exact (Kd.Q_reads' HO_462000.out).2.1); (case side3 => exact kC_ (Kd.N_reads' HO_462001.out).2.2); (case side4 => exact (Kd.N_reads' HO_462001.out).2.1); (case side5 => exact kC_ (Kd.Q_reads' HO_454000.out).2.2); (case side6 => exact (Kd.Q_reads' HO_454000.out).2.1); (case side7 => exact kC_ (Kd.Q_reads' HO_454001.out).2.2); (case side8 => exact (Kd.Q_reads' HO_454001.out).2.1); rintro e w67 ⟨rfl, hb⟩; refine ⟨_, rfl, ?_⟩; replace HO_5 := Aside0.mk (Kd.R_below (kR_ HO_5.out) hb); replace HO_454000 := Aside0.mk (Kd.Q_below (by (with_reducible repeat (first | apply Kd.Q_alloc | apply Kd.Q_drewN | apply Kd.Q_drew)); exact HO_454000.out) hb); replace HO_454001 := Aside0.mk (Kd.Q_below (by (with_reducible repeat (first | apply Kd.Q_alloc | apply Kd.Q_drewN | apply Kd.Q_drew)); exact HO_454001.out) hb); replace HO_462000 := Aside0.mk (Kd.Q_below (by (with_reducible repeat (first | apply Kd.Q_alloc | apply Kd.Q_drewN | apply Kd.Q_drew)); exact HO_462000.out) hb); replace HO_462001 := Aside0.mk (Kd.N_below (kN_ HO_462001.out) hb); replace HO_470000 := Aside0.mk (Kd.Q_below (by (with_reducible repeat (first | apply Kd.Q_alloc | apply Kd.Q_drewN | apply Kd.Q_drew)); exact HO_470000.out) hb); replace HO_470001 := Aside0.mk (Kd.Q_below (by (with_reducible repeat (first | apply Kd.Q_alloc | apply Kd.Q_drewN | apply Kd.Q_drew)); exact HO_470001.out) hb); replace BK453 := (bbA_ BK453 hb); replace BK461 := (bbA_ BK461 hb); replace BK469 := (bbA_ BK469 hb); replace HB := (bs_ HB hb); (try clear hb); (try clear hb2); (try clear hk); (try clear hi); have Z68 := zz2 BK453) | (go_at_call 11; (with_reducible refine (impl_NearFind.calls kj37 _ _ t442 _ _ t445 t448 t452 t474 _ ?side1 ?side2 ?side3 ?side4 A61.out).mono ?_); (case side1 => exact kC_ (Kd.Q_reads' HO_454000.out).2.2); (case side2 => exact (Kd.Q_reads' HO_454000.out).2.1); (case side3 => exact kC_ (Kd.Q_reads' HO_454001.out).2.2); (case side4 => exact (Kd.Q_reads' HO_454001.out).2.1); rintro e w69 ⟨rfl, hb⟩; replace HO_5 := Aside0.mk (Kd.R_below (kR_ HO_5.out) hb); replace HO_454000 := Aside0.mk (Kd.Q_below (by (with_reducible repeat (first | apply Kd.Q_alloc | apply Kd.Q_drewN | apply Kd.Q_drew)); exact HO_454000.out) hb); replace HO_454001 := Aside0.mk (Kd.Q_below (by (with_reducible repeat (first | apply Kd.Q_alloc | apply Kd.Q_drewN | apply Kd.Q_drew)); exact HO_454001.out) hb); replace HO_462000 := Aside0.mk (Kd.Q_below (by (with_reducible repeat (first | apply Kd.Q_alloc | apply Kd.Q_drewN | apply Kd.Q_drew)); exact HO_462000.out) hb); replace HO_462001 := Aside0.mk (Kd.N_below (kN_ HO_462001.out) hb); replace HO_470000 := Aside0.mk (Kd.Q_below (by (with_reducible repeat (first | apply Kd.Q_alloc | apply Kd.Q_drewN | apply Kd.Q_drew)); exact HO_470000.out) hb); replace HO_470001 := Aside0.mk (Kd.Q_below (by (with_reducible repeat (first | apply Kd.Q_alloc | apply Kd.Q_drewN | apply Kd.Q_drew)); exact HO_470001.out) hb); replace BK453 := (bbA_ BK453 hb); replace BK461 := (bbA_ BK461 hb); replace BK469 := (bbA_ BK469 hb); replace HB := (bs_ HB hb); (try clear hb); (try clear hb2); (try clear hk); (try clear hi)))
          go_ret
          exact ⟨by first | rfl | (simp [errW_none, errW_some] <;> rfl) | (simp [*, errW_none, errW_some] <;> rfl), hbA_ HB.out⟩
         ·replace c60 := Bool.eq_false_iff.mpr c60
          subst c60
          rw [if_neg (show ¬ (false = true) by decide)] at H
          exact absurd (Option.some.inj H) (by rw [HLW.out]; exact Bool.false_ne_true)
        ·rw [if_neg c58] at H
         have c58b0 : decide (0 ≤ t460) = false := decide_eq_false c58
         clear c58
         replace H := Option.bind_eq_some_iff.mp H
         obtain ⟨t475, A700, H⟩ := H
         (try dsimp only at H)
         have A70 := Aside0.mk A700; clear A700
         by_cases c71 : t475 = true
         ·subst c71
          rw [if_pos rfl] at H
          by_cases c72 : (t457.length : Int) > 0
          ·rw [if_pos c72] at H
           have c72b0 : decide (0 < (t457.length : Int)) = true := decide_eq_true c72
           have c72b1 : decide (0 < t457.length) = true := decide_eq_true (by omega)
           clear c72
           obtain ⟨ji73, hji73⟩ : ∃ j_ : Int, (wrap64 ((t457.length : Int) - 1)) = j_ := ⟨_, rfl⟩
           (first | rw [hji73] at H | simp only [hji73] at H)
           (try rw [hji73] at A70)
           have hji73w : (IntKind.i64.wrap ((t457.length : Int) - 1)) = ji73 := (i64_w _).trans hji73
           by_cases c74 : 0 ≤ (ji73)
           ·rw [if_pos c74] at H
            have c74b0 : decide (0 ≤ (ji73)) = true := decide_eq_true c74
            clear c74
            by_cases c75 : (ji73) < (t457.length : Int)
            ·rw [if_pos c75] at H
             have c75b0 : decide ((ji73) < (t457.length : Int)) = true := decide_eq_true c75
             clear c75
             by_cases c76 : ((rd_T36 t457 (ji73)).f0) = t448
             ·rw [if_pos c76] at H
              have c76b0 : (((rd_T36 t457 (ji73)).f0) == t448) = true := beq_iff_eq.mpr c76
              have c76b1 : (((rd_T36 t457 (ji73)).f0) != t448) = false := bne_eq_false_iff_eq.mpr c76
              clear c76
              replace H := Option.bind_eq_some_iff.mp H
              obtain ⟨t478, A770, H⟩ := H
              (try dsimp only at H)
              have A77 := Aside0.mk A770; clear A770
              by_cases c78 : t478 = true
              ·subst c78
               rw [if_pos rfl] at H
               obtain ⟨ji79, hji79⟩ : ∃ j_ : Int, (mn (wrap64 ((t445.length : Int) + 1)) 4) = j_ := ⟨_, rfl⟩
               (first | rw [hji79] at H | simp only [hji79] at H)
               (try rw [hji79] at A70)
               (try rw [hji79] at A77)
               have hji79_ : (if 4 < (wrap64 ((t445.length : Int) + 1)) then 4 else (wrap64 ((t445.length : Int) + 1))) = ji79 := hji79
               by_cases c80 : (t457.length : Int) = (ji79)
               ·rw [if_pos c80] at H
                have c80b0 : ((t457.length : Int) == (ji79)) = true := beq_iff_eq.mpr c80
                have c80b1 : ((t457.length : Int) != (ji79)) = false := bne_eq_false_iff_eq.mpr c80
                clear c80
                replace H := Option.bind_eq_some_iff.mp H
                obtain ⟨t479, A810, H⟩ := H
                (try dsimp only at H)
                have A81 := Aside0.mk A810; clear A810
                obtain rfl := Option.some.inj H
                have hnb82 := NB461_453.out; have hnc82 := NB453_461.out; have hnb83 := NB461_469.out; have hnc83 := NB469_461.out; have Z84 := zz2 BK461
                go_wp2_with (first | ((with_reducible refine gate_callee (f := 9) rfl ?_); refine goesL_ (some 80) rfl rfl Try.func9 (by kernel_rfl) rfl #[.agg #[.slice Ao17 t454.length co17, .slice Ao20 t457.length co20]] rfl ar_ ?_; (with_reducible refine (impl_NearOk.calls kj37 _ _ t454 _ _ t457 true _ ?side1 ?side2 ?side3 ?side4 A70.out).mono ?_); (case side1 => exact kC_ (Kd.Q_reads' HO_462000.out).2.2); (case side2 => exact (Kd.Q_reads' HO_462000.out).2.1); (case side3 => exact kC_ (Kd.N_reads' HO_462001.out).2.2); (case side4 => exact (Kd.N_reads' HO_462001.out).2.1); rintro e w85 ⟨rfl, hb⟩; refine ⟨_, rfl, ?_⟩; replace HO_5 := Aside0.mk (Kd.R_below (kR_ HO_5.out) hb); replace HO_454000 := Aside0.mk (Kd.Q_below (by (with_reducible repeat (first | apply Kd.Q_alloc | apply Kd.Q_drewN | apply Kd.Q_drew)); exact HO_454000.out) hb); replace HO_454001 := Aside0.mk (Kd.Q_below (by (with_reducible repeat (first | apply Kd.Q_alloc | apply Kd.Q_drewN | apply Kd.Q_drew)); exact HO_454001.out) hb); replace HO_462000 := Aside0.mk (Kd.Q_below (by (with_reducible repeat (first | apply Kd.Q_alloc | apply Kd.Q_drewN | apply Kd.Q_drew)); exact HO_462000.out) hb); replace HO_462001 := Aside0.mk (Kd.N_below (kN_ HO_462001.out) hb); replace HO_470000 := Aside0.mk (Kd.Q_below (by (with_reducible repeat (first | apply Kd.Q_alloc | apply Kd.Q_drewN | apply Kd.Q_drew)); exact HO_470000.out) hb); replace HO_470001 := Aside0.mk (Kd.Q_below (by (with_reducible repeat (first | apply Kd.Q_alloc | apply Kd.Q_drewN | apply Kd.Q_drew)); exact HO_470001.out) hb); replace BK453 := (bbA_ BK453 hb); replace BK461 := (bbA_ BK461 hb); replace BK469 := (bbA_ BK469 hb); replace HB := (bs_ HB hb); (try clear hb); (try clear hb2); (try clear hk); (try clear hi); have Z86 := zz2 BK461; have p476 : 0 ≤ ((ji73) : Int) := of_decide_eq_true (by first | (with_reducible assumption) | assumption); have q476 : (ji73) < (t457.length : Int) := of_decide_eq_true (by first | (with_reducible assumption) | assumption); obtain ⟨ad476, A476_1, c476_1, e476, hx476_0, hx476_1, hl476_1, hi476_1⟩ := at_T36 (Kd.N_reads' HO_462001.out).2.2 (ji73) p476 q476; cases e476; obtain ⟨ce476, hce476, hMe476, hcc476⟩ := Kd.N_get HO_462001.out z36 (ji73) p476 (by first | exact q476 | exact of_decide_eq_true (by first | (with_reducible assumption) | assumption) | (have e_ := (Kd.N_reads' HO_462001.out).1; omega)); obtain ⟨ua476_1, uc476_1, rfl, ul476_1, ge476_1⟩ := k36_openF hMe476; have hv476_1 := hcc476 1 _ rfl; rw [add_field _ _ 1 (by omega)] at hv476_1; replace hv476_1 := Option.some.inj (hv476_1.symm.trans hx476_1); injection hv476_1 with hva_ hvn_ hvc_; rw [hva_] at ge476_1; rw [hvc_] at ul476_1; have HL476_1 := Aside0.mk (show Kd.V (Kd.int .u8) 5 _ w.heap.size _ _ ((rd_T36 t457 (ji73)).f1) from Kd.V_mk ul476_1 ge476_1); clear hva_ hvn_ hvc_ ge476_1 ul476_1; clear hcc476 hce476; have HR476_1 := Aside0.mk hi476_1; have HC476_1 := Aside0.mk hl476_1; clear hi476_1 hl476_1; replace p476 := eq_true p476; replace q476 := eq_true q476; have p477 : 0 ≤ ((ji73) : Int) := of_decide_eq_true (by first | (with_reducible assumption) | assumption); have q477 : (ji73) < (t457.length : Int) := of_decide_eq_true (by first | (with_reducible assumption) | assumption); obtain ⟨ad477, A477_1, c477_1, e477, hx477_0, hx477_1, hl477_1, hi477_1⟩ := at_T36 (Kd.N_reads' HO_462001.out).2.2 (ji73) p477 q477; obtain rfl : ad476 = ad477 := (by injection e477); obtain ⟨ce477, hce477, hMe477, hcc477⟩ := Kd.N_get HO_462001.out z36 (ji73) p477 (by first | exact q477 | exact of_decide_eq_true (by first | (with_reducible assumption) | assumption) | (have e_ := (Kd.N_reads' HO_462001.out).1; omega)); obtain ⟨ua477_1, uc477_1, rfl, ul477_1, ge477_1⟩ := k36_openF hMe477; have hv477_1 := hcc477 1 _ rfl; rw [add_field _ _ 1 (by omega)] at hv477_1; replace hv477_1 := Option.some.inj (hv477_1.symm.trans hx477_1); injection hv477_1 with hva_ hvn_ hvc_; rw [hva_] at ge477_1; rw [hvc_] at ul477_1; have HL477_1 := Aside0.mk (show Kd.V (Kd.int .u8) 5 _ w.heap.size _ _ ((rd_T36 t457 (ji73)).f1) from Kd.V_mk ul477_1 ge477_1); clear hva_ hvn_ hvc_ ge477_1 ul477_1; clear hcc477 hce477; have HR477_1 := Aside0.mk hi477_1; have HC477_1 := Aside0.mk hl477_1; clear hi477_1 hl477_1; replace p477 := eq_true p477; replace q477 := eq_true q477; have ea_ := Option.some.inj (hx476_1.symm.trans hx477_1); injection ea_ with ea_ en_ ec_; subst ea_; subst ec_; clear en_) | (go_at_call 12; (with_reducible refine (laws_sameBytes.calls _ _ ((rd_T36 t457 (ji73)).f1) _ _ t449 true _ ?side1 ?side2 ?side3 ?side4 A77.out).mono ?_); (case side1 => exact kC_ (by repeat (first | (with_reducible exact HR477_1.out) | (with_reducible exact Kd.C_drewN HR477_1.out _) | (with_reducible refine Kd.C_alloc ?_ _) | (with_reducible refine Kd.C_drewN ?_ _) | (with_reducible refine Kd.C_drew ?_) | exact HR477_1.out))); (case side2 => exact HC477_1.out); (case side3 => exact kC_ (Kd.R_reads' HO_5.out).2.2); (case side4 => exact (Kd.R_reads' HO_5.out).2.1); rintro e w' ⟨rfl, ⟨nd, rfl⟩⟩; have hnb87 := NB453_469.out; have hnc87 := NB469_453.out; have Z88 := zz2 BK453) | (go_at_call 10; (with_reducible refine (laws_alive.calls kj37  t479 _ A81.out).mono ?_); rintro e w89 ⟨rfl, hb⟩; replace HO_5 := Aside0.mk (Kd.R_below (kR_ HO_5.out) hb); replace HO_454000 := Aside0.mk (Kd.Q_below (by (with_reducible repeat (first | apply Kd.Q_alloc | apply Kd.Q_drewN | apply Kd.Q_drew)); exact HO_454000.out) hb); replace HO_454001 := Aside0.mk (Kd.Q_below (by (with_reducible repeat (first | apply Kd.Q_alloc | apply Kd.Q_drewN | apply Kd.Q_drew)); exact HO_454001.out) hb); replace HO_462000 := Aside0.mk (Kd.Q_below (by (with_reducible repeat (first | apply Kd.Q_alloc | apply Kd.Q_drewN | apply Kd.Q_drew)); exact HO_462000.out) hb); replace HO_462001 := Aside0.mk (Kd.N_below (kN_ HO_462001.out) hb); replace HO_470000 := Aside0.mk (Kd.Q_below (by (with_reducible repeat (first | apply Kd.Q_alloc | apply Kd.Q_drewN | apply Kd.Q_drew)); exact HO_470000.out) hb); replace HO_470001 := Aside0.mk (Kd.Q_below (by (with_reducible repeat (first | apply Kd.Q_alloc | apply Kd.Q_drewN | apply Kd.Q_drew)); exact HO_470001.out) hb); replace HL476_1 := Aside0.mk (Kd.V_below (kV_ HL476_1.out) hb); replace HL477_1 := Aside0.mk (Kd.V_below (kV_ HL477_1.out) hb); replace BK453 := (bbA_ BK453 hb); replace BK461 := (bbA_ BK461 hb); replace BK469 := (bbA_ BK469 hb); replace HR476_1 := Aside0.mk (Kd.C_below (by repeat (first | (with_reducible exact HR476_1.out) | (with_reducible exact Kd.C_drewN HR476_1.out _) | (with_reducible refine Kd.C_alloc ?_ _) | (with_reducible refine Kd.C_drewN ?_ _) | (with_reducible refine Kd.C_drew ?_) | exact HR476_1.out)) hb); replace HR477_1 := Aside0.mk (Kd.C_below (by repeat (first | (with_reducible exact HR477_1.out) | (with_reducible exact Kd.C_drewN HR477_1.out _) | (with_reducible refine Kd.C_alloc ?_ _) | (with_reducible refine Kd.C_drewN ?_ _) | (with_reducible refine Kd.C_drew ?_) | exact HR477_1.out)) hb); replace HB := (bs_ HB hb); (try clear hb); (try clear hb2); (try clear hk); (try clear hi)))
                go_ret
                exact ⟨by first | rfl | (simp [errW_none, errW_some] <;> rfl) | (simp only [← hji73, ← hji79]; first | rfl | (simp [errW_none, errW_some] <;> rfl)) | (simp [*, errW_none, errW_some] <;> rfl), hbA_ HB.out⟩
               ·rw [if_neg c80] at H
                have c80b0 : ((t457.length : Int) == (ji79)) = false := beq_eq_false_iff_ne.mpr c80
                have c80b1 : ((t457.length : Int) != (ji79)) = true := bne_iff_ne.mpr c80
                exact absurd (Option.some.inj H) (by rw [HLW.out]; exact Bool.false_ne_true)
              ·replace c78 := Bool.eq_false_iff.mpr c78
               subst c78
               rw [if_neg (show ¬ (false = true) by decide)] at H
               exact absurd (Option.some.inj H) (by rw [HLW.out]; exact Bool.false_ne_true)
             ·rw [if_neg c76] at H
              have c76b0 : (((rd_T36 t457 (ji73)).f0) == t448) = false := beq_eq_false_iff_ne.mpr c76
              have c76b1 : (((rd_T36 t457 (ji73)).f0) != t448) = true := bne_iff_ne.mpr c76
              exact absurd (Option.some.inj H) (by rw [HLW.out]; exact Bool.false_ne_true)
            ·rw [if_neg c75] at H
             exact absurd H (by simp)
           ·rw [if_neg c74] at H
            exact absurd H (by simp)
          ·rw [if_neg c72] at H
           have c72b0 : decide (0 < (t457.length : Int)) = false := decide_eq_false c72
           have c72b1 : decide (0 < t457.length) = false := decide_eq_false (by omega)
           clear c72
           exact absurd (Option.some.inj H) (by rw [HLW.out]; exact Bool.false_ne_true)
         ·replace c71 := Bool.eq_false_iff.mpr c71
          subst c71
          rw [if_neg (show ¬ (false = true) by decide)] at H
          exact absurd (Option.some.inj H) (by rw [HLW.out]; exact Bool.false_ne_true)
def laws_FnNearSend.Pure : Prop := ∀ (l0 : List Int), l0.length ≤ maxLen → l0.length * 1 ≤ 140737488351232 → (∀ x ∈ l0, (Lit.int .u8 x).wf = true) → ∃ k, laws_FnNearSend.f k l0 = some true
theorem laws_FnNearSend.walk (P : laws_FnNearSend.Pure) (a0 : Option Addr) (len0 cap0 : Nat) (z0 : List Int) (w : World) (w0 : (a0 = none ∧ len0 = 0 ∧ cap0 = 0 ∧ z0 = []) ∨ ∃ x, a0 = some x ∧ len0 ≤ cap0 ∧ cap0 ≤ maxLen ∧ z0.length = cap0 ∧ (∀ i, i < z0.length → w.cell? (x.add i) = some (.int .u8 (z0.getD i 0))) ∧ ∀ n ∈ z0, (Lit.int .u8 n).wf = true) (y0 : len0 * 1 ≤ 140737488351232) :
  Calls Try.prog 3 #[.slice a0 len0 cap0] w fun e w' => e = .returned (.bool true) ∧ Below w.heap.size w w' := by
 obtain ⟨l0, rfl, hr0, hm0, hw0, hc0⟩ := ReadsInt.ofRowC w0
 obtain ⟨k, h⟩ := P l0 hm0 y0 hw0
 refine (laws_FnNearSend.calls k _ _ l0 true w (Kd.C_of_reads (d := (0 : Int)) (h1 := fun _ => rfl) hr0) hc0 h rfl).mono ?_
 rintro e w' ⟨rfl, hd⟩
 exact ⟨rfl, hd⟩
end Go.Proofs.Ytcbiljabpadaeaa.PFnNearSend
