/- Printed by wip/xp/xprint.sh out of the translation, for this claim: what each function answers, as a plain function, and that the machine does just that. No condition. -/
import Derived.Test.YtdoohdbfpnmndaaPFnNearHearx0
import Derived.Test.YtdoohdbfpnmndaaPFnNearHearx1
import Derived.Test.YtdoohdbfpnmndaaPFnNearHearx3
import Derived.Test.YtdoohdbfpnmndaaPFnNearHearx8
namespace Go.Proofs.Ytdoohdbfpnmndaa.PFnNearHear
open Go.RowKit Go.Proofs.YtdoohdbfpnmndaaW.PrintWords Go.Proofs.YtdoohdbfpnmndaaW.PrintLast Go.Proofs.YtdoohdbfpnmndaaW.PrintMore
attribute [local go_sem] max2_int min2_int max_two min_two max_three min_three max_four min_four   -- for this text's walks alone
set_option linter.unusedVariables false
set_option linter.unusedSimpArgs false
attribute [local go_sem high] eqA63
mutual
def laws_sameNear.j0 : Nat → Bool → List (S63) → List (S65) → List (S63) → List (S65) → Option (Bool)
 | 0, _, _, _, _, _ => none
 | k + 1, x22, x430000, x430001, x431000, x431001 => if x22 = true then (some false) else (laws_sameNear.l0 k 0 x430000 x430001 x431000 x431001)
def laws_sameNear.l0 : Nat → Int → List (S63) → List (S65) → List (S63) → List (S65) → Option (Bool)
 | 0, _, _, _, _, _ => none
 | k + 1, x5, x430000, x430001, x431000, x431001 => if x5 < (x430000.length : Int) then (if 0 ≤ x5 then (if x5 < (x431000.length : Int) then (if (!(((rd_T63 x430000 x5).f0) == ((rd_T63 x431000 x5).f0)) || (!(((rd_T63 x430000 x5).f1) == ((rd_T63 x431000 x5).f1)) || (!(((rd_T63 x430000 x5).f2) == ((rd_T63 x431000 x5).f2))))) = true then (some false) else (laws_sameNear.l0 k (wrap64 (x5 + 1)) x430000 x430001 x431000 x431001)) else (none)) else (none)) else (laws_sameNear.l1 k 0 x430000 x430001 x431000 x431001)
def laws_sameNear.l1 : Nat → Int → List (S63) → List (S65) → List (S63) → List (S65) → Option (Bool)
 | 0, _, _, _, _, _ => none
 | k + 1, x6, x430000, x430001, x431000, x431001 => if x6 < (x430001.length : Int) then (if 0 ≤ x6 then (if x6 < (x431001.length : Int) then (if ((rd_T65 x430001 x6).f0) = ((rd_T65 x431001 x6).f0) then ((laws_sameBytes.f ((rd_T65 x430001 x6).f1) ((rd_T65 x431001 x6).f1)).bind fun t437 => (if t437 = true then (laws_sameNear.l1 k (wrap64 (x6 + 1)) x430000 x430001 x431000 x431001) else (some false))) else (some false)) else (none)) else (none)) else (some true)
end
def laws_sameNear.f (k : Nat) (l0_0 : List (S63)) (l0_1 : List (S65)) (l1_0 : List (S63)) (l1_1 : List (S65)) : Option (Bool) := if (l0_0.length : Int) = (l1_0.length : Int) then (laws_sameNear.j0 k ((l0_1.length : Int) != (l1_1.length : Int)) l0_0 l0_1 l1_0 l1_1) else (laws_sameNear.j0 k true l0_0 l0_1 l1_0 l1_1)
theorem laws_sameNear.mono_l : ∀ k, (∀ y0 y1 y2 y3 y4, LeO (laws_sameNear.j0 k y0 y1 y2 y3 y4) (laws_sameNear.j0 (k + 1) y0 y1 y2 y3 y4)) ∧ (∀ y0 y1 y2 y3 y4, LeO (laws_sameNear.l0 k y0 y1 y2 y3 y4) (laws_sameNear.l0 (k + 1) y0 y1 y2 y3 y4)) ∧ (∀ y0 y1 y2 y3 y4, LeO (laws_sameNear.l1 k y0 y1 y2 y3 y4) (laws_sameNear.l1 (k + 1) y0 y1 y2 y3 y4))
 | 0 => ⟨fun _ _ _ _ _ r h => by simp [laws_sameNear.j0] at h, fun _ _ _ _ _ r h => by simp [laws_sameNear.l0] at h, fun _ _ _ _ _ r h => by simp [laws_sameNear.l1] at h⟩
 | k + 1 => by
  obtain ⟨ih0, ih1, ih2⟩ := laws_sameNear.mono_l k
  refine ⟨?_, ?_, ?_⟩
  ·intro y0 y1 y2 y3 y4
   unfold laws_sameNear.j0
   repeat' first | (with_reducible first | apply ih0 | apply ih1 | apply ih2 | exact LeO.refl _ | exact LeO.none _ | refine LeO.ite ?_ ?_ | refine LeO.bind ?_ fun _ => ?_) | apply ih0 | apply ih1 | apply ih2 | exact LeO.none _ | refine LeO.ite ?_ ?_ | refine LeO.bind ?_ fun _ => ?_
  ·intro y0 y1 y2 y3 y4
   unfold laws_sameNear.l0
   repeat' first | (with_reducible first | apply ih0 | apply ih1 | apply ih2 | exact LeO.refl _ | exact LeO.none _ | refine LeO.ite ?_ ?_ | refine LeO.bind ?_ fun _ => ?_) | apply ih0 | apply ih1 | apply ih2 | exact LeO.none _ | refine LeO.ite ?_ ?_ | refine LeO.bind ?_ fun _ => ?_
  ·intro y0 y1 y2 y3 y4
   unfold laws_sameNear.l1
   repeat' first | (with_reducible first | apply ih0 | apply ih1 | apply ih2 | exact LeO.refl _ | exact LeO.none _ | refine LeO.ite ?_ ?_ | refine LeO.bind ?_ fun _ => ?_) | apply ih0 | apply ih1 | apply ih2 | exact LeO.none _ | refine LeO.ite ?_ ?_ | refine LeO.bind ?_ fun _ => ?_
theorem laws_sameNear.mono : ∀ a0 a1 a2 a3 k, LeO (laws_sameNear.f k a0 a1 a2 a3) (laws_sameNear.f (k + 1) a0 a1 a2 a3) := by
 intro a0 a1 a2 a3 k
 obtain ⟨ih0, ih1, ih2⟩ := laws_sameNear.mono_l k
 unfold laws_sameNear.f
 repeat' first | (with_reducible first | apply ih0 | apply ih1 | apply ih2 | exact LeO.refl _ | exact LeO.none _ | refine LeO.ite ?_ ?_ | refine LeO.bind ?_ fun _ => ?_) | apply ih0 | apply ih1 | apply ih2 | exact LeO.none _ | refine LeO.ite ?_ ?_ | refine LeO.bind ?_ fun _ => ?_
set_option maxHeartbeats 8000000 in
set_option maxRecDepth 100000 in
theorem laws_sameNear.calls (k : Nat) (A0_0 : Option Addr) (c0_0 : Nat) (l0_0 : List (S63)) (A0_1 : Option Addr) (c0_1 : Nat) (l0_1 : List (S65)) (A1_0 : Option Addr) (c1_0 : Nat) (l1_0 : List (S63)) (A1_1 : Option Addr) (c1_1 : Nat) (l1_1 : List (S65)) (r : Bool) (w : World) (hr0_0 : Kd.C k63 w A0_0 l0_0.length l0_0) (hc0_0 : l0_0.length ≤ c0_0) (hr0_1 : Kd.C k65 w A0_1 l0_1.length l0_1) (hc0_1 : l0_1.length ≤ c0_1) (hr1_0 : Kd.C k63 w A1_0 l1_0.length l1_0) (hc1_0 : l1_0.length ≤ c1_0) (hr1_1 : Kd.C k65 w A1_1 l1_1.length l1_1) (hc1_1 : l1_1.length ≤ c1_1) (h : laws_sameNear.f k l0_0 l0_1 l1_0 l1_1 = some r) :
  Calls Try.prog 18 #[.agg #[.slice A0_0 l0_0.length c0_0, .slice A0_1 l0_1.length c0_1], .agg #[.slice A1_0 l1_0.length c1_0, .slice A1_1 l1_1.length c1_1]] w fun e w' => e = .returned (.bool r) ∧ Below w.heap.size w w' := by
 have hu32 := Try.underlying32; have hu63 := Try.underlying63; have HR0_0 := Aside0.mk hr0_0; have HC0_0 := Aside0.mk hc0_0; clear hr0_0 hc0_0; have HR0_1 := Aside0.mk hr0_1; have HC0_1 := Aside0.mk hc0_1; clear hr0_1 hc0_1; have HR1_0 := Aside0.mk hr1_0; have HC1_0 := Aside0.mk hc1_0; clear hr1_0 hc1_0; have HR1_1 := Aside0.mk hr1_1; have HC1_1 := Aside0.mk hc1_1; clear hr1_1 hc1_1
 have HB := Aside0.mk (Below.refl w.heap.size w)
 have H : (if (l0_0.length : Int) = (l1_0.length : Int) then (laws_sameNear.j0 k ((l0_1.length : Int) != (l1_1.length : Int)) l0_0 l0_1 l1_0 l1_1) else (laws_sameNear.j0 k true l0_0 l0_1 l1_0 l1_1)) = some r := h
 clear h; have HC3 := Aside0.mk H; clear H
 go_enter Try.func18, Try.ntmps18
 go_upto_region 1 with (first | ((with_reducible refine gate_dst (N := 2) rfl ?_); (try (refine gate_guard (by rfl) ?_; dsimp only)); refine box_ (N := 2) (cs := #[.slice A0_0 l0_0.length c0_0, .slice A0_1 l0_1.length c0_1]) (t := 32) (fun gb429 hg w4 hbox hb => ?_); have BK429 := Aside0.mk (hbox); have GW429 := ge_ hg HB; have GE429 := ge_ hg HB; replace HB := (bs_ HB hb); clear hb hbox hg) | ((with_reducible refine gate_dst (N := 3) rfl ?_); (try (refine gate_guard (by rfl) ?_; dsimp only)); refine box_ (N := 3) (cs := #[.slice A1_0 l1_0.length c1_0, .slice A1_1 l1_1.length c1_1]) (t := 32) (fun gb430 hg w5 hbox hb => ?_); have BK430 := Aside0.mk (hbox); have GW430 := ge_ hg HB; have GE430 := ge_ hg HB; replace HB := (bs_ HB hb); have NB429_430 := nl_ hg BK429; have NB430_429 := ng_ hg BK429; replace BK429 := (bbA_ BK429 hb); clear hb hbox hg))
 repeat (go_quiet (first | ((with_reducible refine gate_dst (N := 2) rfl ?_); (try (refine gate_guard (by rfl) ?_; dsimp only)); refine box_ (N := 2) (cs := #[.slice A0_0 l0_0.length c0_0, .slice A0_1 l0_1.length c0_1]) (t := 32) (fun gb429 hg w4 hbox hb => ?_); have BK429 := Aside0.mk (hbox); have GW429 := ge_ hg HB; have GE429 := ge_ hg HB; replace HB := (bs_ HB hb); clear hb hbox hg) | ((with_reducible refine gate_dst (N := 3) rfl ?_); (try (refine gate_guard (by rfl) ?_; dsimp only)); refine box_ (N := 3) (cs := #[.slice A1_0 l1_0.length c1_0, .slice A1_1 l1_1.length c1_1]) (t := 32) (fun gb430 hg w5 hbox hb => ?_); have BK430 := Aside0.mk (hbox); have GW430 := ge_ hg HB; have GE430 := ge_ hg HB; replace HB := (bs_ HB hb); have NB429_430 := nl_ hg BK429; have NB430_429 := ng_ hg BK429; replace BK429 := (bbA_ BK429 hb); clear hb hbox hg)); go_upto_region 1 with (first | ((with_reducible refine gate_dst (N := 2) rfl ?_); (try (refine gate_guard (by rfl) ?_; dsimp only)); refine box_ (N := 2) (cs := #[.slice A0_0 l0_0.length c0_0, .slice A0_1 l0_1.length c0_1]) (t := 32) (fun gb429 hg w4 hbox hb => ?_); have BK429 := Aside0.mk (hbox); have GW429 := ge_ hg HB; have GE429 := ge_ hg HB; replace HB := (bs_ HB hb); clear hb hbox hg) | ((with_reducible refine gate_dst (N := 3) rfl ?_); (try (refine gate_guard (by rfl) ?_; dsimp only)); refine box_ (N := 3) (cs := #[.slice A1_0 l1_0.length c1_0, .slice A1_1 l1_1.length c1_1]) (t := 32) (fun gb430 hg w5 hbox hb => ?_); have BK430 := Aside0.mk (hbox); have GW430 := ge_ hg HB; have GE430 := ge_ hg HB; replace HB := (bs_ HB hb); have NB429_430 := nl_ hg BK429; have NB430_429 := ng_ hg BK429; replace BK429 := (bbA_ BK429 hb); clear hb hbox hg)))
 (try simp only [Act.put, List.setIfInBounds_toArray, List.set_cons_zero, List.set_cons_succ])
 go_cut [22] (fun v22 wc => ∃ (kq : Nat) (x22_2 : Bool), v22 = .bool x22_2 ∧ Aside0 (laws_sameNear.j0 kq x22_2 l0_0 l0_1 l1_0 l1_1 = some r) ∧ Aside0 (kq ≤ k) ∧ Aside0 (wc.heap[gb429]? = some (.cells #[(.slice A0_0 l0_0.length c0_0), (.slice A0_1 l0_1.length c0_1)] 32 (0, 0))) ∧ Aside0 (wc.heap[gb430]? = some (.cells #[(.slice A1_0 l1_0.length c1_0), (.slice A1_1 l1_1.length c1_1)] 32 (0, 0))) ∧ Aside0 (Below w.heap.size w wc))
 case first =>
  have H := HC3.out; clear HC3
  by_cases c6 : (l0_0.length : Int) = (l1_0.length : Int)
  ·rw [if_pos c6] at H
   have c6b0 : ((l0_0.length : Int) == (l1_0.length : Int)) = true := beq_iff_eq.mpr c6
   have c6b1 : ((l0_0.length : Int) != (l1_0.length : Int)) = false := bne_eq_false_iff_eq.mpr c6
   have c6b2 : (l0_0.length == l1_0.length) = true := by first | simpa using c6 | (simp at c6 ⊢; omega)
   clear c6
   (first | rw [c6b0] | (simp only [i64_w, i32_w]; rw [c6b0]) | skip)
   have H' := Aside0.mk H
   clear H; have hnb7 := NB429_430.out; have hnc7 := NB430_429.out; have Z8 := zz2 BK429; have Z9 := zz2 BK430
   go_wp2
   repeat (go_quiet (fail); try go_wp2)
   go_meet
   case rel => exact ⟨_, (((l0_1.length : Int) != (l1_1.length : Int))), (by first | rfl | (simp; done) | (simp [*]; done)), H', ⟨by first | omega | exact Nat.le_refl _⟩, ⟨by refine kb_ ?_; exact BK429.out⟩, ⟨by refine kb_ ?_; exact BK430.out⟩, ⟨hbA_ HB.out⟩⟩
  ·rw [if_neg c6] at H
   have c6b0 : ((l0_0.length : Int) == (l1_0.length : Int)) = false := beq_eq_false_iff_ne.mpr c6
   have c6b1 : ((l0_0.length : Int) != (l1_0.length : Int)) = true := bne_iff_ne.mpr c6
   have c6b2 : (l0_0.length == l1_0.length) = false := by first | simpa using c6 | (simp at c6 ⊢; omega)
   (first | rw [c6b0] | (simp only [i64_w, i32_w]; rw [c6b0]) | skip)
   have H' := Aside0.mk H
   clear H; have hnb10 := NB429_430.out; have hnc10 := NB430_429.out; have Z11 := zz2 BK429; have Z12 := zz2 BK430
   go_wp2
   repeat (go_quiet (fail); try go_wp2)
   go_meet
   case rel => exact ⟨_, (true), (by first | rfl | (simp; done) | (simp [*]; done)), H', ⟨by first | omega | exact Nat.le_refl _⟩, ⟨by refine kb_ ?_; exact BK429.out⟩, ⟨by refine kb_ ?_; exact BK430.out⟩, ⟨hbA_ HB.out⟩⟩
 case rest =>
  clear HC3; (try clear c1); (try clear p2); (try clear c6); (try clear c6b0); (try clear c6b1); (try clear c6b2); (try clear c7); (try clear c10); (try clear Z11); (try clear Z12); (try clear Z8); (try clear Z9)
  obtain ⟨kq, x22_2, rfl, HA, HJ2, BK429, BK430, HB⟩ := hcut
  cases kq with
  | zero => exact absurd HA.out (by simp [laws_sameNear.j0])
  | succ kj2 =>
   have H := HA.out; clear HA
   simp only [laws_sameNear.j0] at H
   by_cases c13 : x22_2 = true
   ·subst c13
    rw [if_pos rfl] at H
    obtain rfl := Option.some.inj H
    go_wp2
    repeat (go_quiet (fail); try go_wp2)
    go_ret
    exact ⟨by first | rfl | (simp [errW_none, errW_some] <;> rfl) | (simp [*, errW_none, errW_some] <;> rfl), hbA_ HB.out⟩
   ·replace c13 := Bool.eq_false_iff.mpr c13
    subst c13
    rw [if_neg (show ¬ (false = true) by decide)] at H
    have H' := Aside0.mk H
    clear H
    go_wp2
    repeat (go_quiet (fail); try go_wp2)
    go_loopg [5] kj2 (fun kq v5 w' => ∃ (x5_2 : Int), v5 = .int .i64 x5_2 ∧ Aside0 (laws_sameNear.l0 kq x5_2 l0_0 l0_1 l1_0 l1_1 = some r) ∧ Aside0 (kq ≤ kj2) ∧ Aside0 (w'.heap[gb429]? = some (.cells #[(.slice A0_0 l0_0.length c0_0), (.slice A0_1 l0_1.length c0_1)] 32 (0, 0))) ∧ Aside0 (w'.heap[gb430]? = some (.cells #[(.slice A1_0 l1_0.length c1_0), (.slice A1_1 l1_1.length c1_1)] 32 (0, 0))) ∧ Aside0 (Below w.heap.size w w'))
    case atStart => exact ⟨(0), (by first | rfl | (simp; done) | (simp [*]; done)), H', ⟨Nat.le_refl _⟩, ⟨by refine kb_ ?_; exact BK429.out⟩, ⟨by refine kb_ ?_; exact BK430.out⟩, ⟨hbA_ HB.out⟩⟩
    case round =>
     clear H'; (try clear c1); (try clear p2); (try clear c6); (try clear c6b0); (try clear c6b1); (try clear c6b2); (try clear c7); (try clear c10); (try clear c13); (try clear Z11); (try clear Z12); (try clear Z8); (try clear Z9); (try clear p2)
     obtain ⟨x5_2, rfl, HA, HK2, BK429, BK430, HB⟩ := hrel
     cases gk with
     | zero => exact absurd HA.out (by simp [laws_sameNear.l0])
     | succ k2 =>
      have H := HA.out; clear HA
      simp only [laws_sameNear.l0] at H
      by_cases c14 : x5_2 < (l0_0.length : Int)
      ·rw [if_pos c14] at H
       have c14b0 : decide (x5_2 < (l0_0.length : Int)) = true := decide_eq_true c14
       clear c14
       by_cases c15 : 0 ≤ x5_2
       ·rw [if_pos c15] at H
        have c15b0 : decide (0 ≤ x5_2) = true := decide_eq_true c15
        clear c15
        by_cases c16 : x5_2 < (l1_0.length : Int)
        ·rw [if_pos c16] at H
         have c16b0 : decide (x5_2 < (l1_0.length : Int)) = true := decide_eq_true c16
         clear c16
         by_cases c17 : (!(((rd_T63 l0_0 x5_2).f0) == ((rd_T63 l1_0 x5_2).f0)) || (!(((rd_T63 l0_0 x5_2).f1) == ((rd_T63 l1_0 x5_2).f1)) || (!(((rd_T63 l0_0 x5_2).f2) == ((rd_T63 l1_0 x5_2).f2))))) = true
         ·rw [if_pos c17] at H
          have c17b0 : (!(((rd_T63 l0_0 x5_2).f0) == ((rd_T63 l1_0 x5_2).f0)) || (!(((rd_T63 l0_0 x5_2).f1) == ((rd_T63 l1_0 x5_2).f1)) || (!(((rd_T63 l0_0 x5_2).f2) == ((rd_T63 l1_0 x5_2).f2))))) = true := c17
          clear c17
          obtain rfl := Option.some.inj H
          have hnb18 := NB429_430.out; have hnc18 := NB430_429.out; have Z19 := zz2 BK429
          have p431 : 0 ≤ (x5_2 : Int) := of_decide_eq_true (by first | (with_reducible assumption) | assumption)
          have q431 : x5_2 < (l0_0.length : Int) := of_decide_eq_true (by first | (with_reducible assumption) | assumption)
          obtain ⟨ad431, e431, hx431_0, hx431_1, hx431_2⟩ := at_T63 HR0_0.out x5_2 p431 q431
          cases e431
          replace hx431_0 := cc_ HB hx431_0
          replace hx431_1 := cc_ HB hx431_1
          replace hx431_2 := cc_ HB hx431_2
          replace p431 := eq_true p431
          replace q431 := eq_true q431
          have Z20 := zz2 BK430
          have p432 : 0 ≤ (x5_2 : Int) := of_decide_eq_true (by first | (with_reducible assumption) | assumption)
          have q432 : x5_2 < (l1_0.length : Int) := of_decide_eq_true (by first | (with_reducible assumption) | assumption)
          obtain ⟨ad432, e432, hx432_0, hx432_1, hx432_2⟩ := at_T63 HR1_0.out x5_2 p432 q432
          cases e432
          replace hx432_0 := cc_ HB hx432_0
          replace hx432_1 := cc_ HB hx432_1
          replace hx432_2 := cc_ HB hx432_2
          replace p432 := eq_true p432
          replace q432 := eq_true q432
          go_wp2
          repeat (go_quiet (fail); try go_wp2)
          go_ret
          exact ⟨by first | rfl | (simp [errW_none, errW_some] <;> rfl) | (simp [*, errW_none, errW_some] <;> rfl), hbA_ HB.out⟩
         ·rw [if_neg c17] at H
          have c17b0 : (!(((rd_T63 l0_0 x5_2).f0) == ((rd_T63 l1_0 x5_2).f0)) || (!(((rd_T63 l0_0 x5_2).f1) == ((rd_T63 l1_0 x5_2).f1)) || (!(((rd_T63 l0_0 x5_2).f2) == ((rd_T63 l1_0 x5_2).f2))))) = false := by simpa using c17
          clear c17
          have H' := Aside0.mk H
          clear H; have hnb21 := NB429_430.out; have hnc21 := NB430_429.out; have Z22 := zz2 BK429
          have p431 : 0 ≤ (x5_2 : Int) := of_decide_eq_true (by first | (with_reducible assumption) | assumption)
          have q431 : x5_2 < (l0_0.length : Int) := of_decide_eq_true (by first | (with_reducible assumption) | assumption)
          obtain ⟨ad431, e431, hx431_0, hx431_1, hx431_2⟩ := at_T63 HR0_0.out x5_2 p431 q431
          cases e431
          replace hx431_0 := cc_ HB hx431_0
          replace hx431_1 := cc_ HB hx431_1
          replace hx431_2 := cc_ HB hx431_2
          replace p431 := eq_true p431
          replace q431 := eq_true q431
          have Z23 := zz2 BK430
          have p432 : 0 ≤ (x5_2 : Int) := of_decide_eq_true (by first | (with_reducible assumption) | assumption)
          have q432 : x5_2 < (l1_0.length : Int) := of_decide_eq_true (by first | (with_reducible assumption) | assumption)
          obtain ⟨ad432, e432, hx432_0, hx432_1, hx432_2⟩ := at_T63 HR1_0.out x5_2 p432 q432
          cases e432
          replace hx432_0 := cc_ HB hx432_0
          replace hx432_1 := cc_ HB hx432_1
          replace hx432_2 := cc_ HB hx432_2
          replace p432 := eq_true p432
          replace q432 := eq_true q432
          go_wp2
          repeat (go_quiet (fail); try go_wp2)
          go_roundg k2
          case measure => have := HJ2.out; have := HK2.out; omega
          case rel => exact ⟨(wrap64 (x5_2 + 1)), (by first | rfl | (simp; done) | (simp [*]; done)), H', ⟨by have := HJ2.out; have := HK2.out; omega⟩, ⟨by refine kb_ ?_; exact BK429.out⟩, ⟨by refine kb_ ?_; exact BK430.out⟩, ⟨hbA_ HB.out⟩⟩
        ·rw [if_neg c16] at H
         exact absurd H (by simp)
       ·rw [if_neg c15] at H
        exact absurd H (by simp)
      ·rw [if_neg c14] at H
       have c14b0 : decide (x5_2 < (l0_0.length : Int)) = false := decide_eq_false c14
       clear c14
       have H' := Aside0.mk H
       clear H; have hnb24 := NB429_430.out; have hnc24 := NB430_429.out; have Z25 := zz2 BK429
       go_wp2
       repeat (go_quiet (fail); try go_wp2)
       go_loopg [6] k2 (fun kq v6 w' => ∃ (x6_3 : Int), v6 = .int .i64 x6_3 ∧ Aside0 (laws_sameNear.l1 kq x6_3 l0_0 l0_1 l1_0 l1_1 = some r) ∧ Aside0 (kq ≤ k2) ∧ Aside0 (w'.heap[gb429]? = some (.cells #[(.slice A0_0 l0_0.length c0_0), (.slice A0_1 l0_1.length c0_1)] 32 (0, 0))) ∧ Aside0 (w'.heap[gb430]? = some (.cells #[(.slice A1_0 l1_0.length c1_0), (.slice A1_1 l1_1.length c1_1)] 32 (0, 0))) ∧ Aside0 (Below w.heap.size w w'))
       case atStart => exact ⟨(0), (by first | rfl | (simp; done) | (simp [*]; done)), H', ⟨Nat.le_refl _⟩, ⟨by refine kb_ ?_; exact BK429.out⟩, ⟨by refine kb_ ?_; exact BK430.out⟩, ⟨hbA_ HB.out⟩⟩
       case round =>
        clear H'; (try clear c1); (try clear c2); (try clear p2); (try clear p4); (try clear q4); (try clear hx4); (try clear c6); (try clear c6b0); (try clear c6b1); (try clear c6b2); (try clear p6); (try clear c7); (try clear c10); (try clear c13); (try clear c14); (try clear c14b0); (try clear c15); (try clear c15b0); (try clear c16); (try clear c16b0); (try clear c17); (try clear c17b0); (try clear c18); (try clear c21); (try clear c24); (try clear Z11); (try clear Z12); (try clear Z19); (try clear Z20); (try clear Z22); (try clear Z23); (try clear Z25); (try clear Z8); (try clear Z9); (try clear hx431_0); (try clear hx431_1); (try clear hx431_2); (try clear hx432_0); (try clear hx432_1); (try clear hx432_2); (try clear p2); (try clear p431); (try clear p432); (try clear q431); (try clear q432)
        obtain ⟨x6_3, rfl, HA, HK3, BK429, BK430, HB⟩ := hrel
        cases gk with
        | zero => exact absurd HA.out (by simp [laws_sameNear.l1])
        | succ k3 =>
         have H := HA.out; clear HA
         simp only [laws_sameNear.l1] at H
         by_cases c26 : x6_3 < (l0_1.length : Int)
         ·rw [if_pos c26] at H
          have c26b0 : decide (x6_3 < (l0_1.length : Int)) = true := decide_eq_true c26
          clear c26
          by_cases c27 : 0 ≤ x6_3
          ·rw [if_pos c27] at H
           have c27b0 : decide (0 ≤ x6_3) = true := decide_eq_true c27
           clear c27
           by_cases c28 : x6_3 < (l1_1.length : Int)
           ·rw [if_pos c28] at H
            have c28b0 : decide (x6_3 < (l1_1.length : Int)) = true := decide_eq_true c28
            clear c28
            by_cases c29 : ((rd_T65 l0_1 x6_3).f0) = ((rd_T65 l1_1 x6_3).f0)
            ·rw [if_pos c29] at H
             have c29b0 : (((rd_T65 l0_1 x6_3).f0) == ((rd_T65 l1_1 x6_3).f0)) = true := beq_iff_eq.mpr c29
             have c29b1 : (((rd_T65 l0_1 x6_3).f0) != ((rd_T65 l1_1 x6_3).f0)) = false := bne_eq_false_iff_eq.mpr c29
             clear c29
             replace H := Option.bind_eq_some_iff.mp H
             obtain ⟨t437, A300, H⟩ := H
             (try dsimp only at H)
             have A30 := Aside0.mk A300; clear A300
             by_cases c31 : t437 = true
             ·subst c31
              rw [if_pos rfl] at H
              have H' := Aside0.mk H
              clear H; have hnb32 := NB429_430.out; have hnc32 := NB430_429.out; have Z33 := zz2 BK429
              have p433 : 0 ≤ (x6_3 : Int) := of_decide_eq_true (by first | (with_reducible assumption) | assumption)
              have q433 : x6_3 < (l0_1.length : Int) := of_decide_eq_true (by first | (with_reducible assumption) | assumption)
              obtain ⟨ad433, A433_1, c433_1, e433, hx433_0, hx433_1, hl433_1, hi433_1⟩ := at_T65 HR0_1.out x6_3 p433 q433
              cases e433
              replace hx433_0 := cc_ HB hx433_0
              replace hx433_1 := cc_ HB hx433_1
              have HR433_1 := Aside0.mk hi433_1; have HC433_1 := Aside0.mk hl433_1; clear hi433_1 hl433_1
              replace p433 := eq_true p433
              replace q433 := eq_true q433
              have Z34 := zz2 BK430
              have p434 : 0 ≤ (x6_3 : Int) := of_decide_eq_true (by first | (with_reducible assumption) | assumption)
              have q434 : x6_3 < (l1_1.length : Int) := of_decide_eq_true (by first | (with_reducible assumption) | assumption)
              obtain ⟨ad434, A434_1, c434_1, e434, hx434_0, hx434_1, hl434_1, hi434_1⟩ := at_T65 HR1_1.out x6_3 p434 q434
              cases e434
              replace hx434_0 := cc_ HB hx434_0
              replace hx434_1 := cc_ HB hx434_1
              have HR434_1 := Aside0.mk hi434_1; have HC434_1 := Aside0.mk hl434_1; clear hi434_1 hl434_1
              replace p434 := eq_true p434
              replace q434 := eq_true q434
              have p435 : 0 ≤ (x6_3 : Int) := of_decide_eq_true (by first | (with_reducible assumption) | assumption)
              have q435 : x6_3 < (l0_1.length : Int) := of_decide_eq_true (by first | (with_reducible assumption) | assumption)
              obtain ⟨ad435, A435_1, c435_1, e435, hx435_0, hx435_1, hl435_1, hi435_1⟩ := at_T65 HR0_1.out x6_3 p435 q435
              obtain rfl : ad433 = ad435 := (by injection e435)
              replace hx435_0 := cc_ HB hx435_0
              replace hx435_1 := cc_ HB hx435_1
              have HR435_1 := Aside0.mk hi435_1; have HC435_1 := Aside0.mk hl435_1; clear hi435_1 hl435_1
              replace p435 := eq_true p435
              replace q435 := eq_true q435
              have ea_ := Option.some.inj (hx433_1.symm.trans hx435_1)
              injection ea_ with ea_ en_ ec_
              subst ea_; subst ec_; clear en_
              have p436 : 0 ≤ (x6_3 : Int) := of_decide_eq_true (by first | (with_reducible assumption) | assumption)
              have q436 : x6_3 < (l1_1.length : Int) := of_decide_eq_true (by first | (with_reducible assumption) | assumption)
              obtain ⟨ad436, A436_1, c436_1, e436, hx436_0, hx436_1, hl436_1, hi436_1⟩ := at_T65 HR1_1.out x6_3 p436 q436
              obtain rfl : ad434 = ad436 := (by injection e436)
              replace hx436_0 := cc_ HB hx436_0
              replace hx436_1 := cc_ HB hx436_1
              have HR436_1 := Aside0.mk hi436_1; have HC436_1 := Aside0.mk hl436_1; clear hi436_1 hl436_1
              replace p436 := eq_true p436
              replace q436 := eq_true q436
              have ea_ := Option.some.inj (hx434_1.symm.trans hx436_1)
              injection ea_ with ea_ en_ ec_
              subst ea_; subst ec_; clear en_
              go_wp2_with (first | (go_at_call 60; (with_reducible refine (laws_sameBytes.calls _ _ ((rd_T65 l0_1 x6_3).f1) _ _ ((rd_T65 l1_1 x6_3).f1) true _ ?side1 ?side2 ?side3 ?side4 A30.out).mono ?_); (case side1 => exact kC_ (Kd.C_below HR435_1.out HB.out)); (case side2 => exact HC435_1.out); (case side3 => exact kC_ (Kd.C_below HR436_1.out HB.out)); (case side4 => exact HC436_1.out); rintro e w' ⟨rfl, ⟨nd, rfl⟩⟩; (try first | exact ⟨rfl, _, World.drewN_drewN _ _ _⟩ | exact ⟨rfl, _, Eq.trans (World.drewN_drewN _ _ _) (congrArg (World.drewN _) (Nat.add_assoc _ _ _))⟩)))
              repeat (go_quiet (first | (go_at_call 60; (with_reducible refine (laws_sameBytes.calls _ _ ((rd_T65 l0_1 x6_3).f1) _ _ ((rd_T65 l1_1 x6_3).f1) true _ ?side1 ?side2 ?side3 ?side4 A30.out).mono ?_); (case side1 => exact kC_ (Kd.C_below HR435_1.out HB.out)); (case side2 => exact HC435_1.out); (case side3 => exact kC_ (Kd.C_below HR436_1.out HB.out)); (case side4 => exact HC436_1.out); rintro e w' ⟨rfl, ⟨nd, rfl⟩⟩; (try first | exact ⟨rfl, _, World.drewN_drewN _ _ _⟩ | exact ⟨rfl, _, Eq.trans (World.drewN_drewN _ _ _) (congrArg (World.drewN _) (Nat.add_assoc _ _ _))⟩))); try go_wp2_with (first | (go_at_call 60; (with_reducible refine (laws_sameBytes.calls _ _ ((rd_T65 l0_1 x6_3).f1) _ _ ((rd_T65 l1_1 x6_3).f1) true _ ?side1 ?side2 ?side3 ?side4 A30.out).mono ?_); (case side1 => exact kC_ (Kd.C_below HR435_1.out HB.out)); (case side2 => exact HC435_1.out); (case side3 => exact kC_ (Kd.C_below HR436_1.out HB.out)); (case side4 => exact HC436_1.out); rintro e w' ⟨rfl, ⟨nd, rfl⟩⟩; (try first | exact ⟨rfl, _, World.drewN_drewN _ _ _⟩ | exact ⟨rfl, _, Eq.trans (World.drewN_drewN _ _ _) (congrArg (World.drewN _) (Nat.add_assoc _ _ _))⟩))))
              go_roundg k3
              case measure => have := HJ2.out; have := HK2.out; have := HK3.out; omega
              case rel => exact ⟨(wrap64 (x6_3 + 1)), (by first | rfl | (simp; done) | (simp [*]; done)), H', ⟨by have := HJ2.out; have := HK2.out; have := HK3.out; omega⟩, ⟨by refine kb_ ?_; exact BK429.out⟩, ⟨by refine kb_ ?_; exact BK430.out⟩, ⟨hbA_ HB.out⟩⟩
             ·replace c31 := Bool.eq_false_iff.mpr c31
              subst c31
              rw [if_neg (show ¬ (false = true) by decide)] at H
              obtain rfl := Option.some.inj H
              have hnb35 := NB429_430.out; have hnc35 := NB430_429.out; have Z36 := zz2 BK429
              have p433 : 0 ≤ (x6_3 : Int) := of_decide_eq_true (by first | (with_reducible assumption) | assumption)
              have q433 : x6_3 < (l0_1.length : Int) := of_decide_eq_true (by first | (with_reducible assumption) | assumption)
              obtain ⟨ad433, A433_1, c433_1, e433, hx433_0, hx433_1, hl433_1, hi433_1⟩ := at_T65 HR0_1.out x6_3 p433 q433
              cases e433
              replace hx433_0 := cc_ HB hx433_0
              replace hx433_1 := cc_ HB hx433_1
              have HR433_1 := Aside0.mk hi433_1; have HC433_1 := Aside0.mk hl433_1; clear hi433_1 hl433_1
              replace p433 := eq_true p433
              replace q433 := eq_true q433
              have Z37 := zz2 BK430
              have p434 : 0 ≤ (x6_3 : Int) := of_decide_eq_true (by first | (with_reducible assumption) | assumption)
              have q434 : x6_3 < (l1_1.length : Int) := of_decide_eq_true (by first | (with_reducible assumption) | assumption)
              obtain ⟨ad434, A434_1, c434_1, e434, hx434_0, hx434_1, hl434_1, hi434_1⟩ := at_T65 HR1_1.out x6_3 p434 q434
              cases e434
              replace hx434_0 := cc_ HB hx434_0
              replace hx434_1 := cc_ HB hx434_1
              have HR434_1 := Aside0.mk hi434_1; have HC434_1 := Aside0.mk hl434_1; clear hi434_1 hl434_1
              replace p434 := eq_true p434
              replace q434 := eq_true q434
              have p435 : 0 ≤ (x6_3 : Int) := of_decide_eq_true (by first | (with_reducible assumption) | assumption)
              have q435 : x6_3 < (l0_1.length : Int) := of_decide_eq_true (by first | (with_reducible assumption) | assumption)
              obtain ⟨ad435, A435_1, c435_1, e435, hx435_0, hx435_1, hl435_1, hi435_1⟩ := at_T65 HR0_1.out x6_3 p435 q435
              obtain rfl : ad433 = ad435 := (by injection e435)
              replace hx435_0 := cc_ HB hx435_0
              replace hx435_1 := cc_ HB hx435_1
              have HR435_1 := Aside0.mk hi435_1; have HC435_1 := Aside0.mk hl435_1; clear hi435_1 hl435_1
              replace p435 := eq_true p435
              replace q435 := eq_true q435
              have ea_ := Option.some.inj (hx433_1.symm.trans hx435_1)
              injection ea_ with ea_ en_ ec_
              subst ea_; subst ec_; clear en_
              have p436 : 0 ≤ (x6_3 : Int) := of_decide_eq_true (by first | (with_reducible assumption) | assumption)
              have q436 : x6_3 < (l1_1.length : Int) := of_decide_eq_true (by first | (with_reducible assumption) | assumption)
              obtain ⟨ad436, A436_1, c436_1, e436, hx436_0, hx436_1, hl436_1, hi436_1⟩ := at_T65 HR1_1.out x6_3 p436 q436
              obtain rfl : ad434 = ad436 := (by injection e436)
              replace hx436_0 := cc_ HB hx436_0
              replace hx436_1 := cc_ HB hx436_1
              have HR436_1 := Aside0.mk hi436_1; have HC436_1 := Aside0.mk hl436_1; clear hi436_1 hl436_1
              replace p436 := eq_true p436
              replace q436 := eq_true q436
              have ea_ := Option.some.inj (hx434_1.symm.trans hx436_1)
              injection ea_ with ea_ en_ ec_
              subst ea_; subst ec_; clear en_
              go_wp2_with (first | (go_at_call 60; (with_reducible refine (laws_sameBytes.calls _ _ ((rd_T65 l0_1 x6_3).f1) _ _ ((rd_T65 l1_1 x6_3).f1) false _ ?side1 ?side2 ?side3 ?side4 A30.out).mono ?_); (case side1 => exact kC_ (Kd.C_below HR435_1.out HB.out)); (case side2 => exact HC435_1.out); (case side3 => exact kC_ (Kd.C_below HR436_1.out HB.out)); (case side4 => exact HC436_1.out); rintro e w' ⟨rfl, ⟨nd, rfl⟩⟩; (try first | exact ⟨rfl, _, World.drewN_drewN _ _ _⟩ | exact ⟨rfl, _, Eq.trans (World.drewN_drewN _ _ _) (congrArg (World.drewN _) (Nat.add_assoc _ _ _))⟩)))
              repeat (go_quiet (first | (go_at_call 60; (with_reducible refine (laws_sameBytes.calls _ _ ((rd_T65 l0_1 x6_3).f1) _ _ ((rd_T65 l1_1 x6_3).f1) false _ ?side1 ?side2 ?side3 ?side4 A30.out).mono ?_); (case side1 => exact kC_ (Kd.C_below HR435_1.out HB.out)); (case side2 => exact HC435_1.out); (case side3 => exact kC_ (Kd.C_below HR436_1.out HB.out)); (case side4 => exact HC436_1.out); rintro e w' ⟨rfl, ⟨nd, rfl⟩⟩; (try first | exact ⟨rfl, _, World.drewN_drewN _ _ _⟩ | exact ⟨rfl, _, Eq.trans (World.drewN_drewN _ _ _) (congrArg (World.drewN _) (Nat.add_assoc _ _ _))⟩))); try go_wp2_with (first | (go_at_call 60; (with_reducible refine (laws_sameBytes.calls _ _ ((rd_T65 l0_1 x6_3).f1) _ _ ((rd_T65 l1_1 x6_3).f1) false _ ?side1 ?side2 ?side3 ?side4 A30.out).mono ?_); (case side1 => exact kC_ (Kd.C_below HR435_1.out HB.out)); (case side2 => exact HC435_1.out); (case side3 => exact kC_ (Kd.C_below HR436_1.out HB.out)); (case side4 => exact HC436_1.out); rintro e w' ⟨rfl, ⟨nd, rfl⟩⟩; (try first | exact ⟨rfl, _, World.drewN_drewN _ _ _⟩ | exact ⟨rfl, _, Eq.trans (World.drewN_drewN _ _ _) (congrArg (World.drewN _) (Nat.add_assoc _ _ _))⟩))))
              go_ret
              exact ⟨by first | rfl | (simp [errW_none, errW_some] <;> rfl) | (simp [*, errW_none, errW_some] <;> rfl), hbA_ HB.out⟩
            ·rw [if_neg c29] at H
             have c29b0 : (((rd_T65 l0_1 x6_3).f0) == ((rd_T65 l1_1 x6_3).f0)) = false := beq_eq_false_iff_ne.mpr c29
             have c29b1 : (((rd_T65 l0_1 x6_3).f0) != ((rd_T65 l1_1 x6_3).f0)) = true := bne_iff_ne.mpr c29
             obtain rfl := Option.some.inj H
             have hnb38 := NB429_430.out; have hnc38 := NB430_429.out; have Z39 := zz2 BK429
             have p433 : 0 ≤ (x6_3 : Int) := of_decide_eq_true (by first | (with_reducible assumption) | assumption)
             have q433 : x6_3 < (l0_1.length : Int) := of_decide_eq_true (by first | (with_reducible assumption) | assumption)
             obtain ⟨ad433, A433_1, c433_1, e433, hx433_0, hx433_1, hl433_1, hi433_1⟩ := at_T65 HR0_1.out x6_3 p433 q433
             cases e433
             replace hx433_0 := cc_ HB hx433_0
             replace hx433_1 := cc_ HB hx433_1
             have HR433_1 := Aside0.mk hi433_1; have HC433_1 := Aside0.mk hl433_1; clear hi433_1 hl433_1
             replace p433 := eq_true p433
             replace q433 := eq_true q433
             have Z40 := zz2 BK430
             have p434 : 0 ≤ (x6_3 : Int) := of_decide_eq_true (by first | (with_reducible assumption) | assumption)
             have q434 : x6_3 < (l1_1.length : Int) := of_decide_eq_true (by first | (with_reducible assumption) | assumption)
             obtain ⟨ad434, A434_1, c434_1, e434, hx434_0, hx434_1, hl434_1, hi434_1⟩ := at_T65 HR1_1.out x6_3 p434 q434
             cases e434
             replace hx434_0 := cc_ HB hx434_0
             replace hx434_1 := cc_ HB hx434_1
             have HR434_1 := Aside0.mk hi434_1; have HC434_1 := Aside0.mk hl434_1; clear hi434_1 hl434_1
             replace p434 := eq_true p434
             replace q434 := eq_true q434
             go_wp2
             repeat (go_quiet (fail); try go_wp2)
             go_ret
             exact ⟨by first | rfl | (simp [errW_none, errW_some] <;> rfl) | (simp [*, errW_none, errW_some] <;> rfl), hbA_ HB.out⟩
           ·rw [if_neg c28] at H
            exact absurd H (by simp)
          ·rw [if_neg c27] at H
           exact absurd H (by simp)
         ·rw [if_neg c26] at H
          have c26b0 : decide (x6_3 < (l0_1.length : Int)) = false := decide_eq_false c26
          clear c26
          obtain rfl := Option.some.inj H
          have hnb41 := NB429_430.out; have hnc41 := NB430_429.out; have Z42 := zz2 BK429
          go_wp2
          repeat (go_quiet (fail); try go_wp2)
          go_ret
          exact ⟨by first | rfl | (simp [errW_none, errW_some] <;> rfl) | (simp [*, errW_none, errW_some] <;> rfl), hbA_ HB.out⟩
def laws_sameLists.l0 : Nat → List (List Int) → List (List Int) → Int → Option (Bool)
 | 0, _, _, _ => none
 | k + 1, x0, x1, x5 => if x5 < (x0.length : Int) then (if 0 ≤ x5 then (if x5 < (x1.length : Int) then ((laws_sameBytes.f (rd_L3 x0 x5) (rd_L3 x1 x5)).bind fun t440 => (if t440 = true then (laws_sameLists.l0 k x0 x1 (wrap64 (x5 + 1))) else (some false))) else (none)) else (none)) else (some true)
def laws_sameLists.f (k : Nat) (l0 : List (List Int)) (l1 : List (List Int)) : Option (Bool) := if (l0.length : Int) = (l1.length : Int) then (laws_sameLists.l0 k l0 l1 0) else (some false)
theorem laws_sameLists.mono_l : ∀ k, (∀ y0 y1 y2, LeO (laws_sameLists.l0 k y0 y1 y2) (laws_sameLists.l0 (k + 1) y0 y1 y2))
 | 0 => fun _ _ _ r h => by simp [laws_sameLists.l0] at h
 | k + 1 => by
  have ih0 := laws_sameLists.mono_l k
  ·intro y0 y1 y2
   unfold laws_sameLists.l0
   repeat' first | (with_reducible first | apply ih0 | exact LeO.refl _ | exact LeO.none _ | refine LeO.ite ?_ ?_ | refine LeO.bind ?_ fun _ => ?_) | apply ih0 | exact LeO.none _ | refine LeO.ite ?_ ?_ | refine LeO.bind ?_ fun _ => ?_
theorem laws_sameLists.mono : ∀ a0 a1 k, LeO (laws_sameLists.f k a0 a1) (laws_sameLists.f (k + 1) a0 a1) := by
 intro a0 a1 k
 have ih0 := laws_sameLists.mono_l k
 unfold laws_sameLists.f
 repeat' first | (with_reducible first | apply ih0 | exact LeO.refl _ | exact LeO.none _ | refine LeO.ite ?_ ?_ | refine LeO.bind ?_ fun _ => ?_) | apply ih0 | exact LeO.none _ | refine LeO.ite ?_ ?_ | refine LeO.bind ?_ fun _ => ?_
set_option maxHeartbeats 8000000 in
set_option maxRecDepth 100000 in
theorem laws_sameLists.calls (k : Nat) (A0 : Option Addr) (c0 : Nat) (l0 : List (List Int)) (A1 : Option Addr) (c1 : Nat) (l1 : List (List Int)) (r : Bool) (w : World) (hr0 : Kd.C (Kd.slice 5 (Kd.int .u8)) w A0 l0.length l0) (hc0 : l0.length ≤ c0) (hr1 : Kd.C (Kd.slice 5 (Kd.int .u8)) w A1 l1.length l1) (hc1 : l1.length ≤ c1) (h : laws_sameLists.f k l0 l1 = some r) :
  Calls Try.prog 19 #[.slice A0 l0.length c0, .slice A1 l1.length c1] w fun e w' => e = .returned (.bool r) ∧ Drawn0 w w' := by
 have HR0 := Aside0.mk hr0; have HC0 := Aside0.mk hc0; clear hr0 hc0; have HR1 := Aside0.mk hr1; have HC1 := Aside0.mk hc1; clear hr1 hc1
 have H : (if (l0.length : Int) = (l1.length : Int) then (laws_sameLists.l0 k l0 l1 0) else (some false)) = some r := h
 clear h
 by_cases c3 : (l0.length : Int) = (l1.length : Int)
 ·rw [if_pos c3] at H
  have c3b0 : ((l0.length : Int) == (l1.length : Int)) = true := beq_iff_eq.mpr c3
  have c3b1 : ((l0.length : Int) != (l1.length : Int)) = false := bne_eq_false_iff_eq.mpr c3
  have c3b2 : (l0.length == l1.length) = true := by first | simpa using c3 | (simp at c3 ⊢; omega)
  clear c3
  have H' := Aside0.mk H
  clear H
  go_enter Try.func19, Try.ntmps19
  go_wp2
  repeat (go_quiet (fail); try go_wp2)
  go_loopg [5] k (fun kq v5 w' => ∃ (x5_1 : Int), v5 = .int .i64 x5_1 ∧ Aside0 (laws_sameLists.l0 kq l0 l1 x5_1 = some r) ∧ Aside0 (kq ≤ k) ∧ Drawn0 w w')
  case atStart => exact ⟨(0), (by first | rfl | (simp; done) | (simp [*]; done)), H', ⟨Nat.le_refl _⟩, by repeat (first | exact Drawn0.refl _ | apply Drawn0.step)⟩
  case round =>
   clear H'; (try clear c1); (try clear p2); (try clear c3); (try clear c3b0); (try clear c3b1); (try clear c3b2)
   obtain ⟨x5_1, rfl, HA, HK1, ⟨m1, rfl⟩⟩ := hrel
   cases gk with
   | zero => exact absurd HA.out (by simp [laws_sameLists.l0])
   | succ k1 =>
    have H := HA.out; clear HA
    simp only [laws_sameLists.l0] at H
    by_cases c4 : x5_1 < (l0.length : Int)
    ·rw [if_pos c4] at H
     have c4b0 : decide (x5_1 < (l0.length : Int)) = true := decide_eq_true c4
     clear c4
     by_cases c5 : 0 ≤ x5_1
     ·rw [if_pos c5] at H
      have c5b0 : decide (0 ≤ x5_1) = true := decide_eq_true c5
      clear c5
      by_cases c6 : x5_1 < (l1.length : Int)
      ·rw [if_pos c6] at H
       have c6b0 : decide (x5_1 < (l1.length : Int)) = true := decide_eq_true c6
       clear c6
       replace H := Option.bind_eq_some_iff.mp H
       obtain ⟨t440, A70, H⟩ := H
       (try dsimp only at H)
       have A7 := Aside0.mk A70; clear A70
       by_cases c8 : t440 = true
       ·subst c8
        rw [if_pos rfl] at H
        have H' := Aside0.mk H
        clear H
        have p438 : 0 ≤ (x5_1 : Int) := of_decide_eq_true (by first | (with_reducible assumption) | assumption)
        have q438 : x5_1 < (l0.length : Int) := of_decide_eq_true (by first | (with_reducible assumption) | assumption)
        obtain ⟨ad438, A438_0, c438_0, e438, hx438_0, hl438_0, hi438_0⟩ := at_L3 HR0.out x5_1 p438 q438
        cases e438
        have HR438_0 := Aside0.mk hi438_0; have HC438_0 := Aside0.mk hl438_0; clear hi438_0 hl438_0
        replace p438 := eq_true p438
        replace q438 := eq_true q438
        have p439 : 0 ≤ (x5_1 : Int) := of_decide_eq_true (by first | (with_reducible assumption) | assumption)
        have q439 : x5_1 < (l1.length : Int) := of_decide_eq_true (by first | (with_reducible assumption) | assumption)
        obtain ⟨ad439, A439_0, c439_0, e439, hx439_0, hl439_0, hi439_0⟩ := at_L3 HR1.out x5_1 p439 q439
        cases e439
        have HR439_0 := Aside0.mk hi439_0; have HC439_0 := Aside0.mk hl439_0; clear hi439_0 hl439_0
        replace p439 := eq_true p439
        replace q439 := eq_true q439
        go_wp2_with (first | (go_at_call 60; (with_reducible refine (laws_sameBytes.calls _ _ (rd_L3 l0 x5_1) _ _ (rd_L3 l1 x5_1) true _ ?side1 ?side2 ?side3 ?side4 A7.out).mono ?_); (case side1 => exact kC_ HR438_0.out); (case side2 => exact HC438_0.out); (case side3 => exact kC_ HR439_0.out); (case side4 => exact HC439_0.out); rintro e w' ⟨rfl, ⟨nd, rfl⟩⟩; (try first | exact ⟨rfl, _, World.drewN_drewN _ _ _⟩ | exact ⟨rfl, _, Eq.trans (World.drewN_drewN _ _ _) (congrArg (World.drewN _) (Nat.add_assoc _ _ _))⟩)))
        repeat (go_quiet (first | (go_at_call 60; (with_reducible refine (laws_sameBytes.calls _ _ (rd_L3 l0 x5_1) _ _ (rd_L3 l1 x5_1) true _ ?side1 ?side2 ?side3 ?side4 A7.out).mono ?_); (case side1 => exact kC_ HR438_0.out); (case side2 => exact HC438_0.out); (case side3 => exact kC_ HR439_0.out); (case side4 => exact HC439_0.out); rintro e w' ⟨rfl, ⟨nd, rfl⟩⟩; (try first | exact ⟨rfl, _, World.drewN_drewN _ _ _⟩ | exact ⟨rfl, _, Eq.trans (World.drewN_drewN _ _ _) (congrArg (World.drewN _) (Nat.add_assoc _ _ _))⟩))); try go_wp2_with (first | (go_at_call 60; (with_reducible refine (laws_sameBytes.calls _ _ (rd_L3 l0 x5_1) _ _ (rd_L3 l1 x5_1) true _ ?side1 ?side2 ?side3 ?side4 A7.out).mono ?_); (case side1 => exact kC_ HR438_0.out); (case side2 => exact HC438_0.out); (case side3 => exact kC_ HR439_0.out); (case side4 => exact HC439_0.out); rintro e w' ⟨rfl, ⟨nd, rfl⟩⟩; (try first | exact ⟨rfl, _, World.drewN_drewN _ _ _⟩ | exact ⟨rfl, _, Eq.trans (World.drewN_drewN _ _ _) (congrArg (World.drewN _) (Nat.add_assoc _ _ _))⟩))))
        go_roundg k1
        case measure => have := HK1.out; omega
        case rel => exact ⟨(wrap64 (x5_1 + 1)), (by first | rfl | (simp; done) | (simp [*]; done)), H', ⟨by have := HK1.out; omega⟩, by repeat (first | exact Drawn0.refl _ | apply Drawn0.step)⟩
       ·replace c8 := Bool.eq_false_iff.mpr c8
        subst c8
        rw [if_neg (show ¬ (false = true) by decide)] at H
        obtain rfl := Option.some.inj H
        have p438 : 0 ≤ (x5_1 : Int) := of_decide_eq_true (by first | (with_reducible assumption) | assumption)
        have q438 : x5_1 < (l0.length : Int) := of_decide_eq_true (by first | (with_reducible assumption) | assumption)
        obtain ⟨ad438, A438_0, c438_0, e438, hx438_0, hl438_0, hi438_0⟩ := at_L3 HR0.out x5_1 p438 q438
        cases e438
        have HR438_0 := Aside0.mk hi438_0; have HC438_0 := Aside0.mk hl438_0; clear hi438_0 hl438_0
        replace p438 := eq_true p438
        replace q438 := eq_true q438
        have p439 : 0 ≤ (x5_1 : Int) := of_decide_eq_true (by first | (with_reducible assumption) | assumption)
        have q439 : x5_1 < (l1.length : Int) := of_decide_eq_true (by first | (with_reducible assumption) | assumption)
        obtain ⟨ad439, A439_0, c439_0, e439, hx439_0, hl439_0, hi439_0⟩ := at_L3 HR1.out x5_1 p439 q439
        cases e439
        have HR439_0 := Aside0.mk hi439_0; have HC439_0 := Aside0.mk hl439_0; clear hi439_0 hl439_0
        replace p439 := eq_true p439
        replace q439 := eq_true q439
        go_wp2_with (first | (go_at_call 60; (with_reducible refine (laws_sameBytes.calls _ _ (rd_L3 l0 x5_1) _ _ (rd_L3 l1 x5_1) false _ ?side1 ?side2 ?side3 ?side4 A7.out).mono ?_); (case side1 => exact kC_ HR438_0.out); (case side2 => exact HC438_0.out); (case side3 => exact kC_ HR439_0.out); (case side4 => exact HC439_0.out); rintro e w' ⟨rfl, ⟨nd, rfl⟩⟩; (try first | exact ⟨rfl, _, World.drewN_drewN _ _ _⟩ | exact ⟨rfl, _, Eq.trans (World.drewN_drewN _ _ _) (congrArg (World.drewN _) (Nat.add_assoc _ _ _))⟩)))
        repeat (go_quiet (first | (go_at_call 60; (with_reducible refine (laws_sameBytes.calls _ _ (rd_L3 l0 x5_1) _ _ (rd_L3 l1 x5_1) false _ ?side1 ?side2 ?side3 ?side4 A7.out).mono ?_); (case side1 => exact kC_ HR438_0.out); (case side2 => exact HC438_0.out); (case side3 => exact kC_ HR439_0.out); (case side4 => exact HC439_0.out); rintro e w' ⟨rfl, ⟨nd, rfl⟩⟩; (try first | exact ⟨rfl, _, World.drewN_drewN _ _ _⟩ | exact ⟨rfl, _, Eq.trans (World.drewN_drewN _ _ _) (congrArg (World.drewN _) (Nat.add_assoc _ _ _))⟩))); try go_wp2_with (first | (go_at_call 60; (with_reducible refine (laws_sameBytes.calls _ _ (rd_L3 l0 x5_1) _ _ (rd_L3 l1 x5_1) false _ ?side1 ?side2 ?side3 ?side4 A7.out).mono ?_); (case side1 => exact kC_ HR438_0.out); (case side2 => exact HC438_0.out); (case side3 => exact kC_ HR439_0.out); (case side4 => exact HC439_0.out); rintro e w' ⟨rfl, ⟨nd, rfl⟩⟩; (try first | exact ⟨rfl, _, World.drewN_drewN _ _ _⟩ | exact ⟨rfl, _, Eq.trans (World.drewN_drewN _ _ _) (congrArg (World.drewN _) (Nat.add_assoc _ _ _))⟩))))
        go_ret
        exact ⟨by first | rfl | (simp; done) | (simp [*]; done), by repeat (first | exact Drawn0.refl _ | apply Drawn0.step)⟩
      ·rw [if_neg c6] at H
       exact absurd H (by simp)
     ·rw [if_neg c5] at H
      exact absurd H (by simp)
    ·rw [if_neg c4] at H
     have c4b0 : decide (x5_1 < (l0.length : Int)) = false := decide_eq_false c4
     clear c4
     obtain rfl := Option.some.inj H
     go_wp2
     repeat (go_quiet (fail); try go_wp2)
     go_ret
     exact ⟨by first | rfl | (simp; done) | (simp [*]; done), by repeat (first | exact Drawn0.refl _ | apply Drawn0.step)⟩
 ·rw [if_neg c3] at H
  have c3b0 : ((l0.length : Int) == (l1.length : Int)) = false := beq_eq_false_iff_ne.mpr c3
  have c3b1 : ((l0.length : Int) != (l1.length : Int)) = true := bne_iff_ne.mpr c3
  have c3b2 : (l0.length == l1.length) = false := by first | simpa using c3 | (simp at c3 ⊢; omega)
  obtain rfl := Option.some.inj H
  go_enter Try.func19, Try.ntmps19
  go_wp2
  repeat (go_quiet (fail); try go_wp2)
  go_ret
  exact ⟨by first | rfl | (simp; done) | (simp [*]; done), by repeat (first | exact Drawn0.refl _ | apply Drawn0.step)⟩
def impl_bytesOf.l0 : Nat → Int → List Int → Int → Option (List Int)
 | 0, _, _, _ => none
 | k + 1, x0, x5, x6 => if x6 ≥ 0 then (if 0 ≤ x6 then (if x6 < (x5.length : Int) then (impl_bytesOf.l0 k (x0 / 256) (x5.set (x6 : Int).toNat ((x0) % 256)) (wrap64 (x6 - 1))) else (none)) else (none)) else (some x5)
def impl_bytesOf.f (k : Nat) (a0 : Int) (a1 : Int) : Option (List Int) := if 0 ≤ a1 then (if (a1 : Int).toNat ≤ 281474976710656 then (impl_bytesOf.l0 k a0 (List.replicate (a1 : Int).toNat 0) (wrap64 (a1 - 1))) else (none)) else (none)
theorem impl_bytesOf.mono_l : ∀ k, (∀ y0 y1 y2, LeO (impl_bytesOf.l0 k y0 y1 y2) (impl_bytesOf.l0 (k + 1) y0 y1 y2))
 | 0 => fun _ _ _ r h => by simp [impl_bytesOf.l0] at h
 | k + 1 => by
  have ih0 := impl_bytesOf.mono_l k
  ·intro y0 y1 y2
   unfold impl_bytesOf.l0
   repeat' first | (with_reducible first | apply ih0 | exact LeO.refl _ | exact LeO.none _ | refine LeO.ite ?_ ?_ | refine LeO.bind ?_ fun _ => ?_) | apply ih0 | exact LeO.none _ | refine LeO.ite ?_ ?_ | refine LeO.bind ?_ fun _ => ?_
theorem impl_bytesOf.mono : ∀ a0 a1 k, LeO (impl_bytesOf.f k a0 a1) (impl_bytesOf.f (k + 1) a0 a1) := by
 intro a0 a1 k
 have ih0 := impl_bytesOf.mono_l k
 unfold impl_bytesOf.f
 repeat' first | (with_reducible first | apply ih0 | exact LeO.refl _ | exact LeO.none _ | refine LeO.ite ?_ ?_ | refine LeO.bind ?_ fun _ => ?_) | apply ih0 | exact LeO.none _ | refine LeO.ite ?_ ?_ | refine LeO.bind ?_ fun _ => ?_
set_option maxHeartbeats 8000000 in
set_option maxRecDepth 100000 in
theorem impl_bytesOf.calls (k : Nat) (a0 : Int) (a1 : Int) (r : List Int) (w : World) (h : impl_bytesOf.f k a0 a1 = some r) :
  Calls Try.prog 79 #[.int .i64 a0, .int .i64 a1] w fun e w' => ∃ v0_ : Value, e = .returned (v0_) ∧ Kd.R (Kd.int .u8) 5 w' w.heap.size (fun _ => True) v0_ r ∧ Below w.heap.size w w' := by
 have HB := Aside0.mk (Below.refl w.heap.size w)
 have H : (if 0 ≤ a1 then (if (a1 : Int).toNat ≤ 281474976710656 then (impl_bytesOf.l0 k a0 (List.replicate (a1 : Int).toNat 0) (wrap64 (a1 - 1))) else (none)) else (none)) = some r := h
 clear h
 by_cases c3 : 0 ≤ a1
 ·rw [if_pos c3] at H
  have c3b0 := eq_true c3
  have c3b1 : decide (0 ≤ a1) = true := decide_eq_true c3
  clear c3
  by_cases c4 : (a1 : Int).toNat ≤ 281474976710656
  ·rw [if_pos c4] at H
   have c4b0 := eq_true c4
   have c4b1 : decide ((a1 : Int).toNat ≤ 281474976710656) = true := decide_eq_true c4
   clear c4
   obtain ⟨y441, hy441⟩ : ∃ y_ : List Int, y_ = (List.replicate (a1 : Int).toNat 0) := ⟨_, rfl⟩
   (first | replace H := sb_ hy441 H | rw [← hy441] at H)
   have Ny441 := Aside0.mk hy441; clear hy441
   have H' := Aside0.mk H
   clear H
   go_enter Try.func79, Try.ntmps79
   go_wp2_with (first | ((with_reducible refine gate_dst (N := 8) rfl ?_); refine Kd.R_make (Kd.int .u8) _ 5 rfl (N := 8) rfl 44 _ _ rfl a1 rfl rfl Try.underlying44 (.int .u8 0) 1 info5 rfl (by decide) (by omega) 0 (ok := fun _ => True) (okp := fun _ => True) rfl (fun _ hk => hk) trivial (of_decide_eq_true (by first | (with_reducible assumption) | assumption)) (Nat.le_trans (Nat.mul_le_mul_right _ (of_decide_eq_true (by first | (with_reducible assumption) | assumption) : a1.toNat ≤ 281474976710656)) (by omega)) (Below.refl _ _) (Nat.le_refl _) ?_; intro v442 w5 ho6 hb hg_ hnew_; clear hg_ hnew_; (first | rw [← Ny441.out] at ho6 | (simp only [Int.reduceToNat] at ho6; rw [← Ny441.out] at ho6)); have HO443 := Aside0.mk (Kd.R_lower ho6 (below_size (hbA_ HB.out))); replace HB := (bs_ HB hb); clear hb ho6))
   go_loopg [0, 6] k (fun kq v0 v6 w' => ∃ (x0_1 : Int) (x5_1 : List Int) (x6_1 : Int), v0 = .int .i64 x0_1 ∧ v6 = .int .i64 x6_1 ∧ Aside0 (impl_bytesOf.l0 kq x0_1 x5_1 x6_1 = some r) ∧ Aside0 (kq ≤ k) ∧ Aside0 (Kd.R (Kd.int .u8) 5 w' w.heap.size (fun _ => True) v442 x5_1) ∧ Aside0 (Below w.heap.size w w'))
   case atStart => exact ⟨(a0), (y441), (wrap64 (a1 - 1)), (by first | rfl | (simp; done) | (simp [*]; done)), (by first | rfl | (simp; done) | (simp [*]; done)), H', ⟨Nat.le_refl _⟩, ⟨kR_ HO443.out⟩, ⟨hbA_ HB.out⟩⟩
   case round =>
    clear H'; (try clear p2); (try clear c3); (try clear c3b0); (try clear c3b1); (try clear c4); (try clear c4b0); (try clear c4b1); (try clear p6)
    obtain ⟨x0_1, x5_1, x6_1, rfl, rfl, HA, HK1, HO_5, HB⟩ := hrel
    cases gk with
    | zero => exact absurd HA.out (by simp [impl_bytesOf.l0])
    | succ k1 =>
     have H := HA.out; clear HA
     simp only [impl_bytesOf.l0] at H
     by_cases c7 : x6_1 ≥ 0
     ·rw [if_pos c7] at H
      have c7b0 : decide (0 ≤ x6_1) = true := decide_eq_true c7
      clear c7
      by_cases c8 : 0 ≤ x6_1
      ·rw [if_pos c8] at H
       have c8b0 : decide (0 ≤ x6_1) = true := decide_eq_true c8
       clear c8
       by_cases c9 : x6_1 < (x5_1.length : Int)
       ·rw [if_pos c9] at H
        have c9b0 : decide (x6_1 < (x5_1.length : Int)) = true := decide_eq_true c9
        clear c9
        obtain ⟨y444, hy444⟩ : ∃ y_ : List Int, y_ = (x5_1.set (x6_1 : Int).toNat ((x0_1) % 256)) := ⟨_, rfl⟩
        (first | replace H := sb_ hy444 H | rw [← hy444] at H)
        have Ny444 := Aside0.mk hy444; clear hy444
        have H' := Aside0.mk H
        clear H
        have p10 : 0 ≤ (x6_1 : Int) := of_decide_eq_true (by first | (with_reducible assumption) | assumption)
        have q10 : (x6_1 : Int) < ((x5_1.length : Int) : Int) := of_decide_eq_true (by first | (with_reducible assumption) | assumption)
        obtain ⟨go10, co10, eo10, gb10, gl10, cl10, HG10⟩ := Kd.R_form HO_5.out (by omega)
        (first | cases eo10 | (injection eo10 with ea_ en_ ec_; (first | subst ea_ | (injection ea_ with ea_; subst ea_)); subst ec_; clear en_))
        have GB10 := Aside0.mk gb10; have GG10 := Aside0.mk HG10; clear gb10 gl10 HG10
        obtain ⟨hx10_0, hf10_0⟩ := Kd.R_celln 0 HO_5.out (x6_1 : Int) p10 q10
        replace p10 := eq_true p10
        replace q10 := eq_true q10
        have HP11 := Kd.R_putg HO_5.out (x6_1 : Int) ((x0_1) % 256)
        go_wp2_with (first | ((with_reducible refine gate_store (t := 5) (p := 19) rfl ?_); refine store_event (t := 5) (p := 19) (v := ?vo_w12) (w1 := (wr.setCell ⟨go10, (x6_1 : Int).toNat, none⟩ (.int .u8 ((x0_1) % 256)))) ?hg ?ho ?hn ?hr ?_; (case ho => rfl); (case hg => rfl); (case hn => rfl); (case hr => first | (go_simp; done) | (go_simp; rfl)); intro w12 hw; have hg : wr.grownBy w12 (some go10) := (by rw [hw]; exact HP11.2); have hp_ : Kd.R (Kd.int .u8) 5 w12 w.heap.size (fun _ => True) (.slice (some ⟨go10, 0, none⟩) x5_1.length co10) y444 := (by rw [hw, Ny444.out]; exact HP11.1); clear HP11; replace HO_5 := Aside0.mk (hp_); replace HB := Aside0.mk ((by rw [hw]; exact below_set (HB.out) GB10.out : Below w.heap.size w w12)); clear hg hw hp_))
        go_roundg k1
        case measure => have := HK1.out; omega
        case rel => exact ⟨(x0_1 / 256), (y444), (wrap64 (x6_1 - 1)), (by first | rfl | (simp; done) | (simp [*]; done)), (by first | rfl | (simp; done) | (simp [*]; done)), H', ⟨by have := HK1.out; omega⟩, ⟨kR_ HO_5.out⟩, ⟨hbA_ HB.out⟩⟩
       ·rw [if_neg c9] at H
        exact absurd H (by simp)
      ·rw [if_neg c8] at H
       exact absurd H (by simp)
     ·rw [if_neg c7] at H
      have c7b0 : decide (0 ≤ x6_1) = false := decide_eq_false c7
      clear c7
      obtain rfl := Option.some.inj H
      go_wp2
      go_ret
      exact ⟨_, by first | rfl | (simp [errW_none, errW_some] <;> rfl) | (simp [*, errW_none, errW_some] <;> rfl), kR_ HO_5.out, hbA_ HB.out⟩
  ·rw [if_neg c4] at H
   exact absurd H (by simp)
 ·rw [if_neg c3] at H
  exact absurd H (by simp)
def impl_BytesOf.f (k : Nat) (a0 : Int) (a1 : Int) : Option (List Int) := (impl_in.f a1 1 4).bind fun t445 => (if t445 = true then (if 0 ≤ (wrap64 (8 * a1)) then ((impl_in.f a0 0 (wrap64 ((shl .i64 1 (wrap64 (8 * a1))) - 1))).bind fun t446 => (if t446 = true then ((impl_bytesOf.f k a0 a1).bind fun t447 => (some t447)) else (some ([] : List Int)))) else (none)) else (some ([] : List Int)))
theorem impl_BytesOf.mono : ∀ a0 a1 k, LeO (impl_BytesOf.f k a0 a1) (impl_BytesOf.f (k + 1) a0 a1) := by
 intro a0 a1 k
 unfold impl_BytesOf.f
 repeat' first | (with_reducible first | apply impl_bytesOf.mono | exact LeO.refl _ | exact LeO.none _ | refine LeO.ite ?_ ?_ | refine LeO.bind ?_ fun _ => ?_) | apply impl_bytesOf.mono | exact LeO.none _ | refine LeO.ite ?_ ?_ | refine LeO.bind ?_ fun _ => ?_
set_option maxHeartbeats 8000000 in
set_option maxRecDepth 100000 in
theorem impl_BytesOf.calls (k : Nat) (a0 : Int) (a1 : Int) (r : List Int) (w : World) (h : impl_BytesOf.f k a0 a1 = some r) :
  Calls Try.prog 63 #[.int .i64 a0, .int .i64 a1] w fun e w' => ∃ v0_ : Value, e = .returned (v0_) ∧ Kd.R (Kd.int .u8) 5 w' w.heap.size (fun _ => True) v0_ r ∧ Below w.heap.size w w' := by
 have HB := Aside0.mk (Below.refl w.heap.size w)
 have H : ((impl_in.f a1 1 4).bind fun t445 => (if t445 = true then (if 0 ≤ (wrap64 (8 * a1)) then ((impl_in.f a0 0 (wrap64 ((shl .i64 1 (wrap64 (8 * a1))) - 1))).bind fun t446 => (if t446 = true then ((impl_bytesOf.f k a0 a1).bind fun t447 => (some t447)) else (some ([] : List Int)))) else (none)) else (some ([] : List Int)))) = some r := h
 clear h
 replace H := Option.bind_eq_some_iff.mp H
 obtain ⟨t445, A30, H⟩ := H
 (try dsimp only at H)
 have A3 := Aside0.mk A30; clear A30
 by_cases c4 : t445 = true
 ·subst c4
  rw [if_pos rfl] at H
  obtain ⟨ji5, hji5⟩ : ∃ j_ : Int, (wrap64 (8 * a1)) = j_ := ⟨_, rfl⟩
  (first | rw [hji5] at H | simp only [hji5] at H)
  (try rw [hji5] at A3)
  have hji5w : (IntKind.i64.wrap (8 * a1)) = ji5 := (i64_w _).trans hji5
  by_cases c6 : 0 ≤ (ji5)
  ·rw [if_pos c6] at H
   have c6b0 := eq_true c6
   have c6b1 : decide (0 ≤ (ji5)) = true := decide_eq_true c6
   clear c6
   obtain ⟨ji7, hji7⟩ : ∃ j_ : Int, (shl .i64 1 (ji5)) = j_ := ⟨_, rfl⟩
   (first | rw [hji7] at H | simp only [hji7] at H)
   (try rw [hji7] at A3)
   have hji7_ : (IntKind.i64.wrap (1 * 2 ^ min (ji5).toNat 64)) = ji7 := hji7
   have hji7z : (ji5) ≤ 64 → (IntKind.i64.wrap (1 * 2 ^ (ji5).toNat)) = ji7 := shl_small hji7
   have hji7u : (IntKind.i64.wrap (2 ^ min (ji5).toNat 64)) = ji7 := by have h_ := hji7_; rw [Int.one_mul] at h_; exact h_
   have hji7v : (ji5) ≤ 64 → (IntKind.i64.wrap (2 ^ (ji5).toNat)) = ji7 := fun hle_ => by have h_ := hji7z hle_; rw [Int.one_mul] at h_; exact h_
   have hji7y : (wrap64 (1 * 2 ^ min (ji5).toNat 64)) = ji7 := (i64_w _).symm.trans hji7_
   have hji7x : (ji5) ≤ 64 → (wrap64 (1 * 2 ^ (ji5).toNat)) = ji7 := fun h_ => (i64_w _).symm.trans (hji7z h_)
   replace H := Option.bind_eq_some_iff.mp H
   obtain ⟨t446, A80, H⟩ := H
   (try dsimp only at H)
   have A8 := Aside0.mk A80; clear A80
   by_cases c9 : t446 = true
   ·subst c9
    rw [if_pos rfl] at H
    replace H := Option.bind_eq_some_iff.mp H
    obtain ⟨t447, A100, H⟩ := H
    (try dsimp only at H)
    have A10 := Aside0.mk A100; clear A100
    obtain rfl := Option.some.inj H
    go_enter Try.func63, Try.ntmps63
    go_wp2_with (first | ((with_reducible refine gate_callee (f := 37) rfl ?_); refine goesL_ (some 6) rfl rfl Try.func37 (by kernel_rfl) rfl #[.int .i64 a1, .int .i64 1, .int .i64 4] rfl ar_ ?_; (with_reducible refine (impl_in.calls a1 1 4 true _ A3.out).mono ?_); rintro e w' ⟨rfl, ⟨nd, rfl⟩⟩; refine ⟨_, rfl, ?_⟩) | (go_at_call 37; (with_reducible refine (impl_in.calls a0 0 (wrap64 ((ji7) - 1)) true _ A8.out).mono ?_); rintro e w' ⟨rfl, ⟨nd, rfl⟩⟩) | ((with_reducible refine gate_callee (f := 79) rfl ?_); refine goesL_ (some 19) rfl rfl Try.func79 (by kernel_rfl) rfl #[.int .i64 a0, .int .i64 a1] rfl ar_ ?_; (with_reducible refine (impl_bytesOf.calls k a0 a1 t447 _ A10.out).mono ?_); rintro e w11 ⟨v448, rfl, ho0, hb⟩; refine ⟨_, rfl, ?_⟩; have HO449 := Aside0.mk (Kd.R_lower ho0 (below_size (hbA_ HB.out))); replace HB := (bs_ HB hb); (try clear hb); (try clear hb2); (try clear hk); (try clear hi); (try clear ho0)))
    go_ret
    exact ⟨_, by first | rfl | (simp [errW_none, errW_some] <;> rfl) | (simp only [← hji5, ← hji7]; first | rfl | (simp [errW_none, errW_some] <;> rfl)) | (simp [*, errW_none, errW_some] <;> rfl), kR_ HO449.out, hbA_ HB.out⟩
   ·replace c9 := Bool.eq_false_iff.mpr c9
    subst c9
    rw [if_neg (show ¬ (false = true) by decide)] at H
    obtain rfl := Option.some.inj H
    go_enter Try.func63, Try.ntmps63
    go_wp2_with (first | ((with_reducible refine gate_callee (f := 37) rfl ?_); refine goesL_ (some 6) rfl rfl Try.func37 (by kernel_rfl) rfl #[.int .i64 a1, .int .i64 1, .int .i64 4] rfl ar_ ?_; (with_reducible refine (impl_in.calls a1 1 4 true _ A3.out).mono ?_); rintro e w' ⟨rfl, ⟨nd, rfl⟩⟩; refine ⟨_, rfl, ?_⟩) | (go_at_call 37; (with_reducible refine (impl_in.calls a0 0 (wrap64 ((ji7) - 1)) false _ A8.out).mono ?_); rintro e w' ⟨rfl, ⟨nd, rfl⟩⟩))
    go_ret
    exact ⟨_, by first | rfl | (simp [errW_none, errW_some] <;> rfl) | (simp only [← hji5, ← hji7]; first | rfl | (simp [errW_none, errW_some] <;> rfl)) | (simp [*, errW_none, errW_some] <;> rfl), by first | exact Kd.R_nil _ _ _ _ _ | exact Kd.N_nil _ _ _ _ _ | exact Kd.V_nil _ _ _ _ _ | exact Kd.Q_nil _ _ _ _ _ | exact Kd.S_nil _ _ _ _ _, hbA_ HB.out⟩
  ·rw [if_neg c6] at H
   exact absurd H (by simp)
 ·replace c4 := Bool.eq_false_iff.mpr c4
  subst c4
  rw [if_neg (show ¬ (false = true) by decide)] at H
  obtain rfl := Option.some.inj H
  go_enter Try.func63, Try.ntmps63
  go_wp2_with (first | ((with_reducible refine gate_callee (f := 37) rfl ?_); refine goesL_ (some 6) rfl rfl Try.func37 (by kernel_rfl) rfl #[.int .i64 a1, .int .i64 1, .int .i64 4] rfl ar_ ?_; (with_reducible refine (impl_in.calls a1 1 4 false _ A3.out).mono ?_); rintro e w' ⟨rfl, ⟨nd, rfl⟩⟩; refine ⟨_, rfl, ?_⟩))
  go_ret
  exact ⟨_, by first | rfl | (simp [errW_none, errW_some] <;> rfl) | (simp [*, errW_none, errW_some] <;> rfl), by first | exact Kd.R_nil _ _ _ _ _ | exact Kd.N_nil _ _ _ _ _ | exact Kd.V_nil _ _ _ _ _ | exact Kd.Q_nil _ _ _ _ _ | exact Kd.S_nil _ _ _ _ _, hbA_ HB.out⟩
def laws_alive.f (k : Nat)  : Option (Bool) := (impl_BytesOf.f k 5 1).bind fun t450 => (if (t450.length : Int) = 1 then ((impl_BytesOf.f k 256 1).bind fun t453 => (some ((t453.length : Int) == 0))) else (some false))
theorem laws_alive.mono : ∀ k, LeO (laws_alive.f k ) (laws_alive.f (k + 1) ) := by
 intro  k
 unfold laws_alive.f
 repeat' first | (with_reducible first | apply impl_BytesOf.mono | exact LeO.refl _ | exact LeO.none _ | refine LeO.ite ?_ ?_ | refine LeO.bind ?_ fun _ => ?_) | apply impl_BytesOf.mono | exact LeO.none _ | refine LeO.ite ?_ ?_ | refine LeO.bind ?_ fun _ => ?_
set_option maxHeartbeats 8000000 in
set_option maxRecDepth 100000 in
theorem laws_alive.calls (k : Nat)  (r : Bool) (w : World) (h : laws_alive.f k  = some r) :
  Calls Try.prog 22 #[] w fun e w' => e = .returned (.bool r) ∧ Below w.heap.size w w' := by
 have HB := Aside0.mk (Below.refl w.heap.size w)
 have H : ((impl_BytesOf.f k 5 1).bind fun t450 => (if (t450.length : Int) = 1 then ((impl_BytesOf.f k 256 1).bind fun t453 => (some ((t453.length : Int) == 0))) else (some false))) = some r := h
 clear h
 replace H := Option.bind_eq_some_iff.mp H
 obtain ⟨t450, A10, H⟩ := H
 (try dsimp only at H)
 have A1 := Aside0.mk A10; clear A10
 by_cases c2 : (t450.length : Int) = 1
 ·rw [if_pos c2] at H
  have c2b0 : ((t450.length : Int) == 1) = true := beq_iff_eq.mpr c2
  have c2b1 : ((t450.length : Int) != 1) = false := bne_eq_false_iff_eq.mpr c2
  clear c2
  replace H := Option.bind_eq_some_iff.mp H
  obtain ⟨t453, A30, H⟩ := H
  (try dsimp only at H)
  have A3 := Aside0.mk A30; clear A30
  obtain rfl := Option.some.inj H
  go_enter Try.func22, Try.ntmps22
  go_wp2_with (first | ((with_reducible refine gate_callee (f := 63) rfl ?_); refine goesL_ (some 1) rfl rfl Try.func63 (by kernel_rfl) rfl #[.int .i64 5, .int .i64 1] rfl ar_ ?_; (with_reducible refine (impl_BytesOf.calls k 5 1 t450 _ A1.out).mono ?_); rintro e w4 ⟨v451, rfl, ho0, hb⟩; refine ⟨_, rfl, ?_⟩; have HO452 := Aside0.mk (Kd.R_lower ho0 (below_size (hbA_ HB.out))); replace HB := (bs_ HB hb); (try clear hb); (try clear hb2); (try clear hk); (try clear hi); (try clear ho0); obtain ⟨Ao5, co5, eo5⟩ := Kd.R_slice HO452.out; subst eo5) | (go_at_call 63; (with_reducible refine (impl_BytesOf.calls k 256 1 t453 _ A3.out).mono ?_); rintro e w6 ⟨v454, rfl, ho0, hb⟩; have HO455 := Aside0.mk (Kd.R_lower (Kd.R_new' ho0 (Kd.R_lt (kR_ HO452.out))) (below_size (hbA_ HB.out))); replace HO452 := Aside0.mk (Kd.R_elder' (kR_ HO452.out) (Kd.R_base ho0) hb); replace HB := (bs_ HB hb); (try clear hb); (try clear hb2); (try clear hk); (try clear hi); (try clear ho0); obtain ⟨Ao7, co7, eo7⟩ := Kd.R_slice HO455.out; subst eo7))
  go_ret
  exact ⟨by first | rfl | (simp [errW_none, errW_some] <;> rfl) | (simp [*, errW_none, errW_some] <;> rfl), hbA_ HB.out⟩
 ·rw [if_neg c2] at H
  have c2b0 : ((t450.length : Int) == 1) = false := beq_eq_false_iff_ne.mpr c2
  have c2b1 : ((t450.length : Int) != 1) = true := bne_iff_ne.mpr c2
  obtain rfl := Option.some.inj H
  go_enter Try.func22, Try.ntmps22
  go_wp2_with (first | ((with_reducible refine gate_callee (f := 63) rfl ?_); refine goesL_ (some 1) rfl rfl Try.func63 (by kernel_rfl) rfl #[.int .i64 5, .int .i64 1] rfl ar_ ?_; (with_reducible refine (impl_BytesOf.calls k 5 1 t450 _ A1.out).mono ?_); rintro e w8 ⟨v451, rfl, ho0, hb⟩; refine ⟨_, rfl, ?_⟩; have HO452 := Aside0.mk (Kd.R_lower ho0 (below_size (hbA_ HB.out))); replace HB := (bs_ HB hb); (try clear hb); (try clear hb2); (try clear hk); (try clear hi); (try clear ho0); obtain ⟨Ao9, co9, eo9⟩ := Kd.R_slice HO452.out; subst eo9))
  go_ret
  exact ⟨by first | rfl | (simp [errW_none, errW_some] <;> rfl) | (simp [*, errW_none, errW_some] <;> rfl), hbA_ HB.out⟩
def laws_heldFor.l0 : Nat → Int → List (List Int) → Int → List (S63) → List (S65) → Option ((List (List Int)))
 | 0, _, _, _, _, _ => none
 | k + 1, x1, x5, x6, x457000, x457001 => if x6 < (x457001.length : Int) then (if 0 ≤ x6 then (if ((rd_T65 x457001 x6).f0) = x1 then (if x5.length < 5864062014805 then (laws_heldFor.l0 k x1 (x5 ++ [(rd_T65 x457001 x6).f1]) (wrap64 (x6 + 1)) x457000 x457001) else (none)) else (laws_heldFor.l0 k x1 x5 (wrap64 (x6 + 1)) x457000 x457001)) else (none)) else (some x5)
def laws_heldFor.f (k : Nat) (l0_0 : List (S63)) (l0_1 : List (S65)) (a1 : Int) : Option ((List (List Int))) := laws_heldFor.l0 k a1 (([] : List (List Int))) 0 l0_0 l0_1
theorem laws_heldFor.mono_l : ∀ k, (∀ y0 y1 y2 y3 y4, LeO (laws_heldFor.l0 k y0 y1 y2 y3 y4) (laws_heldFor.l0 (k + 1) y0 y1 y2 y3 y4))
 | 0 => fun _ _ _ _ _ r h => by simp [laws_heldFor.l0] at h
 | k + 1 => by
  have ih0 := laws_heldFor.mono_l k
  ·intro y0 y1 y2 y3 y4
   unfold laws_heldFor.l0
   repeat' first | (with_reducible first | apply ih0 | exact LeO.refl _ | exact LeO.none _ | refine LeO.ite ?_ ?_ | refine LeO.bind ?_ fun _ => ?_) | apply ih0 | exact LeO.none _ | refine LeO.ite ?_ ?_ | refine LeO.bind ?_ fun _ => ?_
theorem laws_heldFor.mono : ∀ a0 a1 a2 k, LeO (laws_heldFor.f k a0 a1 a2) (laws_heldFor.f (k + 1) a0 a1 a2) := by
 intro a0 a1 a2 k
 have ih0 := laws_heldFor.mono_l k
 unfold laws_heldFor.f
 repeat' first | (with_reducible first | apply ih0 | exact LeO.refl _ | exact LeO.none _ | refine LeO.ite ?_ ?_ | refine LeO.bind ?_ fun _ => ?_) | apply ih0 | exact LeO.none _ | refine LeO.ite ?_ ?_ | refine LeO.bind ?_ fun _ => ?_
set_option maxHeartbeats 8000000 in
set_option maxRecDepth 100000 in
theorem laws_heldFor.calls (k : Nat) (A0_0 : Option Addr) (c0_0 : Nat) (l0_0 : List (S63)) (P0_1_ : Nat → Prop) (A0_1 : Option Addr) (c0_1 : Nat) (l0_1 : List (S65)) (a1 : Int) (r : List (List Int)) (w : World) (hr0_0 : Kd.C k63 w A0_0 l0_0.length l0_0) (hc0_0 : l0_0.length ≤ c0_0) (hs0_1 : Kd.V k65 65 w w.heap.size (fun k_ => P0_1_ k_) (.slice A0_1 l0_1.length c0_1) l0_1) (h : laws_heldFor.f k l0_0 l0_1 a1 = some r) :
  Calls Try.prog 23 #[.agg #[.slice A0_0 l0_0.length c0_0, .slice A0_1 l0_1.length c0_1], .int .i64 a1] w fun e w' => ∃ v0_ : Value, e = .returned (v0_) ∧ Kd.N (Kd.slice 5 (Kd.int .u8)) 44 w' w.heap.size (fun k_ => (P0_1_ k_ ∨ w.heap.size ≤ k_)) v0_ r ∧ Below w.heap.size w w' := by
 have hu32 := Try.underlying32; have HR0_0 := Aside0.mk hr0_0; have HC0_0 := Aside0.mk hc0_0; clear hr0_0 hc0_0
 have HO0_1 := Aside0.mk (show Kd.V k65 65 w w.heap.size (fun k_ => (P0_1_ k_ ∨ w.heap.size ≤ k_)) (.slice A0_1 l0_1.length c0_1) l0_1 from Kd.V_mono hs0_1 (fun k_ hk => .inl hk))
 have HB := Aside0.mk (Below.refl w.heap.size w)
 have H : (laws_heldFor.l0 k a1 (([] : List (List Int))) 0 l0_0 l0_1) = some r := h
 clear h
 obtain ⟨y457, hy457⟩ : ∃ y_ : List (List Int), y_ = (([] : List (List Int))) := ⟨_, rfl⟩
 (first | replace H := sb_ hy457 H | rw [← hy457] at H)
 have Ny457 := Aside0.mk hy457; clear hy457
 have H' := Aside0.mk H
 clear H
 go_enter Try.func23, Try.ntmps23
 go_wp2_with (first | ((with_reducible refine gate_dst (N := 2) rfl ?_); refine box_ (N := 2) (cs := #[.slice A0_0 l0_0.length c0_0, .slice A0_1 l0_1.length c0_1]) (t := 32) (fun gb456 hg w3 hbox hb => ?_); replace HO0_1 := Aside0.mk (Kd.V_below (Kd.V_elderB (kV_ HO0_1.out) gb456 (Nat.le_of_eq hg.symm)) hb); have BK456 := Aside0.mk (hbox); have GW456 := ge_ hg HB; have GE456 := ge_ hg HB; replace HB := (bs_ HB hb); clear hb hbox hg) | ((with_reducible refine gate_dst (N := 7) rfl ?_); refine Kd.N_lit (Kd.slice 5 (Kd.int .u8)) _ 44 ?hg (N' := 7) ?hd (xs := ([] : List (List Int))) (inner := []) (ok := (fun k_ => (P0_1_ k_ ∨ w.heap.size ≤ k_) ∧ k_ ≠ gb456)) (okp := (fun k_ => (P0_1_ k_ ∨ w.heap.size ≤ k_) ∧ k_ ≠ gb456)) ?hr ?hp (fun _ hk => hk) ((show ∀ k_, w3.heap.size ≤ k_ → (fun k_ => (P0_1_ k_ ∨ w.heap.size ≤ k_) ∧ k_ ≠ gb456) k_ from fun k_ hk => ⟨(.inr (Nat.le_trans (below_size (hbA_ HB.out)) hk)), fb_ BK456 k_ hk⟩) _ (Nat.le_refl _)) (Below.refl _ _) (Nat.le_refl _) (by simp) ?_; (case hd => rfl); (case hg => rfl); (case hr => first | (go_simp; done) | (go_simp; rfl)); (case hp => exact (Reps.none _ _)); intro v458 w4 ho5 hb hg_ hnew_; clear hg_ hnew_; (first | rw [← Ny457.out] at ho5 | (simp only [Int.reduceToNat] at ho5; rw [← Ny457.out] at ho5)); replace HO0_1 := Aside0.mk (Kd.V_elder' (kV_ HO0_1.out) (Kd.base_ ho5) hb); have HO459 := Aside0.mk (Kd.N_lower ho5 (below_size (hbA_ HB.out))); replace BK456 := (bbA_ BK456 hb); replace HB := (bs_ HB hb); clear hb ho5))
 go_loopg [5, 6] k (fun kq v5 v6 w' => ∃ (x5_1 : List (List Int)) (x6_1 : Int), v6 = .int .i64 x6_1 ∧ Aside0 (laws_heldFor.l0 kq a1 x5_1 x6_1 l0_0 l0_1 = some r) ∧ Aside0 (kq ≤ k) ∧ Aside0 (Kd.N (Kd.slice 5 (Kd.int .u8)) 44 w' w.heap.size (fun k_ => (P0_1_ k_ ∨ w.heap.size ≤ k_) ∧ k_ ≠ gb456) v5 x5_1) ∧ Aside0 (Kd.V k65 65 w' w.heap.size (fun k_ => (P0_1_ k_ ∨ w.heap.size ≤ k_) ∧ some k_ ≠ (v5 : Value).ownBlock ∧ k_ ≠ gb456) (.slice A0_1 l0_1.length c0_1) l0_1) ∧ Aside0 (w'.heap[gb456]? = some (.cells #[(.slice A0_0 l0_0.length c0_0), (.slice A0_1 l0_1.length c0_1)] 32 (0, 0))) ∧ Aside0 (Below w.heap.size w w'))
 case atStart => exact ⟨(y457), (0), (by first | rfl | (simp; done) | (simp [*]; done)), H', ⟨Nat.le_refl _⟩, ⟨by refine kN_ ?_; exact HO459.out⟩, ⟨by refine kV_ ?_; exact Kd.V_mono HO0_1.out (fun _ hk => ⟨hk.1.1, ⟨hk.2, hk.1.2⟩⟩)⟩, ⟨by refine kb_ ?_; exact BK456.out⟩, ⟨hbA_ HB.out⟩⟩
 case round =>
  clear H'; (try clear c2); (try clear p2)
  obtain ⟨x5_1, x6_1, rfl, HA, HK1, HO_5, HO_457001, BK456, HB⟩ := hrel
  cases gk with
  | zero => exact absurd HA.out (by simp [laws_heldFor.l0])
  | succ k1 =>
   have H := HA.out; clear HA
   simp only [laws_heldFor.l0] at H
   by_cases c6 : x6_1 < (l0_1.length : Int)
   ·rw [if_pos c6] at H
    have c6b0 : decide (x6_1 < (l0_1.length : Int)) = true := decide_eq_true c6
    clear c6
    by_cases c7 : 0 ≤ x6_1
    ·rw [if_pos c7] at H
     have c7b0 : decide (0 ≤ x6_1) = true := decide_eq_true c7
     clear c7
     by_cases c8 : ((rd_T65 l0_1 x6_1).f0) = a1
     ·rw [if_pos c8] at H
      have c8b0 : (((rd_T65 l0_1 x6_1).f0) == a1) = true := beq_iff_eq.mpr c8
      have c8b1 : (((rd_T65 l0_1 x6_1).f0) != a1) = false := bne_eq_false_iff_eq.mpr c8
      clear c8
      by_cases c9 : x5_1.length < 5864062014805
      ·rw [if_pos c9] at H
       have LMc9 := Aside0.mk c9; clear c9
       obtain ⟨y462, hy462⟩ : ∃ y_ : List (List Int), y_ = (x5_1 ++ [(rd_T65 l0_1 x6_1).f1]) := ⟨_, rfl⟩
       (first | replace H := sb_ hy462 H | rw [← hy462] at H)
       have Ny462 := Aside0.mk hy462; clear hy462
       have H' := Aside0.mk H
       clear H; have Z10 := zz2 BK456
       have p460 : 0 ≤ (x6_1 : Int) := of_decide_eq_true (by first | (with_reducible assumption) | assumption)
       have q460 : x6_1 < (l0_1.length : Int) := of_decide_eq_true (by first | (with_reducible assumption) | assumption)
       obtain ⟨ad460, A460_1, c460_1, e460, hx460_0, hx460_1, hl460_1, hi460_1⟩ := at_T65 (Kd.V_reads' HO_457001.out).2.2 x6_1 p460 q460
       cases e460
       obtain ⟨ce460, hce460, hMe460, hcc460⟩ := Kd.V_get HO_457001.out z65 x6_1 p460 (by first | exact q460 | exact of_decide_eq_true (by first | (with_reducible assumption) | assumption) | (have e_ := (Kd.V_reads' HO_457001.out).1; omega))
       obtain ⟨ua460_1, uc460_1, rfl, ul460_1, ge460_1⟩ := k65_openF hMe460
       have hv460_1 := hcc460 1 _ rfl
       rw [add_field _ _ 1 (by omega)] at hv460_1
       replace hv460_1 := Option.some.inj (hv460_1.symm.trans hx460_1)
       injection hv460_1 with hva_ hvn_ hvc_
       rw [hva_] at ge460_1
       rw [hvc_] at ul460_1
       have HL460_1 := Aside0.mk (show Kd.V (Kd.int .u8) 5 _ w.heap.size _ _ ((rd_T65 l0_1 x6_1).f1) from Kd.V_mk ul460_1 ge460_1)
       clear hva_ hvn_ hvc_ ge460_1 ul460_1 hcc460 hce460; have HR460_1 := Aside0.mk hi460_1; have HC460_1 := Aside0.mk hl460_1; clear hi460_1 hl460_1
       replace p460 := eq_true p460
       replace q460 := eq_true q460
       have p461 : 0 ≤ (x6_1 : Int) := of_decide_eq_true (by first | (with_reducible assumption) | assumption)
       have q461 : x6_1 < (l0_1.length : Int) := of_decide_eq_true (by first | (with_reducible assumption) | assumption)
       obtain ⟨ad461, A461_1, c461_1, e461, hx461_0, hx461_1, hl461_1, hi461_1⟩ := at_T65 (Kd.V_reads' HO_457001.out).2.2 x6_1 p461 q461
       obtain rfl : ad460 = ad461 := (by injection e461)
       obtain ⟨ce461, hce461, hMe461, hcc461⟩ := Kd.V_get HO_457001.out z65 x6_1 p461 (by first | exact q461 | exact of_decide_eq_true (by first | (with_reducible assumption) | assumption) | (have e_ := (Kd.V_reads' HO_457001.out).1; omega))
       obtain ⟨ua461_1, uc461_1, rfl, ul461_1, ge461_1⟩ := k65_openF hMe461
       have hv461_1 := hcc461 1 _ rfl
       rw [add_field _ _ 1 (by omega)] at hv461_1
       replace hv461_1 := Option.some.inj (hv461_1.symm.trans hx461_1)
       injection hv461_1 with hva_ hvn_ hvc_
       rw [hva_] at ge461_1
       rw [hvc_] at ul461_1
       have HL461_1 := Aside0.mk (show Kd.V (Kd.int .u8) 5 _ w.heap.size _ _ ((rd_T65 l0_1 x6_1).f1) from Kd.V_mk ul461_1 ge461_1)
       clear hva_ hvn_ hvc_ ge461_1 ul461_1 hcc461 hce461; have HR461_1 := Aside0.mk hi461_1; have HC461_1 := Aside0.mk hl461_1; clear hi461_1 hl461_1
       replace p461 := eq_true p461
       replace q461 := eq_true q461
       have ea_ := Option.some.inj (hx460_1.symm.trans hx461_1)
       injection ea_ with ea_ en_ ec_
       subst ea_; subst ec_; clear en_
       go_wp2_with (first | ((with_reducible refine gate_builtin (b := .append) (xs := #[.tmp 23, .tmp 30]) rfl ?_); at_builtin; refine Kd.N_append (Kd.slice 5 (Kd.int .u8)) (w0 := w) w.heap.size rfl (.tmp 23) (.tmp 30) 33 44 (.slice none 0 0) 24 rfl Try.underlying33 info44 rfl (by decide) (by omega) u5 x5_1 ((rd_T65 l0_1 x6_1).f1) [.slice A460_1 ((rd_T65 l0_1 x6_1).f1).length c460_1] (fun k_ => (P0_1_ k_ ∨ w.heap.size ≤ k_) ∧ k_ ≠ gb456) (fun k_ => ((fun k_ => (P0_1_ k_ ∨ w.heap.size ≤ k_) ∧ k_ ≠ gb456)) k_ ∧ some k_ ≠ (u5 : Value).ownBlock) rfl rfl ?aP (fun _ hk => hk) ?aF ?aO ?aB ?aS ?aL ?_; (case aP => exact (Kd.FK_slice_mk (Kd.V_reads' (Kd.V_mono (ok' := (fun k_ => ((fun k_ => (P0_1_ k_ ∨ w.heap.size ≤ k_) ∧ k_ ≠ gb456)) k_ ∧ some k_ ≠ (u5 : Value).ownBlock)) (HL461_1.out) (fun k_ hk => ⟨⟨hk.1, hk.2.2⟩, hk.2.1⟩))).2.1 (Kd.V_F (Kd.V_mono (ok' := (fun k_ => ((fun k_ => (P0_1_ k_ ∨ w.heap.size ≤ k_) ∧ k_ ≠ gb456)) k_ ∧ some k_ ≠ (u5 : Value).ownBlock)) (HL461_1.out) (fun k_ hk => ⟨⟨hk.1, hk.2.2⟩, hk.2.1⟩))))); (case aB => exact (hbA_ HB.out)); (case aF => exact (fun k_ hk => ⟨(.inr (Nat.le_trans (below_size (hbA_ HB.out)) hk)), fb_ BK456 k_ hk⟩)); (case aO => exact (kN_ HO_5.out)); (case aS => exact (below_size (hbA_ HB.out))); (case aL => have := LMc9.out; omega); intro v463 w11 ho hb hg hat; rw [← Ny462.out] at ho; replace HO_457001 := Aside0.mk (Kd.V_afterv (ok := (fun k_ => (P0_1_ k_ ∨ w.heap.size ≤ k_) ∧ k_ ≠ gb456)) (by refine kV_ ?_; exact Kd.V_mono HO_457001.out (fun _ hk => ⟨⟨hk.1, hk.2.2⟩, hk.2.1⟩)) hg hat); replace BK456 := (bgA_ BK456 hg (Kd.N_ne HO_5.out BK456.out (by decide))); replace HL460_1 := Aside0.mk (Kd.V_afterv (ok := (fun k_ => (P0_1_ k_ ∨ w.heap.size ≤ k_) ∧ k_ ≠ gb456)) (by refine kV_ ?_; exact Kd.V_mono HL460_1.out (fun _ hk => ⟨⟨hk.1, hk.2.2⟩, hk.2.1⟩)) hg hat); replace HL461_1 := Aside0.mk (Kd.V_afterv (ok := (fun k_ => (P0_1_ k_ ∨ w.heap.size ≤ k_) ∧ k_ ≠ gb456)) (by refine kV_ ?_; exact Kd.V_mono HL461_1.out (fun _ hk => ⟨⟨hk.1, hk.2.2⟩, hk.2.1⟩)) hg hat); replace HB := Aside0.mk (hb); have HO464 := Aside0.mk (ho); clear HO_5; clear ho hb hg hat))
       go_roundg k1
       case measure => have := HK1.out; omega
       case rel => exact ⟨(y462), (wrap64 (x6_1 + 1)), (by first | rfl | (simp; done) | (simp [*]; done)), H', ⟨by have := HK1.out; omega⟩, ⟨by refine kN_ ?_; exact HO464.out⟩, ⟨by refine kV_ ?_; exact Kd.V_mono HO_457001.out (fun _ hk => ⟨hk.1.1, ⟨hk.2, hk.1.2⟩⟩)⟩, ⟨by refine kb_ ?_; exact BK456.out⟩, ⟨hbA_ HB.out⟩⟩
      ·rw [if_neg c9] at H
       exact absurd H (by simp)
     ·rw [if_neg c8] at H
      have c8b0 : (((rd_T65 l0_1 x6_1).f0) == a1) = false := beq_eq_false_iff_ne.mpr c8
      have c8b1 : (((rd_T65 l0_1 x6_1).f0) != a1) = true := bne_iff_ne.mpr c8
      have H' := Aside0.mk H
      clear H; have Z12 := zz2 BK456
      have p460 : 0 ≤ (x6_1 : Int) := of_decide_eq_true (by first | (with_reducible assumption) | assumption)
      have q460 : x6_1 < (l0_1.length : Int) := of_decide_eq_true (by first | (with_reducible assumption) | assumption)
      obtain ⟨ad460, A460_1, c460_1, e460, hx460_0, hx460_1, hl460_1, hi460_1⟩ := at_T65 (Kd.V_reads' HO_457001.out).2.2 x6_1 p460 q460
      cases e460
      obtain ⟨ce460, hce460, hMe460, hcc460⟩ := Kd.V_get HO_457001.out z65 x6_1 p460 (by first | exact q460 | exact of_decide_eq_true (by first | (with_reducible assumption) | assumption) | (have e_ := (Kd.V_reads' HO_457001.out).1; omega))
      obtain ⟨ua460_1, uc460_1, rfl, ul460_1, ge460_1⟩ := k65_openF hMe460
      have hv460_1 := hcc460 1 _ rfl
      rw [add_field _ _ 1 (by omega)] at hv460_1
      replace hv460_1 := Option.some.inj (hv460_1.symm.trans hx460_1)
      injection hv460_1 with hva_ hvn_ hvc_
      rw [hva_] at ge460_1
      rw [hvc_] at ul460_1
      have HL460_1 := Aside0.mk (show Kd.V (Kd.int .u8) 5 _ w.heap.size _ _ ((rd_T65 l0_1 x6_1).f1) from Kd.V_mk ul460_1 ge460_1)
      clear hva_ hvn_ hvc_ ge460_1 ul460_1 hcc460 hce460; have HR460_1 := Aside0.mk hi460_1; have HC460_1 := Aside0.mk hl460_1; clear hi460_1 hl460_1
      replace p460 := eq_true p460
      replace q460 := eq_true q460
      go_wp2
      go_roundg k1
      case measure => have := HK1.out; omega
      case rel => exact ⟨(x5_1), (wrap64 (x6_1 + 1)), (by first | rfl | (simp; done) | (simp [*]; done)), H', ⟨by have := HK1.out; omega⟩, ⟨by refine kN_ ?_; exact HO_5.out⟩, ⟨by refine kV_ ?_; exact HO_457001.out⟩, ⟨by refine kb_ ?_; exact BK456.out⟩, ⟨hbA_ HB.out⟩⟩
    ·rw [if_neg c7] at H
     exact absurd H (by simp)
   ·rw [if_neg c6] at H
    have c6b0 : decide (x6_1 < (l0_1.length : Int)) = false := decide_eq_false c6
    clear c6
    obtain rfl := Option.some.inj H
    have Z13 := zz2 BK456
    go_wp2
    go_ret
    exact ⟨_, by first | rfl | (simp [errW_none, errW_some] <;> rfl) | (simp [*, errW_none, errW_some] <;> rfl), by refine kN_ ?_; exact Kd.N_mono HO_5.out (fun _ hk => hk.1), hbA_ HB.out⟩
def impl_Near_find.f (l0_0 : List (S63)) (l0_1 : List (S65)) (a1 : Int) (a2 : Int) : Option (Int) := (impl_Near_at.f l0_0 l0_1 a1).bind fun t466 => (if t466 ≥ 0 then (if 0 ≤ t466 then (if t466 < (l0_0.length : Int) then (if ((rd_T63 l0_0 t466).f2) > a2 then (some ((rd_T63 l0_0 t466).f1)) else (some (-1))) else (none)) else (none)) else (some (-1)))
set_option maxHeartbeats 8000000 in
set_option maxRecDepth 100000 in
theorem impl_Near_find.calls (A0_0 : Option Addr) (c0_0 : Nat) (l0_0 : List (S63)) (A0_1 : Option Addr) (c0_1 : Nat) (l0_1 : List (S65)) (a1 : Int) (a2 : Int) (r : Int) (w : World) (hr0_0 : Kd.C k63 w A0_0 l0_0.length l0_0) (hc0_0 : l0_0.length ≤ c0_0) (hr0_1 : Kd.C k65 w A0_1 l0_1.length l0_1) (hc0_1 : l0_1.length ≤ c0_1) (h : impl_Near_find.f l0_0 l0_1 a1 a2 = some r) :
  Calls Try.prog 64 #[.agg #[.slice A0_0 l0_0.length c0_0, .slice A0_1 l0_1.length c0_1], .int .i64 a1, .int .i64 a2] w fun e w' => e = .returned (.int .i64 r) ∧ Below w.heap.size w w' := by
 have hu32 := Try.underlying32; have HR0_0 := Aside0.mk hr0_0; have HC0_0 := Aside0.mk hc0_0; clear hr0_0 hc0_0; have HR0_1 := Aside0.mk hr0_1; have HC0_1 := Aside0.mk hc0_1; clear hr0_1 hc0_1
 have HB := Aside0.mk (Below.refl w.heap.size w)
 have H : ((impl_Near_at.f l0_0 l0_1 a1).bind fun t466 => (if t466 ≥ 0 then (if 0 ≤ t466 then (if t466 < (l0_0.length : Int) then (if ((rd_T63 l0_0 t466).f2) > a2 then (some ((rd_T63 l0_0 t466).f1)) else (some (-1))) else (none)) else (none)) else (some (-1)))) = some r := h
 clear h
 replace H := Option.bind_eq_some_iff.mp H
 obtain ⟨t466, A40, H⟩ := H
 (try dsimp only at H)
 have A4 := Aside0.mk A40; clear A40
 by_cases c5 : t466 ≥ 0
 ·rw [if_pos c5] at H
  have c5b0 : decide (0 ≤ t466) = true := decide_eq_true c5
  clear c5
  by_cases c6 : 0 ≤ t466
  ·rw [if_pos c6] at H
   have c6b0 : decide (0 ≤ t466) = true := decide_eq_true c6
   clear c6
   by_cases c7 : t466 < (l0_0.length : Int)
   ·rw [if_pos c7] at H
    have c7b0 : decide (t466 < (l0_0.length : Int)) = true := decide_eq_true c7
    clear c7
    by_cases c8 : ((rd_T63 l0_0 t466).f2) > a2
    ·rw [if_pos c8] at H
     have c8b0 : decide (a2 < ((rd_T63 l0_0 t466).f2)) = true := decide_eq_true c8
     clear c8
     obtain rfl := Option.some.inj H
     go_enter Try.func64, Try.ntmps64
     go_wp2_with (first | ((with_reducible refine gate_dst (N := 3) rfl ?_); refine box_ (N := 3) (cs := #[.slice A0_0 l0_0.length c0_0, .slice A0_1 l0_1.length c0_1]) (t := 32) (fun gb465 hg w9 hbox hb => ?_); have BK465 := Aside0.mk (hbox); have GW465 := ge_ hg HB; have GE465 := ge_ hg HB; replace HB := (bs_ HB hb); clear hb hbox hg; have Z10 := zz2 BK465) | ((with_reducible refine gate_callee (f := 39) rfl ?_); refine goesL_ (some 10) rfl rfl Try.func39 (by kernel_rfl) rfl #[.agg #[.slice A0_0 l0_0.length c0_0, .slice A0_1 l0_1.length c0_1], .int .i64 a1] rfl ar_ ?_; (with_reducible refine (impl_Near_at.calls _ _ l0_0 _ _ l0_1 a1 t466 _ ?side1 ?side2 ?side3 ?side4 A4.out).mono ?_); (case side1 => exact kC_ (Kd.C_below HR0_0.out HB.out)); (case side2 => exact HC0_0.out); (case side3 => exact kC_ (Kd.C_below HR0_1.out HB.out)); (case side4 => exact HC0_1.out); rintro e w11 ⟨rfl, hb⟩; refine ⟨_, rfl, ?_⟩; replace BK465 := (bbA_ BK465 hb); replace HB := (bs_ HB hb); (try clear hb); (try clear hb2); (try clear hk); (try clear hi); have Z12 := zz2 BK465; have p467 : 0 ≤ (t466 : Int) := of_decide_eq_true (by first | (with_reducible assumption) | assumption); have q467 : t466 < (l0_0.length : Int) := of_decide_eq_true (by first | (with_reducible assumption) | assumption); obtain ⟨ad467, e467, hx467_0, hx467_1, hx467_2⟩ := at_T63 HR0_0.out t466 p467 q467; cases e467; replace hx467_0 := cc_ HB hx467_0; replace hx467_1 := cc_ HB hx467_1; replace hx467_2 := cc_ HB hx467_2; replace p467 := eq_true p467; replace q467 := eq_true q467; have p468 : 0 ≤ (t466 : Int) := of_decide_eq_true (by first | (with_reducible assumption) | assumption); have q468 : t466 < (l0_0.length : Int) := of_decide_eq_true (by first | (with_reducible assumption) | assumption); obtain ⟨ad468, e468, hx468_0, hx468_1, hx468_2⟩ := at_T63 HR0_0.out t466 p468 q468; obtain rfl : ad467 = ad468 := (by injection e468); replace hx468_0 := cc_ HB hx468_0; replace hx468_1 := cc_ HB hx468_1; replace hx468_2 := cc_ HB hx468_2; replace p468 := eq_true p468; replace q468 := eq_true q468))
     go_ret
     exact ⟨by first | rfl | (simp [errW_none, errW_some] <;> rfl) | (simp [*, errW_none, errW_some] <;> rfl), hbA_ HB.out⟩
    ·rw [if_neg c8] at H
     have c8b0 : decide (a2 < ((rd_T63 l0_0 t466).f2)) = false := decide_eq_false c8
     clear c8
     obtain rfl := Option.some.inj H
     go_enter Try.func64, Try.ntmps64
     go_wp2_with (first | ((with_reducible refine gate_dst (N := 3) rfl ?_); refine box_ (N := 3) (cs := #[.slice A0_0 l0_0.length c0_0, .slice A0_1 l0_1.length c0_1]) (t := 32) (fun gb465 hg w13 hbox hb => ?_); have BK465 := Aside0.mk (hbox); have GW465 := ge_ hg HB; have GE465 := ge_ hg HB; replace HB := (bs_ HB hb); clear hb hbox hg; have Z14 := zz2 BK465) | ((with_reducible refine gate_callee (f := 39) rfl ?_); refine goesL_ (some 10) rfl rfl Try.func39 (by kernel_rfl) rfl #[.agg #[.slice A0_0 l0_0.length c0_0, .slice A0_1 l0_1.length c0_1], .int .i64 a1] rfl ar_ ?_; (with_reducible refine (impl_Near_at.calls _ _ l0_0 _ _ l0_1 a1 t466 _ ?side1 ?side2 ?side3 ?side4 A4.out).mono ?_); (case side1 => exact kC_ (Kd.C_below HR0_0.out HB.out)); (case side2 => exact HC0_0.out); (case side3 => exact kC_ (Kd.C_below HR0_1.out HB.out)); (case side4 => exact HC0_1.out); rintro e w15 ⟨rfl, hb⟩; refine ⟨_, rfl, ?_⟩; replace BK465 := (bbA_ BK465 hb); replace HB := (bs_ HB hb); (try clear hb); (try clear hb2); (try clear hk); (try clear hi); have Z16 := zz2 BK465; have p467 : 0 ≤ (t466 : Int) := of_decide_eq_true (by first | (with_reducible assumption) | assumption); have q467 : t466 < (l0_0.length : Int) := of_decide_eq_true (by first | (with_reducible assumption) | assumption); obtain ⟨ad467, e467, hx467_0, hx467_1, hx467_2⟩ := at_T63 HR0_0.out t466 p467 q467; cases e467; replace hx467_0 := cc_ HB hx467_0; replace hx467_1 := cc_ HB hx467_1; replace hx467_2 := cc_ HB hx467_2; replace p467 := eq_true p467; replace q467 := eq_true q467))
     go_ret
     exact ⟨by first | rfl | (simp [errW_none, errW_some] <;> rfl) | (simp [*, errW_none, errW_some] <;> rfl), hbA_ HB.out⟩
   ·rw [if_neg c7] at H
    exact absurd H (by simp)
  ·rw [if_neg c6] at H
   exact absurd H (by simp)
 ·rw [if_neg c5] at H
  have c5b0 : decide (0 ≤ t466) = false := decide_eq_false c5
  clear c5
  obtain rfl := Option.some.inj H
  go_enter Try.func64, Try.ntmps64
  go_wp2_with (first | ((with_reducible refine gate_dst (N := 3) rfl ?_); refine box_ (N := 3) (cs := #[.slice A0_0 l0_0.length c0_0, .slice A0_1 l0_1.length c0_1]) (t := 32) (fun gb465 hg w17 hbox hb => ?_); have BK465 := Aside0.mk (hbox); have GW465 := ge_ hg HB; have GE465 := ge_ hg HB; replace HB := (bs_ HB hb); clear hb hbox hg; have Z18 := zz2 BK465) | ((with_reducible refine gate_callee (f := 39) rfl ?_); refine goesL_ (some 10) rfl rfl Try.func39 (by kernel_rfl) rfl #[.agg #[.slice A0_0 l0_0.length c0_0, .slice A0_1 l0_1.length c0_1], .int .i64 a1] rfl ar_ ?_; (with_reducible refine (impl_Near_at.calls _ _ l0_0 _ _ l0_1 a1 t466 _ ?side1 ?side2 ?side3 ?side4 A4.out).mono ?_); (case side1 => exact kC_ (Kd.C_below HR0_0.out HB.out)); (case side2 => exact HC0_0.out); (case side3 => exact kC_ (Kd.C_below HR0_1.out HB.out)); (case side4 => exact HC0_1.out); rintro e w19 ⟨rfl, hb⟩; refine ⟨_, rfl, ?_⟩; replace BK465 := (bbA_ BK465 hb); replace HB := (bs_ HB hb); (try clear hb); (try clear hb2); (try clear hk); (try clear hi)))
  go_ret
  exact ⟨by first | rfl | (simp [errW_none, errW_some] <;> rfl) | (simp [*, errW_none, errW_some] <;> rfl), hbA_ HB.out⟩
end Go.Proofs.Ytdoohdbfpnmndaa.PFnNearHear
