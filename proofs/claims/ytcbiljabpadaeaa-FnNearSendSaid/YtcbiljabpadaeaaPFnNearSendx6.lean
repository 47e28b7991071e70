/- Printed by wip/xp/xprint.sh out of the translation, for this claim: what each function answers, as a plain function, and that the machine does just that. No condition. -/
import Derived.Test.YtcbiljabpadaeaaPFnNearSendx0
import Derived.Test.YtcbiljabpadaeaaPFnNearSendx5
namespace Go.Proofs.Ytcbiljabpadaeaa.PFnNearSend
open Go.RowKit Go.Proofs.YtcbiljabpadaeaaW.PrintWords Go.Proofs.YtcbiljabpadaeaaW.PrintLast Go.Proofs.YtcbiljabpadaeaaW.PrintMore
attribute [local go_sem] max2_int min2_int max_two min_two max_three min_three max_four min_four   -- for this text's walks alone
set_option linter.unusedVariables false
set_option linter.unusedSimpArgs false
def impl_NearHeld_55.l0 : Nat → List (S36) → Int → Int → Option (Int)
 | 0, _, _, _ => none
 | k + 1, x0, x7, x8 => if x8 < x7 then (if 0 ≤ x8 then (if x8 < (x0.length : Int) then ((impl_NearOk_1.f ((rd_T36 x0 x8).f0) ((rd_T36 x0 x8).f1)).bind fun t352 => (if t352 = true then (some x8) else (impl_NearHeld_55.l0 k x0 x7 (wrap64 (x8 + 1))))) else (none)) else (none)) else (some (-1))
def impl_NearHeld_55.f (k : Nat) (l0 : List (S36)) : Option (Int) := impl_NearHeld_55.l0 k l0 (l0.length : Int) 0
theorem impl_NearHeld_55.mono_l : ∀ k, (∀ y0 y1 y2, LeO (impl_NearHeld_55.l0 k y0 y1 y2) (impl_NearHeld_55.l0 (k + 1) y0 y1 y2))
 | 0 => fun _ _ _ r h => by simp [impl_NearHeld_55.l0] at h
 | k + 1 => by
  have ih0 := impl_NearHeld_55.mono_l k
  ·intro y0 y1 y2
   unfold impl_NearHeld_55.l0
   repeat' first | (with_reducible first | apply ih0 | exact LeO.refl _ | exact LeO.none _ | refine LeO.ite ?_ ?_ | refine LeO.bind ?_ fun _ => ?_) | apply ih0 | exact LeO.none _ | refine LeO.ite ?_ ?_ | refine LeO.bind ?_ fun _ => ?_
theorem impl_NearHeld_55.mono : ∀ a0 k, LeO (impl_NearHeld_55.f k a0) (impl_NearHeld_55.f (k + 1) a0) := by
 intro a0 k
 have ih0 := impl_NearHeld_55.mono_l k
 unfold impl_NearHeld_55.f
 repeat' first | (with_reducible first | apply ih0 | exact LeO.refl _ | exact LeO.none _ | refine LeO.ite ?_ ?_ | refine LeO.bind ?_ fun _ => ?_) | apply ih0 | exact LeO.none _ | refine LeO.ite ?_ ?_ | refine LeO.bind ?_ fun _ => ?_
set_option maxHeartbeats 8000000 in
set_option maxRecDepth 100000 in
theorem impl_NearHeld_55.calls (k : Nat) (A0 : Option Addr) (c0 : Nat) (l0 : List (S36)) (r : Int) (w : World) (hr0 : Kd.C k36 w A0 l0.length l0) (hc0 : l0.length ≤ c0) (h : impl_NearHeld_55.f k l0 = some r) :
  Calls Try.prog 55 #[.slice A0 l0.length c0, .func (.func 35) #[] #[]] w fun e w' => e = .returned (.int .i64 r) ∧ Below w.heap.size w w' := by
 have hu36 := Try.underlying36; have HR0 := Aside0.mk hr0; have HC0 := Aside0.mk hc0; clear hr0 hc0
 have HB := Aside0.mk (Below.refl w.heap.size w)
 have H : (impl_NearHeld_55.l0 k l0 (l0.length : Int) 0) = some r := h
 clear h
 have H' := Aside0.mk H
 clear H
 go_enter Try.func55, Try.ntmps55
 go_wp2
 go_loopg [8] k (fun kq v8 w' => ∃ (x8_1 : Int), v8 = .int .i64 x8_1 ∧ Aside0 (impl_NearHeld_55.l0 kq l0 (l0.length : Int) x8_1 = some r) ∧ Aside0 (kq ≤ k) ∧ Aside0 (Below w.heap.size w w'))
 case atStart => exact ⟨(0), (by first | rfl | (simp; done) | (simp [*]; done)), H', ⟨Nat.le_refl _⟩, ⟨hbA_ HB.out⟩⟩
 case round =>
  clear H'
  obtain ⟨x8_1, rfl, HA, HK1, HB⟩ := hrel
  cases gk with
  | zero => exact absurd HA.out (by simp [impl_NearHeld_55.l0])
  | succ k1 =>
   have H := HA.out; clear HA
   simp only [impl_NearHeld_55.l0] at H
   by_cases c2 : x8_1 < (l0.length : Int)
   ·rw [if_pos c2] at H
    have c2b0 : decide (x8_1 < (l0.length : Int)) = true := decide_eq_true c2
    clear c2
    by_cases c3 : 0 ≤ x8_1
    ·rw [if_pos c3] at H
     have c3b0 : decide (0 ≤ x8_1) = true := decide_eq_true c3
     clear c3
     by_cases c4 : x8_1 < (l0.length : Int)
     ·rw [if_pos c4] at H
      have c4b0 : decide (x8_1 < (l0.length : Int)) = true := decide_eq_true c4
      clear c4
      replace H := Option.bind_eq_some_iff.mp H
      obtain ⟨t352, A50, H⟩ := H
      (try dsimp only at H)
      have A5 := Aside0.mk A50; clear A50
      by_cases c6 : t352 = true
      ·subst c6
       rw [if_pos rfl] at H
       obtain rfl := Option.some.inj H
       have p351 : 0 ≤ (x8_1 : Int) := of_decide_eq_true (by first | (with_reducible assumption) | assumption)
       have q351 : x8_1 < (l0.length : Int) := of_decide_eq_true (by first | (with_reducible assumption) | assumption)
       obtain ⟨ad351, A351_1, c351_1, e351, hx351_0, hx351_1, hl351_1, hi351_1⟩ := at_T36 HR0.out x8_1 p351 q351
       cases e351
       replace hx351_0 := cc_ HB hx351_0
       replace hx351_1 := cc_ HB hx351_1
       have HR351_1 := Aside0.mk hi351_1; have HC351_1 := Aside0.mk hl351_1; clear hi351_1 hl351_1
       replace p351 := eq_true p351
       replace q351 := eq_true q351
       go_wp2_with (first | ((with_reducible refine gateT_ (u := 11) rfl ?_); refine goesT_ (u := 11) (some 16) rfl rfl Try.func35 (by kernel_rfl) rfl #[.agg #[.int .i64 ((rd_T36 l0 x8_1).f0), .slice A351_1 ((rd_T36 l0 x8_1).f1).length c351_1]] rfl rfl ar_ ?_; (with_reducible refine (impl_NearOk_1.calls ((rd_T36 l0 x8_1).f0) _ _ ((rd_T36 l0 x8_1).f1) true _ ?side1 ?side2 A5.out).mono ?_); (case side1 => exact kC_ (Kd.C_below HR351_1.out HB.out)); (case side2 => exact HC351_1.out); rintro e w7 ⟨rfl, hb⟩; refine ⟨_, rfl, ?_⟩; replace HB := (bs_ HB hb); (try clear hb); (try clear hb2); (try clear hk); (try clear hi)))
       go_ret
       exact ⟨by first | rfl | (simp [errW_none, errW_some] <;> rfl) | (simp [*, errW_none, errW_some] <;> rfl), hbA_ HB.out⟩
      ·replace c6 := Bool.eq_false_iff.mpr c6
       subst c6
       rw [if_neg (show ¬ (false = true) by decide)] at H
       have H' := Aside0.mk H
       clear H
       have p351 : 0 ≤ (x8_1 : Int) := of_decide_eq_true (by first | (with_reducible assumption) | assumption)
       have q351 : x8_1 < (l0.length : Int) := of_decide_eq_true (by first | (with_reducible assumption) | assumption)
       obtain ⟨ad351, A351_1, c351_1, e351, hx351_0, hx351_1, hl351_1, hi351_1⟩ := at_T36 HR0.out x8_1 p351 q351
       cases e351
       replace hx351_0 := cc_ HB hx351_0
       replace hx351_1 := cc_ HB hx351_1
       have HR351_1 := Aside0.mk hi351_1; have HC351_1 := Aside0.mk hl351_1; clear hi351_1 hl351_1
       replace p351 := eq_true p351
       replace q351 := eq_true q351
       go_wp2_with (first | ((with_reducible refine gateT_ (u := 11) rfl ?_); refine goesT_ (u := 11) (some 16) rfl rfl Try.func35 (by kernel_rfl) rfl #[.agg #[.int .i64 ((rd_T36 l0 x8_1).f0), .slice A351_1 ((rd_T36 l0 x8_1).f1).length c351_1]] rfl rfl ar_ ?_; (with_reducible refine (impl_NearOk_1.calls ((rd_T36 l0 x8_1).f0) _ _ ((rd_T36 l0 x8_1).f1) false _ ?side1 ?side2 A5.out).mono ?_); (case side1 => exact kC_ (Kd.C_below HR351_1.out HB.out)); (case side2 => exact HC351_1.out); rintro e w8 ⟨rfl, hb⟩; refine ⟨_, rfl, ?_⟩; replace HB := (bs_ HB hb); (try clear hb); (try clear hb2); (try clear hk); (try clear hi)))
       go_roundg k1
       case measure => have := HK1.out; omega
       case rel => exact ⟨(wrap64 (x8_1 + 1)), (by first | rfl | (simp; done) | (simp [*]; done)), H', ⟨by have := HK1.out; omega⟩, ⟨hbA_ HB.out⟩⟩
     ·rw [if_neg c4] at H
      exact absurd H (by simp)
    ·rw [if_neg c3] at H
     exact absurd H (by simp)
   ·rw [if_neg c2] at H
    have c2b0 : decide (x8_1 < (l0.length : Int)) = false := decide_eq_false c2
    clear c2
    obtain rfl := Option.some.inj H
    go_wp2
    go_ret
    exact ⟨by first | rfl | (simp [errW_none, errW_some] <;> rfl) | (simp [*, errW_none, errW_some] <;> rfl), hbA_ HB.out⟩
def impl_NearHeld_34.f (k : Nat) (l0 : List (S36)) : Option (Bool) := (impl_NearHeld_55.f k l0).bind fun t353 => (some (decide (t353 ≥ 0)))
theorem impl_NearHeld_34.mono : ∀ a0 k, LeO (impl_NearHeld_34.f k a0) (impl_NearHeld_34.f (k + 1) a0) := by
 intro a0 k
 unfold impl_NearHeld_34.f
 repeat' first | (with_reducible first | apply impl_NearHeld_55.mono | exact LeO.refl _ | exact LeO.none _ | refine LeO.ite ?_ ?_ | refine LeO.bind ?_ fun _ => ?_) | apply impl_NearHeld_55.mono | exact LeO.none _ | refine LeO.ite ?_ ?_ | refine LeO.bind ?_ fun _ => ?_
set_option maxHeartbeats 8000000 in
set_option maxRecDepth 100000 in
theorem impl_NearHeld_34.calls (k : Nat) (A0 : Option Addr) (c0 : Nat) (l0 : List (S36)) (r : Bool) (w : World) (hr0 : Kd.C k36 w A0 l0.length l0) (hc0 : l0.length ≤ c0) (h : impl_NearHeld_34.f k l0 = some r) :
  Calls Try.prog 34 #[.slice A0 l0.length c0, .func (.func 35) #[] #[]] w fun e w' => e = .returned (.bool r) ∧ Below w.heap.size w w' := by
 have HR0 := Aside0.mk hr0; have HC0 := Aside0.mk hc0; clear hr0 hc0
 have HB := Aside0.mk (Below.refl w.heap.size w)
 have H : ((impl_NearHeld_55.f k l0).bind fun t353 => (some (decide (t353 ≥ 0)))) = some r := h
 clear h
 replace H := Option.bind_eq_some_iff.mp H
 obtain ⟨t353, A20, H⟩ := H
 (try dsimp only at H)
 have A2 := Aside0.mk A20; clear A20
 obtain rfl := Option.some.inj H
 go_enter Try.func34, Try.ntmps34
 go_wp2_with (first | ((with_reducible refine gate_callee (f := 55) rfl ?_); refine goesL_ (some 7) rfl rfl Try.func55 (by kernel_rfl) rfl #[.slice A0 l0.length c0, .func (.func 35) #[] #[]] rfl ar_ ?_; (with_reducible refine (impl_NearHeld_55.calls k _ _ l0 t353 _ ?side1 ?side2 A2.out).mono ?_); (case side1 => exact kC_ HR0.out); (case side2 => exact HC0.out); rintro e w3 ⟨rfl, hb⟩; refine ⟨_, rfl, ?_⟩; replace HB := (bs_ HB hb); (try clear hb); (try clear hb2); (try clear hk); (try clear hi)))
 go_ret
 exact ⟨by first | rfl | (simp [errW_none, errW_some] <;> rfl) | (simp [*, errW_none, errW_some] <;> rfl), hbA_ HB.out⟩
mutual
def impl_NearOk.l0 : Nat → List (S60) → Int → Int → List (S60) → List (S36) → Option (Bool)
 | 0, _, _, _, _, _ => none
 | k + 1, x6, x7, x8, x355000, x355001 => if x8 < x7 then (if 0 ≤ x8 then (if x8 < (x6.length : Int) then ((impl_word.f ((rd_T60 x6 x8).f0)).bind fun t358 => (if t358 = true then ((impl_in.f ((rd_T60 x6 x8).f1) 0 254).bind fun t359 => (if t359 = true then ((impl_in.f ((rd_T60 x6 x8).f2) 0 1000000).bind fun t360 => (if t360 = true then ((impl_Near_at.f x355000 x355001 ((rd_T60 x6 x8).f0)).bind fun t361 => (impl_NearOk.j1 k x6 x7 x8 (decide (t361 < x8)) x355000 x355001)) else (impl_NearOk.j1 k x6 x7 x8 true x355000 x355001))) else (impl_NearOk.j1 k x6 x7 x8 true x355000 x355001))) else (impl_NearOk.j1 k x6 x7 x8 true x355000 x355001))) else (none)) else (none)) else (if (x355000.length : Int) ≤ 4 then (if (x355001.length : Int) ≤ 4 then ((impl_NearHeld_34.f k x355001).bind fun t355 => (some (!t355))) else (some false)) else (some false))
def impl_NearOk.j1 : Nat → List (S60) → Int → Int → Bool → List (S60) → List (S36) → Option (Bool)
 | 0, _, _, _, _, _, _ => none
 | k + 1, x6, x7, x8, x36, x355000, x355001 => if x36 = true then (some false) else (impl_NearOk.l0 k x6 x7 (wrap64 (x8 + 1)) x355000 x355001)
end
def impl_NearOk.f (k : Nat) (l0_0 : List (S60)) (l0_1 : List (S36)) : Option (Bool) := impl_NearOk.l0 k l0_0 (l0_0.length : Int) 0 l0_0 l0_1
theorem impl_NearOk.mono_l : ∀ k, (∀ y0 y1 y2 y3 y4, LeO (impl_NearOk.l0 k y0 y1 y2 y3 y4) (impl_NearOk.l0 (k + 1) y0 y1 y2 y3 y4)) ∧ (∀ y0 y1 y2 y3 y4 y5, LeO (impl_NearOk.j1 k y0 y1 y2 y3 y4 y5) (impl_NearOk.j1 (k + 1) y0 y1 y2 y3 y4 y5))
 | 0 => ⟨fun _ _ _ _ _ r h => by simp [impl_NearOk.l0] at h, fun _ _ _ _ _ _ r h => by simp [impl_NearOk.j1] at h⟩
 | k + 1 => by
  obtain ⟨ih0, ih1⟩ := impl_NearOk.mono_l k
  refine ⟨?_, ?_⟩
  ·intro y0 y1 y2 y3 y4
   unfold impl_NearOk.l0
   repeat' first | (with_reducible first | apply ih0 | apply ih1 | apply impl_NearHeld_34.mono | exact LeO.refl _ | exact LeO.none _ | refine LeO.ite ?_ ?_ | refine LeO.bind ?_ fun _ => ?_) | apply ih0 | apply ih1 | apply impl_NearHeld_34.mono | exact LeO.none _ | refine LeO.ite ?_ ?_ | refine LeO.bind ?_ fun _ => ?_
  ·intro y0 y1 y2 y3 y4 y5
   unfold impl_NearOk.j1
   repeat' first | (with_reducible first | apply ih0 | apply ih1 | apply impl_NearHeld_34.mono | exact LeO.refl _ | exact LeO.none _ | refine LeO.ite ?_ ?_ | refine LeO.bind ?_ fun _ => ?_) | apply ih0 | apply ih1 | apply impl_NearHeld_34.mono | exact LeO.none _ | refine LeO.ite ?_ ?_ | refine LeO.bind ?_ fun _ => ?_
theorem impl_NearOk.mono : ∀ a0 a1 k, LeO (impl_NearOk.f k a0 a1) (impl_NearOk.f (k + 1) a0 a1) := by
 intro a0 a1 k
 obtain ⟨ih0, ih1⟩ := impl_NearOk.mono_l k
 unfold impl_NearOk.f
 repeat' first | (with_reducible first | apply ih0 | apply ih1 | apply impl_NearHeld_34.mono | exact LeO.refl _ | exact LeO.none _ | refine LeO.ite ?_ ?_ | refine LeO.bind ?_ fun _ => ?_) | apply ih0 | apply ih1 | apply impl_NearHeld_34.mono | exact LeO.none _ | refine LeO.ite ?_ ?_ | refine LeO.bind ?_ fun _ => ?_
set_option maxHeartbeats 8000000 in
set_option maxRecDepth 100000 in
theorem impl_NearOk.calls (k : Nat) (A0_0 : Option Addr) (c0_0 : Nat) (l0_0 : List (S60)) (A0_1 : Option Addr) (c0_1 : Nat) (l0_1 : List (S36)) (r : Bool) (w : World) (hr0_0 : Kd.C k60 w A0_0 l0_0.length l0_0) (hc0_0 : l0_0.length ≤ c0_0) (hr0_1 : Kd.C k36 w A0_1 l0_1.length l0_1) (hc0_1 : l0_1.length ≤ c0_1) (h : impl_NearOk.f k l0_0 l0_1 = some r) :
  Calls Try.prog 9 #[.agg #[.slice A0_0 l0_0.length c0_0, .slice A0_1 l0_1.length c0_1]] w fun e w' => e = .returned (.bool r) ∧ Below w.heap.size w w' := by
 have hu26 := Try.underlying26; have hu60 := Try.underlying60; have HR0_0 := Aside0.mk hr0_0; have HC0_0 := Aside0.mk hc0_0; clear hr0_0 hc0_0; have HR0_1 := Aside0.mk hr0_1; have HC0_1 := Aside0.mk hc0_1; clear hr0_1 hc0_1
 have HB := Aside0.mk (Below.refl w.heap.size w)
 have H : (impl_NearOk.l0 k l0_0 (l0_0.length : Int) 0 l0_0 l0_1) = some r := h
 clear h
 have H' := Aside0.mk H
 clear H
 go_enter Try.func9, Try.ntmps9
 go_wp2_with (first | ((with_reducible refine gate_dst (N := 1) rfl ?_); (try (refine gate_guard (by rfl) ?_; dsimp only)); refine box_ (N := 1) (cs := #[.slice A0_0 l0_0.length c0_0, .slice A0_1 l0_1.length c0_1]) (t := 26) (fun gb354 hg w2 hbox hb => ?_); have BK354 := Aside0.mk (hbox); have GW354 := ge_ hg HB; have GE354 := ge_ hg HB; replace HB := (bs_ HB hb); clear hb hbox hg; have Z3 := zz2 BK354))
 go_loopg [8] k (fun kq v8 w' => ∃ (x8_1 : Int), v8 = .int .i64 x8_1 ∧ Aside0 (impl_NearOk.l0 kq l0_0 (l0_0.length : Int) x8_1 l0_0 l0_1 = some r) ∧ Aside0 (kq ≤ k) ∧ Aside0 (w'.heap[gb354]? = some (.cells #[(.slice A0_0 l0_0.length c0_0), (.slice A0_1 l0_1.length c0_1)] 26 (0, 0))) ∧ Aside0 (Below w.heap.size w w'))
 case atStart => exact ⟨(0), (by first | rfl | (simp; done) | (simp [*]; done)), H', ⟨Nat.le_refl _⟩, ⟨by refine kb_ ?_; exact BK354.out⟩, ⟨hbA_ HB.out⟩⟩
 case round =>
  clear H'; (try clear p2); (try clear Z3)
  obtain ⟨x8_1, rfl, HA, HK1, BK354, HB⟩ := hrel
  cases gk with
  | zero => exact absurd HA.out (by simp [impl_NearOk.l0])
  | succ k1 =>
   have H := HA.out; clear HA
   simp only [impl_NearOk.l0] at H
   by_cases c4 : x8_1 < (l0_0.length : Int)
   ·rw [if_pos c4] at H
    have c4b0 : decide (x8_1 < (l0_0.length : Int)) = true := decide_eq_true c4
    clear c4
    by_cases c5 : 0 ≤ x8_1
    ·rw [if_pos c5] at H
     have c5b0 : decide (0 ≤ x8_1) = true := decide_eq_true c5
     clear c5
     by_cases c6 : x8_1 < (l0_0.length : Int)
     ·rw [if_pos c6] at H
      have c6b0 : decide (x8_1 < (l0_0.length : Int)) = true := decide_eq_true c6
      clear c6; have HC7 := Aside0.mk H; clear H
      have p356 : 0 ≤ (x8_1 : Int) := of_decide_eq_true (by first | (with_reducible assumption) | assumption)
      have q356 : x8_1 < (l0_0.length : Int) := of_decide_eq_true (by first | (with_reducible assumption) | assumption)
      obtain ⟨ad356, e356, hx356_0, hx356_1, hx356_2⟩ := at_T60 HR0_0.out x8_1 p356 q356
      cases e356
      replace hx356_0 := cc_ HB hx356_0
      replace hx356_1 := cc_ HB hx356_1
      replace hx356_2 := cc_ HB hx356_2
      replace p356 := eq_true p356
      replace q356 := eq_true q356
      go_upto_region 4 with (first | ((with_reducible refine gate_dst (N := 4) rfl ?_); (try (refine gate_guard (by rfl) ?_; dsimp only)); refine box_ (N := 4) (cs := #[.int .i64 0, .int .i64 0, .int .i64 0]) (t := 60) (fun gb357 hg w8 hbox hb => ?_); have BK357 := Aside0.mk (hbox); have GW357 := ge_ hg HB; have GE357 := ge_ hg HB; replace HB := (bs_ HB hb); have NB354_357 := nl_ hg BK354; have NB357_354 := ng_ hg BK354; replace BK354 := (bbA_ BK354 hb); clear hb hbox hg; have hnb9 := NB357_354.out; have hnc9 := NB354_357.out; have Z10 := zz3 BK357))
      (try simp only [Act.put, List.setIfInBounds_toArray, List.set_cons_zero, List.set_cons_succ])
      go_cut [36] (fun v36 wc => ∃ (kq : Nat) (x36_6 : Bool), v36 = .bool x36_6 ∧ Aside0 (impl_NearOk.j1 kq l0_0 (l0_0.length : Int) x8_1 x36_6 l0_0 l0_1 = some r) ∧ Aside0 (kq ≤ k1) ∧ Aside0 (wc.heap[gb354]? = some (.cells #[(.slice (some ad356) l0_0.length c0_0), (.slice A0_1 l0_1.length c0_1)] 26 (0, 0))) ∧ Aside0 (wc.heap[gb357]? = some (.cells #[.int .i64 ((rd_T60 l0_0 x8_1).f0), .int .i64 ((rd_T60 l0_0 x8_1).f1), .int .i64 ((rd_T60 l0_0 x8_1).f2)] 60 (0, 0))) ∧ Aside0 (Below w.heap.size w wc))
      case first =>
       have H := HC7.out; clear HC7
       replace H := Option.bind_eq_some_iff.mp H
       obtain ⟨t358, A110, H⟩ := H
       (try dsimp only at H)
       have A11 := Aside0.mk A110; clear A110
       by_cases c12 : t358 = true
       ·subst c12
        rw [if_pos rfl] at H
        replace H := Option.bind_eq_some_iff.mp H
        obtain ⟨t359, A130, H⟩ := H
        (try dsimp only at H)
        have A13 := Aside0.mk A130; clear A130
        by_cases c14 : t359 = true
        ·subst c14
         rw [if_pos rfl] at H
         replace H := Option.bind_eq_some_iff.mp H
         obtain ⟨t360, A150, H⟩ := H
         (try dsimp only at H)
         have A15 := Aside0.mk A150; clear A150
         by_cases c16 : t360 = true
         ·subst c16
          rw [if_pos rfl] at H
          replace H := Option.bind_eq_some_iff.mp H
          obtain ⟨t361, A170, H⟩ := H
          (try dsimp only at H)
          have A17 := Aside0.mk A170; clear A170
          have H' := Aside0.mk H
          clear H; have hnb18 := NB357_354.out; have hnc18 := NB354_357.out; have Z19 := zz3 BK357
          go_wp2_with (first | ((with_reducible refine gate_callee (f := 25) rfl ?_); refine goesL_ (some 15) rfl rfl Try.func25 (by kernel_rfl) rfl #[.int .i64 ((rd_T60 l0_0 x8_1).f0)] rfl ar_ ?_; (with_reducible refine (impl_word.calls ((rd_T60 l0_0 x8_1).f0) true _ A11.out).mono ?_); rintro e w' ⟨rfl, ⟨nd, rfl⟩⟩; refine ⟨_, rfl, ?_⟩) | (go_at_call 26; (with_reducible refine (impl_in.calls ((rd_T60 l0_0 x8_1).f1) 0 254 true _ A13.out).mono ?_); rintro e w' ⟨rfl, ⟨nd, rfl⟩⟩) | (go_at_call 26; (with_reducible refine (impl_in.calls ((rd_T60 l0_0 x8_1).f2) 0 1000000 true _ A15.out).mono ?_); rintro e w' ⟨rfl, ⟨nd, rfl⟩⟩; have Z20 := zz2 BK354) | (go_at_call 33; (with_reducible refine (impl_Near_at.calls _ _ l0_0 _ _ l0_1 ((rd_T60 l0_0 x8_1).f0) t361 _ ?side1 ?side2 ?side3 ?side4 A17.out).mono ?_); (case side1 => exact Kd.C_below HR0_0.out (hbA_ HB.out)); (case side2 => exact HC0_0.out); (case side3 => exact Kd.C_below HR0_1.out (hbA_ HB.out)); (case side4 => exact HC0_1.out); rintro e w21 ⟨rfl, hb⟩; replace BK354 := Aside0.mk (blk_below (g := gb354) (o := .cells #[.slice (some ad356) l0_0.length c0_0, .slice A0_1 l0_1.length c0_1] 26 (0, 0)) (by exact kf_ BK354.out) hb); replace BK357 := Aside0.mk (blk_below (g := gb357) (o := .cells #[.int .i64 ((rd_T60 l0_0 x8_1).f0), .int .i64 ((rd_T60 l0_0 x8_1).f1), .int .i64 ((rd_T60 l0_0 x8_1).f2)] 60 (0, 0)) (by refine kb_ ?_; refine pz3 (cs := #[.int .i64 0, .int .i64 0, .int .i64 0]) ?_; refine kb_ ?_; exact BK357.out) hb); replace HB := (bs_ HB hb); (try clear hb); (try clear hb2); (try clear hk); (try clear hi)))
          go_meet
          case rel => exact ⟨_, (decide (t361 < x8_1)), (by first | rfl | (simp; done) | (simp [*]; done)), H', ⟨by have := HK1.out; first | omega | exact Nat.le_refl _⟩, ⟨by refine kb_ ?_; exact BK354.out⟩, ⟨by refine kb_ ?_; exact BK357.out⟩, ⟨hbA_ HB.out⟩⟩
         ·replace c16 := Bool.eq_false_iff.mpr c16
          subst c16
          rw [if_neg (show ¬ (false = true) by decide)] at H
          have H' := Aside0.mk H
          clear H; have hnb22 := NB357_354.out; have hnc22 := NB354_357.out; have Z23 := zz3 BK357
          go_wp2_with (first | ((with_reducible refine gate_callee (f := 25) rfl ?_); refine goesL_ (some 15) rfl rfl Try.func25 (by kernel_rfl) rfl #[.int .i64 ((rd_T60 l0_0 x8_1).f0)] rfl ar_ ?_; (with_reducible refine (impl_word.calls ((rd_T60 l0_0 x8_1).f0) true _ A11.out).mono ?_); rintro e w' ⟨rfl, ⟨nd, rfl⟩⟩; refine ⟨_, rfl, ?_⟩) | (go_at_call 26; (with_reducible refine (impl_in.calls ((rd_T60 l0_0 x8_1).f1) 0 254 true _ A13.out).mono ?_); rintro e w' ⟨rfl, ⟨nd, rfl⟩⟩) | (go_at_call 26; (with_reducible refine (impl_in.calls ((rd_T60 l0_0 x8_1).f2) 0 1000000 false _ A15.out).mono ?_); rintro e w' ⟨rfl, ⟨nd, rfl⟩⟩))
          go_meet
          case rel => exact ⟨_, (true), (by first | rfl | (simp; done) | (simp [*]; done)), H', ⟨by have := HK1.out; first | omega | exact Nat.le_refl _⟩, ⟨by exact kf_ BK354.out⟩, ⟨by refine kb_ ?_; refine pz3 (cs := #[.int .i64 0, .int .i64 0, .int .i64 0]) ?_; refine kb_ ?_; exact BK357.out⟩, ⟨hbA_ HB.out⟩⟩
        ·replace c14 := Bool.eq_false_iff.mpr c14
         subst c14
         rw [if_neg (show ¬ (false = true) by decide)] at H
         have H' := Aside0.mk H
         clear H; have hnb24 := NB357_354.out; have hnc24 := NB354_357.out; have Z25 := zz3 BK357
         go_wp2_with (first | ((with_reducible refine gate_callee (f := 25) rfl ?_); refine goesL_ (some 15) rfl rfl Try.func25 (by kernel_rfl) rfl #[.int .i64 ((rd_T60 l0_0 x8_1).f0)] rfl ar_ ?_; (with_reducible refine (impl_word.calls ((rd_T60 l0_0 x8_1).f0) true _ A11.out).mono ?_); rintro e w' ⟨rfl, ⟨nd, rfl⟩⟩; refine ⟨_, rfl, ?_⟩) | (go_at_call 26; (with_reducible refine (impl_in.calls ((rd_T60 l0_0 x8_1).f1) 0 254 false _ A13.out).mono ?_); rintro e w' ⟨rfl, ⟨nd, rfl⟩⟩))
         go_meet
         case rel => exact ⟨_, (true), (by first | rfl | (simp; done) | (simp [*]; done)), H', ⟨by have := HK1.out; first | omega | exact Nat.le_refl _⟩, ⟨by exact kf_ BK354.out⟩, ⟨by refine kb_ ?_; refine pz3 (cs := #[.int .i64 0, .int .i64 0, .int .i64 0]) ?_; refine kb_ ?_; exact BK357.out⟩, ⟨hbA_ HB.out⟩⟩
       ·replace c12 := Bool.eq_false_iff.mpr c12
        subst c12
        rw [if_neg (show ¬ (false = true) by decide)] at H
        have H' := Aside0.mk H
        clear H; have hnb26 := NB357_354.out; have hnc26 := NB354_357.out; have Z27 := zz3 BK357
        go_wp2_with (first | ((with_reducible refine gate_callee (f := 25) rfl ?_); refine goesL_ (some 15) rfl rfl Try.func25 (by kernel_rfl) rfl #[.int .i64 ((rd_T60 l0_0 x8_1).f0)] rfl ar_ ?_; (with_reducible refine (impl_word.calls ((rd_T60 l0_0 x8_1).f0) false _ A11.out).mono ?_); rintro e w' ⟨rfl, ⟨nd, rfl⟩⟩; refine ⟨_, rfl, ?_⟩))
        go_meet
        case rel => exact ⟨_, (true), (by first | rfl | (simp; done) | (simp [*]; done)), H', ⟨by have := HK1.out; first | omega | exact Nat.le_refl _⟩, ⟨by exact kf_ BK354.out⟩, ⟨by refine kb_ ?_; refine pz3 (cs := #[.int .i64 0, .int .i64 0, .int .i64 0]) ?_; refine kb_ ?_; exact BK357.out⟩, ⟨hbA_ HB.out⟩⟩
      case rest =>
       clear HC7; (try clear c1); (try clear c2); (try clear p2); (try clear p3); (try clear q3); (try clear hx3); (try clear c4); (try clear c4b0); (try clear c5); (try clear c5b0); (try clear c6); (try clear c6b0); (try clear c9); (try clear c12); (try clear c14); (try clear c16); (try clear c18); (try clear c22); (try clear c24); (try clear c25); (try clear c26); (try clear Z10); (try clear Z19); (try clear Z20); (try clear Z23); (try clear Z25); (try clear Z27); (try clear Z3); (try clear hx356_0); (try clear hx356_1); (try clear hx356_2); (try clear p2); (try clear p356); (try clear q356)
       obtain ⟨kq, x36_6, rfl, HA, HJ6, BK354, BK357, HB⟩ := hcut
       cases kq with
       | zero => exact absurd HA.out (by simp [impl_NearOk.j1])
       | succ kj6 =>
        have H := HA.out; clear HA
        simp only [impl_NearOk.j1] at H
        by_cases c28 : x36_6 = true
        ·subst c28
         rw [if_pos rfl] at H
         obtain rfl := Option.some.inj H
         go_wp2
         go_ret
         exact ⟨by first | rfl | (simp [errW_none, errW_some] <;> rfl) | (simp [*, errW_none, errW_some] <;> rfl), hbA_ HB.out⟩
        ·replace c28 := Bool.eq_false_iff.mpr c28
         subst c28
         rw [if_neg (show ¬ (false = true) by decide)] at H
         have H' := Aside0.mk H
         clear H
         go_wp2
         go_roundg kj6
         case measure => have := HK1.out; have := HJ6.out; omega
         case rel => exact ⟨(wrap64 (x8_1 + 1)), (by first | rfl | (simp; done) | (simp [*]; done)), H', ⟨by have := HK1.out; have := HJ6.out; omega⟩, ⟨by refine kb_ ?_; exact BK354.out⟩, ⟨hbA_ HB.out⟩⟩
     ·rw [if_neg c6] at H
      exact absurd H (by simp)
    ·rw [if_neg c5] at H
     exact absurd H (by simp)
   ·rw [if_neg c4] at H
    have c4b0 : decide (x8_1 < (l0_0.length : Int)) = false := decide_eq_false c4
    clear c4
    by_cases c29 : (l0_0.length : Int) ≤ 4
    ·rw [if_pos c29] at H
     have c29b0 : decide ((l0_0.length : Int) ≤ 4) = true := decide_eq_true c29
     have c29b1 : decide (l0_0.length ≤ 4) = true := decide_eq_true (by omega)
     clear c29
     by_cases c30 : (l0_1.length : Int) ≤ 4
     ·rw [if_pos c30] at H
      have c30b0 : decide ((l0_1.length : Int) ≤ 4) = true := decide_eq_true c30
      have c30b1 : decide (l0_1.length ≤ 4) = true := decide_eq_true (by omega)
      clear c30
      replace H := Option.bind_eq_some_iff.mp H
      obtain ⟨t355, A310, H⟩ := H
      (try dsimp only at H)
      have A31 := Aside0.mk A310; clear A310
      obtain rfl := Option.some.inj H
      have Z32 := zz2 BK354
      go_wp2_with (first | (go_at_call 34; (with_reducible refine (impl_NearHeld_34.calls k1 _ _ l0_1 t355 _ ?side1 ?side2 A31.out).mono ?_); (case side1 => exact kC_ (Kd.C_below HR0_1.out HB.out)); (case side2 => exact HC0_1.out); rintro e w33 ⟨rfl, hb⟩; replace BK354 := (bbA_ BK354 hb); replace HB := (bs_ HB hb); (try clear hb); (try clear hb2); (try clear hk); (try clear hi)))
      go_ret
      exact ⟨by first | rfl | (simp [errW_none, errW_some] <;> rfl) | (simp [*, errW_none, errW_some] <;> rfl), hbA_ HB.out⟩
     ·rw [if_neg c30] at H
      have c30b0 : decide ((l0_1.length : Int) ≤ 4) = false := decide_eq_false c30
      have c30b1 : decide (l0_1.length ≤ 4) = false := decide_eq_false (by omega)
      clear c30
      obtain rfl := Option.some.inj H
      have Z34 := zz2 BK354
      go_wp2
      go_ret
      exact ⟨by first | rfl | (simp [errW_none, errW_some] <;> rfl) | (simp [*, errW_none, errW_some] <;> rfl), hbA_ HB.out⟩
    ·rw [if_neg c29] at H
     have c29b0 : decide ((l0_0.length : Int) ≤ 4) = false := decide_eq_false c29
     have c29b1 : decide (l0_0.length ≤ 4) = false := decide_eq_false (by omega)
     clear c29
     obtain rfl := Option.some.inj H
     have Z35 := zz2 BK354
     go_wp2
     go_ret
     exact ⟨by first | rfl | (simp [errW_none, errW_some] <;> rfl) | (simp [*, errW_none, errW_some] <;> rfl), hbA_ HB.out⟩
def impl_Near_find.f (l0_0 : List (S60)) (l0_1 : List (S36)) (a1 : Int) (a2 : Int) : Option (Int) := (impl_Near_at.f l0_0 l0_1 a1).bind fun t363 => (if t363 ≥ 0 then (if 0 ≤ t363 then (if t363 < (l0_0.length : Int) then (if ((rd_T60 l0_0 t363).f2) > a2 then (some ((rd_T60 l0_0 t363).f1)) else (some (-1))) else (none)) else (none)) else (some (-1)))
set_option maxHeartbeats 8000000 in
set_option maxRecDepth 100000 in
theorem impl_Near_find.calls (A0_0 : Option Addr) (c0_0 : Nat) (l0_0 : List (S60)) (A0_1 : Option Addr) (c0_1 : Nat) (l0_1 : List (S36)) (a1 : Int) (a2 : Int) (r : Int) (w : World) (hr0_0 : Kd.C k60 w A0_0 l0_0.length l0_0) (hc0_0 : l0_0.length ≤ c0_0) (hr0_1 : Kd.C k36 w A0_1 l0_1.length l0_1) (hc0_1 : l0_1.length ≤ c0_1) (h : impl_Near_find.f l0_0 l0_1 a1 a2 = some r) :
  Calls Try.prog 27 #[.agg #[.slice A0_0 l0_0.length c0_0, .slice A0_1 l0_1.length c0_1], .int .i64 a1, .int .i64 a2] w fun e w' => e = .returned (.int .i64 r) ∧ Below w.heap.size w w' := by
 have hu26 := Try.underlying26; have HR0_0 := Aside0.mk hr0_0; have HC0_0 := Aside0.mk hc0_0; clear hr0_0 hc0_0; have HR0_1 := Aside0.mk hr0_1; have HC0_1 := Aside0.mk hc0_1; clear hr0_1 hc0_1
 have HB := Aside0.mk (Below.refl w.heap.size w)
 have H : ((impl_Near_at.f l0_0 l0_1 a1).bind fun t363 => (if t363 ≥ 0 then (if 0 ≤ t363 then (if t363 < (l0_0.length : Int) then (if ((rd_T60 l0_0 t363).f2) > a2 then (some ((rd_T60 l0_0 t363).f1)) else (some (-1))) else (none)) else (none)) else (some (-1)))) = some r := h
 clear h
 replace H := Option.bind_eq_some_iff.mp H
 obtain ⟨t363, A40, H⟩ := H
 (try dsimp only at H)
 have A4 := Aside0.mk A40; clear A40
 by_cases c5 : t363 ≥ 0
 ·rw [if_pos c5] at H
  have c5b0 : decide (0 ≤ t363) = true := decide_eq_true c5
  clear c5
  by_cases c6 : 0 ≤ t363
  ·rw [if_pos c6] at H
   have c6b0 : decide (0 ≤ t363) = true := decide_eq_true c6
   clear c6
   by_cases c7 : t363 < (l0_0.length : Int)
   ·rw [if_pos c7] at H
    have c7b0 : decide (t363 < (l0_0.length : Int)) = true := decide_eq_true c7
    clear c7
    by_cases c8 : ((rd_T60 l0_0 t363).f2) > a2
    ·rw [if_pos c8] at H
     have c8b0 : decide (a2 < ((rd_T60 l0_0 t363).f2)) = true := decide_eq_true c8
     clear c8
     obtain rfl := Option.some.inj H
     go_enter Try.func27, Try.ntmps27
     go_wp2_with (first | ((with_reducible refine gate_dst (N := 3) rfl ?_); refine box_ (N := 3) (cs := #[.slice A0_0 l0_0.length c0_0, .slice A0_1 l0_1.length c0_1]) (t := 26) (fun gb362 hg w9 hbox hb => ?_); have BK362 := Aside0.mk (hbox); have GW362 := ge_ hg HB; have GE362 := ge_ hg HB; replace HB := (bs_ HB hb); clear hb hbox hg; have Z10 := zz2 BK362) | ((with_reducible refine gate_callee (f := 33) rfl ?_); refine goesL_ (some 10) rfl rfl Try.func33 (by kernel_rfl) rfl #[.agg #[.slice A0_0 l0_0.length c0_0, .slice A0_1 l0_1.length c0_1], .int .i64 a1] rfl ar_ ?_; (with_reducible refine (impl_Near_at.calls _ _ l0_0 _ _ l0_1 a1 t363 _ ?side1 ?side2 ?side3 ?side4 A4.out).mono ?_); (case side1 => exact kC_ (Kd.C_below HR0_0.out HB.out)); (case side2 => exact HC0_0.out); (case side3 => exact kC_ (Kd.C_below HR0_1.out HB.out)); (case side4 => exact HC0_1.out); rintro e w11 ⟨rfl, hb⟩; refine ⟨_, rfl, ?_⟩; replace BK362 := (bbA_ BK362 hb); replace HB := (bs_ HB hb); (try clear hb); (try clear hb2); (try clear hk); (try clear hi); have Z12 := zz2 BK362; have p364 : 0 ≤ (t363 : Int) := of_decide_eq_true (by first | (with_reducible assumption) | assumption); have q364 : t363 < (l0_0.length : Int) := of_decide_eq_true (by first | (with_reducible assumption) | assumption); obtain ⟨ad364, e364, hx364_0, hx364_1, hx364_2⟩ := at_T60 HR0_0.out t363 p364 q364; cases e364; replace hx364_0 := cc_ HB hx364_0; replace hx364_1 := cc_ HB hx364_1; replace hx364_2 := cc_ HB hx364_2; replace p364 := eq_true p364; replace q364 := eq_true q364; have p365 : 0 ≤ (t363 : Int) := of_decide_eq_true (by first | (with_reducible assumption) | assumption); have q365 : t363 < (l0_0.length : Int) := of_decide_eq_true (by first | (with_reducible assumption) | assumption); obtain ⟨ad365, e365, hx365_0, hx365_1, hx365_2⟩ := at_T60 HR0_0.out t363 p365 q365; obtain rfl : ad364 = ad365 := (by injection e365); replace hx365_0 := cc_ HB hx365_0; replace hx365_1 := cc_ HB hx365_1; replace hx365_2 := cc_ HB hx365_2; replace p365 := eq_true p365; replace q365 := eq_true q365))
     go_ret
     exact ⟨by first | rfl | (simp [errW_none, errW_some] <;> rfl) | (simp [*, errW_none, errW_some] <;> rfl), hbA_ HB.out⟩
    ·rw [if_neg c8] at H
     have c8b0 : decide (a2 < ((rd_T60 l0_0 t363).f2)) = false := decide_eq_false c8
     clear c8
     obtain rfl := Option.some.inj H
     go_enter Try.func27, Try.ntmps27
     go_wp2_with (first | ((with_reducible refine gate_dst (N := 3) rfl ?_); refine box_ (N := 3) (cs := #[.slice A0_0 l0_0.length c0_0, .slice A0_1 l0_1.length c0_1]) (t := 26) (fun gb362 hg w13 hbox hb => ?_); have BK362 := Aside0.mk (hbox); have GW362 := ge_ hg HB; have GE362 := ge_ hg HB; replace HB := (bs_ HB hb); clear hb hbox hg; have Z14 := zz2 BK362) | ((with_reducible refine gate_callee (f := 33) rfl ?_); refine goesL_ (some 10) rfl rfl Try.func33 (by kernel_rfl) rfl #[.agg #[.slice A0_0 l0_0.length c0_0, .slice A0_1 l0_1.length c0_1], .int .i64 a1] rfl ar_ ?_; (with_reducible refine (impl_Near_at.calls _ _ l0_0 _ _ l0_1 a1 t363 _ ?side1 ?side2 ?side3 ?side4 A4.out).mono ?_); (case side1 => exact kC_ (Kd.C_below HR0_0.out HB.out)); (case side2 => exact HC0_0.out); (case side3 => exact kC_ (Kd.C_below HR0_1.out HB.out)); (case side4 => exact HC0_1.out); rintro e w15 ⟨rfl, hb⟩; refine ⟨_, rfl, ?_⟩; replace BK362 := (bbA_ BK362 hb); replace HB := (bs_ HB hb); (try clear hb); (try clear hb2); (try clear hk); (try clear hi); have Z16 := zz2 BK362; have p364 : 0 ≤ (t363 : Int) := of_decide_eq_true (by first | (with_reducible assumption) | assumption); have q364 : t363 < (l0_0.length : Int) := of_decide_eq_true (by first | (with_reducible assumption) | assumption); obtain ⟨ad364, e364, hx364_0, hx364_1, hx364_2⟩ := at_T60 HR0_0.out t363 p364 q364; cases e364; replace hx364_0 := cc_ HB hx364_0; replace hx364_1 := cc_ HB hx364_1; replace hx364_2 := cc_ HB hx364_2; replace p364 := eq_true p364; replace q364 := eq_true q364))
     go_ret
     exact ⟨by first | rfl | (simp [errW_none, errW_some] <;> rfl) | (simp [*, errW_none, errW_some] <;> rfl), hbA_ HB.out⟩
   ·rw [if_neg c7] at H
    exact absurd H (by simp)
  ·rw [if_neg c6] at H
   exact absurd H (by simp)
 ·rw [if_neg c5] at H
  have c5b0 : decide (0 ≤ t363) = false := decide_eq_false c5
  clear c5
  obtain rfl := Option.some.inj H
  go_enter Try.func27, Try.ntmps27
  go_wp2_with (first | ((with_reducible refine gate_dst (N := 3) rfl ?_); refine box_ (N := 3) (cs := #[.slice A0_0 l0_0.length c0_0, .slice A0_1 l0_1.length c0_1]) (t := 26) (fun gb362 hg w17 hbox hb => ?_); have BK362 := Aside0.mk (hbox); have GW362 := ge_ hg HB; have GE362 := ge_ hg HB; replace HB := (bs_ HB hb); clear hb hbox hg; have Z18 := zz2 BK362) | ((with_reducible refine gate_callee (f := 33) rfl ?_); refine goesL_ (some 10) rfl rfl Try.func33 (by kernel_rfl) rfl #[.agg #[.slice A0_0 l0_0.length c0_0, .slice A0_1 l0_1.length c0_1], .int .i64 a1] rfl ar_ ?_; (with_reducible refine (impl_Near_at.calls _ _ l0_0 _ _ l0_1 a1 t363 _ ?side1 ?side2 ?side3 ?side4 A4.out).mono ?_); (case side1 => exact kC_ (Kd.C_below HR0_0.out HB.out)); (case side2 => exact HC0_0.out); (case side3 => exact kC_ (Kd.C_below HR0_1.out HB.out)); (case side4 => exact HC0_1.out); rintro e w19 ⟨rfl, hb⟩; refine ⟨_, rfl, ?_⟩; replace BK362 := (bbA_ BK362 hb); replace HB := (bs_ HB hb); (try clear hb); (try clear hb2); (try clear hk); (try clear hi)))
  go_ret
  exact ⟨by first | rfl | (simp [errW_none, errW_some] <;> rfl) | (simp [*, errW_none, errW_some] <;> rfl), hbA_ HB.out⟩
theorem impl_NearEntry_64.calls (A0 : Option Addr) (c0 n0 : Nat) (w : World) (hc : n0 ≤ c0) : Calls Try.prog 64 #[.slice A0 n0 c0] w fun e w' => e = .returned (.slice A0 n0 n0) ∧ w' = w := by
  go_enter Try.func64, Try.ntmps64
  go_wp2
  go_ret
  exact ⟨rfl, rfl⟩
def impl_NearEntry_50.f (l0 : List (S60)) : Option ((List (S60))) := if l0.length * 24 ≤ 140737488355328 then some l0 else none
theorem impl_NearEntry_50.calls (A0 : Option Addr) (c0 : Nat) (l0 : List (S60)) (r : List (S60)) (w : World) (hr0 : Kd.C k60 w A0 l0.length l0) (hc0 : l0.length ≤ c0) (h : impl_NearEntry_50.f l0 = some r) :
    Calls Try.prog 50 #[.slice A0 l0.length c0] w fun e w' => ∃ v0_ : Value, e = .returned (v0_) ∧ Kd.R k60 60 w' w.heap.size (fun _ => True) v0_ r ∧ Below w.heap.size w w' := by
  obtain ⟨hle, rfl⟩ : l0.length * 24 ≤ 140737488355328 ∧ l0 = r := by
    unfold impl_NearEntry_50.f at h; split at h
    · exact ⟨by assumption, Option.some.inj h⟩
    · cases h
  have hm := hr0.2.1
  have HR := Aside0.mk hr0; clear hr0 h
  by_cases h0 : l0.length = 0
  · have hb : ((l0.length : Int) == 0) = true := by simp [h0]
    have HL : Aside0 (l0 = []) := ⟨List.eq_nil_of_length_eq_zero h0⟩
    clear h0
    go_enter Try.func50, Try.ntmps50
    go_wp2
    go_ret
    refine ⟨_, rfl, ?_, Below.refl _ _⟩
    rw [HL.out]; exact Kd.R_nil _ _ _ _ _
  · have hb : ((l0.length : Int) == 0) = false := by simp; intro hh; exact h0 (by simp [hh])
    clear h0
    go_enter Try.func50, Try.ntmps50
    go_wp2_with (first
      | ((with_reducible refine gate_dst (N := 7) rfl ?_); refine Kd.R_append_rows k60 (Rr := k60.K w) w.heap.size rfl _ _ 23 60 (.agg #[(.int .i64 0), (.int .i64 0), (.int .i64 0)]) 24 rfl Try.underlying23 info60 rfl (by decide) (by decide) (.slice none 0 0) [] l0 A0 l0.length c0 (fun _ => True) (fun _ => True) rfl rfl (Kd.R_nil _ _ _ _ _) HR.out (fun x cs h => by rw [k60_open h]; exact k60_mkM _ _ _ _) (fun k _ => ⟨trivial, by simp [Value.ownBlock]⟩) (fun _ _ => trivial) (Below.refl _ _) (Nat.le_refl _) (by simpa using hle) ?_; intro v1 w1 ho hb1 hg hat; rw [List.nil_append] at ho; obtain ⟨A1, c1, hv1, hc1, _⟩ := Kd.R_reads ho; have HO := Aside0.mk ho; clear ho hat hg; have HB := Aside0.mk hb1; clear hb1; subst hv1)
      | (go_at_call 64; (with_reducible refine (impl_NearEntry_64.calls _ _ _ _ hc1).mono ?_); rintro e w' ⟨rfl, rfl⟩))
    go_ret
    exact ⟨_, rfl, Kd.R_clip HO.out (Nat.le_refl _) hc1, HB.out⟩
theorem slices_Clip_byte_byte.calls (A0 : Option Addr) (c0 n0 : Nat) (w : World) (hc : n0 ≤ c0) : Calls Try.prog 65 #[.slice A0 n0 c0] w fun e w' => e = .returned (.slice A0 n0 n0) ∧ w' = w := by
  go_enter Try.func65, Try.ntmps65
  go_wp2
  go_ret
  exact ⟨rfl, rfl⟩
def impl_clone_byte.f (l0 : List Int) : Option (List Int) := if l0.length * 1 ≤ 140737488355328 then some l0 else none
theorem impl_clone_byte.calls (A0 : Option Addr) (c0 : Nat) (l0 : List Int) (r : List Int) (w : World) (hr0 : Kd.C (Kd.int .u8) w A0 l0.length l0) (hc0 : l0.length ≤ c0) (h : impl_clone_byte.f l0 = some r) :
    Calls Try.prog 51 #[.slice A0 l0.length c0] w fun e w' => ∃ v0_ : Value, e = .returned (v0_) ∧ Kd.R (Kd.int .u8) 5 w' w.heap.size (fun _ => True) v0_ r ∧ Below w.heap.size w w' := by
  obtain ⟨hle, rfl⟩ : l0.length * 1 ≤ 140737488355328 ∧ l0 = r := by
    unfold impl_clone_byte.f at h; split at h
    · exact ⟨by assumption, Option.some.inj h⟩
    · cases h
  have hm := hr0.2.1
  have HR := Aside0.mk hr0; clear hr0 h
  by_cases h0 : l0.length = 0
  · have hb : ((l0.length : Int) == 0) = true := by simp [h0]
    have HL : Aside0 (l0 = []) := ⟨List.eq_nil_of_length_eq_zero h0⟩
    clear h0
    go_enter Try.func51, Try.ntmps51
    go_wp2
    go_ret
    refine ⟨_, rfl, ?_, Below.refl _ _⟩
    rw [HL.out]; exact Kd.R_nil _ _ _ _ _
  · have hb : ((l0.length : Int) == 0) = false := by simp; intro hh; exact h0 (by simp [hh])
    clear h0
    go_enter Try.func51, Try.ntmps51
    go_wp2_with (first
      | ((with_reducible refine gate_dst (N := 7) rfl ?_); refine Kd.R_append_rows (Kd.int .u8) (Rr := (Kd.int .u8).K w) w.heap.size rfl _ _ 22 5 (.int .u8 0) 1 rfl Try.underlying22 info5 rfl (by decide) (by decide) (.slice none 0 0) [] l0 A0 l0.length c0 (fun _ => True) (fun _ => True) rfl rfl (Kd.R_nil _ _ _ _ _) HR.out (fun x cs h => h) (fun k _ => ⟨trivial, by simp [Value.ownBlock]⟩) (fun _ _ => trivial) (Below.refl _ _) (Nat.le_refl _) (by simpa using hle) ?_; intro v1 w1 ho hb1 hg hat; rw [List.nil_append] at ho; obtain ⟨A1, c1, hv1, hc1, _⟩ := Kd.R_reads ho; have HO := Aside0.mk ho; clear ho hat hg; have HB := Aside0.mk hb1; clear hb1; subst hv1)
      | (go_at_call 65; (with_reducible refine (slices_Clip_byte_byte.calls _ _ _ _ hc1).mono ?_); rintro e w' ⟨rfl, rfl⟩))
    go_ret
    exact ⟨_, rfl, Kd.R_clip HO.out (Nat.le_refl _) hc1, HB.out⟩
theorem impl_NearHeld_52.calls (A0 : Option Addr) (c0 n0 : Nat) (w : World) (hc : n0 ≤ c0) : Calls Try.prog 52 #[.slice A0 n0 c0] w fun e w' => e = .returned (.slice A0 n0 n0) ∧ w' = w := by
  go_enter Try.func52, Try.ntmps52
  go_wp2
  go_ret
  exact ⟨rfl, rfl⟩
def impl_Near_copy.l0 : Nat → List (S36) → Int → Int → List (S60) → List (S36) → Option ((List (S60)) × (List (S36)))
 | 0, _, _, _, _, _ => none
 | k + 1, x11, x12, x13, x372000, x372001 => if x13 < x12 then (if 0 ≤ x13 then (if x13 < (x11.length : Int) then ((impl_clone_byte.f ((rd_T36 x11 x13).f1)).bind fun t374 => (if x372001.length < 4398046511104 then (impl_Near_copy.l0 k x11 x12 (wrap64 (x13 + 1)) x372000 (x372001 ++ [(⟨(rd_T36 x11 x13).f0, t374⟩ : S36)])) else (none))) else (none)) else (none)) else (some (x372000, x372001))
def impl_Near_copy.f (k : Nat) (l0_0 : List (S60)) (l0_1 : List (S36)) : Option ((List (S60)) × (List (S36))) := (impl_NearEntry_50.f l0_0).bind fun t368 => (impl_Near_copy.l0 k l0_1 (l0_1.length : Int) 0 t368 ([] : List (S36)))
theorem impl_Near_copy.mono_l : ∀ k, (∀ y0 y1 y2 y3 y4, LeO (impl_Near_copy.l0 k y0 y1 y2 y3 y4) (impl_Near_copy.l0 (k + 1) y0 y1 y2 y3 y4))
 | 0 => fun _ _ _ _ _ r h => by simp [impl_Near_copy.l0] at h
 | k + 1 => by
  have ih0 := impl_Near_copy.mono_l k
  ·intro y0 y1 y2 y3 y4
   unfold impl_Near_copy.l0
   repeat' first | (with_reducible first | apply ih0 | exact LeO.refl _ | exact LeO.none _ | refine LeO.ite ?_ ?_ | refine LeO.bind ?_ fun _ => ?_) | apply ih0 | exact LeO.none _ | refine LeO.ite ?_ ?_ | refine LeO.bind ?_ fun _ => ?_
theorem impl_Near_copy.mono : ∀ a0 a1 k, LeO (impl_Near_copy.f k a0 a1) (impl_Near_copy.f (k + 1) a0 a1) := by
 intro a0 a1 k
 have ih0 := impl_Near_copy.mono_l k
 unfold impl_Near_copy.f
 repeat' first | (with_reducible first | apply ih0 | exact LeO.refl _ | exact LeO.none _ | refine LeO.ite ?_ ?_ | refine LeO.bind ?_ fun _ => ?_) | apply ih0 | exact LeO.none _ | refine LeO.ite ?_ ?_ | refine LeO.bind ?_ fun _ => ?_
def impl_Near_copy.T5 : Bool × List (List Nat × List Nat) := (true, [([], []), ([0], [0]), ([], []), ([2], [2]), ([], []), ([4], [4]), ([5], [5]), ([3, 6], [3, 6]), ([7], [7]), ([1, 8, 6], [1, 8]), ([0, 1, 2, 3, 4, 5, 6, 7, 8, 9], []), ([10, 9, 9, 0, 1, 2, 3, 4, 5, 6, 7, 8, 9], [9, 10])])
def impl_Near_copy.B5 : List Nat := [0, 1, 0, 4, 0, 16, 48, 124, 252, 511, 1023, 2047]
theorem impl_Near_copy.tab5 : rtab .any (opsOf Try.f28 5) = impl_Near_copy.T5 := by kernel_rfl
theorem impl_Near_copy.bits5 : waitsOk impl_Near_copy.T5.2 impl_Near_copy.B5 = true := by kernel_rfl
set_option maxHeartbeats 8000000 in
set_option maxRecDepth 100000 in
theorem impl_Near_copy.calls (k : Nat) (A0_0 : Option Addr) (c0_0 : Nat) (l0_0 : List (S60)) (A0_1 : Option Addr) (c0_1 : Nat) (l0_1 : List (S36)) (r1 : List (S60)) (r2 : List (S36)) (w : World) (hr0_0 : Kd.C k60 w A0_0 l0_0.length l0_0) (hc0_0 : l0_0.length ≤ c0_0) (hr0_1 : Kd.C k36 w A0_1 l0_1.length l0_1) (hc0_1 : l0_1.length ≤ c0_1) (h : impl_Near_copy.f k l0_0 l0_1 = some (r1, r2)) :
  Calls Try.prog 28 #[.agg #[.slice A0_0 l0_0.length c0_0, .slice A0_1 l0_1.length c0_1]] w fun e w' => ∃ v0_ v1_ : Value, e = .returned (.agg #[v0_, v1_]) ∧ Kd.R k60 60 w' w.heap.size (fun _ => True) v0_ r1 ∧ Kd.S k36 36 w' w.heap.size (fun _ => True) v1_ r2 ∧ Below w.heap.size w w' := by
 have hu26 := Try.underlying26; have hu36 := Try.underlying36; have HR0_0 := Aside0.mk hr0_0; have HC0_0 := Aside0.mk hc0_0; clear hr0_0 hc0_0; have HR0_1 := Aside0.mk hr0_1; have HC0_1 := Aside0.mk hc0_1; clear hr0_1 hc0_1
 have HB := Aside0.mk (Below.refl w.heap.size w)
 have H : ((impl_NearEntry_50.f l0_0).bind fun t368 => (impl_Near_copy.l0 k l0_1 (l0_1.length : Int) 0 t368 ([] : List (S36)))) = some (r1, r2) := h
 clear h
 replace H := Option.bind_eq_some_iff.mp H
 obtain ⟨t368, A20, H⟩ := H
 (try dsimp only at H)
 have A2 := Aside0.mk A20; clear A20
 have H' := Aside0.mk H
 clear H
 go_enter Try.func28, Try.ntmps28
 go_wp2_with (first | ((with_reducible refine gate_dst (N := 1) rfl ?_); refine box_ (N := 1) (cs := #[.slice A0_0 l0_0.length c0_0, .slice A0_1 l0_1.length c0_1]) (t := 26) (fun gb366 hg w3 hbox hb => ?_); have BK366 := Aside0.mk (hbox); have GW366 := ge_ hg HB; have GE366 := ge_ hg HB; replace HB := (bs_ HB hb); clear hb hbox hg) | ((with_reducible refine gate_dst (N := 2) rfl ?_); refine box_ (N := 2) (cs := #[.slice none 0 0, .slice none 0 0]) (t := 26) (fun gb367 hg w4 hbox hb => ?_); have BK367 := Aside0.mk (hbox); have GW367 := ge_ hg HB; have GE367 := ge_ hg HB; replace HB := (bs_ HB hb); have NB366_367 := nl_ hg BK366; have NB367_366 := ng_ hg BK366; replace BK366 := (bbA_ BK366 hb); clear hb hbox hg; have hnb5 := NB366_367.out; have hnc5 := NB367_366.out; have Z6 := zz2 BK366) | ((with_reducible refine gate_callee (f := 50) rfl ?_); refine goesL_ (some 8) rfl rfl Try.func50 (by kernel_rfl) rfl #[.slice A0_0 l0_0.length c0_0] rfl ar_ ?_; (with_reducible refine (impl_NearEntry_50.calls _ _ l0_0 t368 _ ?side1 ?side2 A2.out).mono ?_); (case side1 => exact kC_ (Kd.C_below HR0_0.out HB.out)); (case side2 => exact HC0_0.out); rintro e w7 ⟨v369, rfl, ho0, hb⟩; refine ⟨_, rfl, ?_⟩; have HO370 := Aside0.mk (Kd.R_lower ho0 (below_size (hbA_ HB.out))); replace BK366 := (bbA_ BK366 hb); replace BK367 := (bbA_ BK367 hb); replace HB := (bs_ HB hb); (try clear hb); (try clear hb2); (try clear hk); (try clear hi); (try clear ho0); obtain ⟨Ao8, co8, eo8⟩ := Kd.R_slice HO370.out; subst eo8) | ((with_reducible refine gate_dst (N := 3) rfl ?_); refine box_ (N := 3) (cs := #[.slice none 0 0, .slice none 0 0]) (t := 26) (fun gb371 hg w9 hbox hb => ?_); replace HO370 := Aside0.mk (Kd.R_below (kR_ HO370.out) hb); have BK371 := Aside0.mk (hbox); have GW371 := ge_ hg HB; have GE371 := ge_ hg HB; replace HB := (bs_ HB hb); have NB366_371 := nl_ hg BK366; have NB371_366 := ng_ hg BK366; replace BK366 := (bbA_ BK366 hb); have NB367_371 := nl_ hg BK367; have NB371_367 := ng_ hg BK367; replace BK367 := (bbA_ BK367 hb); clear hb hbox hg; have hnb10 := NB371_366.out; have hnc10 := NB366_371.out; have hnb11 := NB371_367.out; have hnc11 := NB367_371.out; have Z12 := zz2 BK371; have Z13 := zz2 BK366))
 go_loopg [13] k (fun kq v13 w' => ∃ (x13_1 : Int) (x372001_1 : List (S36)) (u372001 : Value), v13 = .int .i64 x13_1 ∧ Aside0 (impl_Near_copy.l0 kq l0_1 (l0_1.length : Int) x13_1 t368 x372001_1 = some (r1, r2)) ∧ Aside0 (kq ≤ k) ∧ Aside0 (Kd.R k60 60 w' w.heap.size (fun _ => True) (.slice Ao8 t368.length co8) t368) ∧ Aside0 (Kd.S k36 36 w' w.heap.size (fun _ => True) u372001 x372001_1) ∧ Aside0 (w'.heap[gb366]? = some (.cells #[(.slice A0_0 l0_0.length c0_0), (.slice A0_1 l0_1.length c0_1)] 26 (0, 0))) ∧ Aside0 (w'.heap[gb367]? = some (.cells #[(.slice none 0 0), (.slice none 0 0)] 26 (0, 0))) ∧ Aside0 (w'.heap[gb371]? = some (.cells #[(.slice Ao8 t368.length co8), u372001] 26 (0, 0))) ∧ Aside0 (Below w.heap.size w w'))
 case atStart => exact ⟨(0), (([] : List (S36))), (.slice none 0 0), (by first | rfl | (simp; done) | (simp [*]; done)), H', ⟨Nat.le_refl _⟩, ⟨by refine kR_ ?_; exact rfm_ ((Kd.R_types HO370.out BK371.out (by decide))) (fun _ hk => trivial)⟩, ⟨by first | exact Kd.S_nil _ _ _ _ _ | exact Kd.N_nil _ _ _ _ _ | exact Kd.V_nil _ _ _ _ _ | exact Kd.Q_nil _ _ _ _ _ | exact Kd.R_nil _ _ _ _ _⟩, ⟨by exact kf_ BK366.out⟩, ⟨by exact kf_ BK367.out⟩, ⟨by refine kb_ ?_; refine pz2 (cs := #[.slice none 0 0, .slice none 0 0]) ?_; refine kb_ ?_; exact BK371.out⟩, ⟨hbA_ HB.out⟩⟩
 case round =>
  clear H'; (try clear c1); (try clear c2); (try clear p2); (try clear c5); (try clear c10); (try clear c11); (try clear Z12); (try clear Z13); (try clear Z6)
  obtain ⟨x13_1, x372001_1, u372001, rfl, HA, HK1, HO_372000, HO_372001, BK366, BK367, BK371, HB⟩ := hrel
  cases gk with
  | zero => exact absurd HA.out (by simp [impl_Near_copy.l0])
  | succ k1 =>
   have H := HA.out; clear HA
   simp only [impl_Near_copy.l0] at H
   by_cases c14 : x13_1 < (l0_1.length : Int)
   ·rw [if_pos c14] at H
    have c14b0 : decide (x13_1 < (l0_1.length : Int)) = true := decide_eq_true c14
    clear c14
    by_cases c15 : 0 ≤ x13_1
    ·rw [if_pos c15] at H
     have c15b0 : decide (0 ≤ x13_1) = true := decide_eq_true c15
     clear c15
     by_cases c16 : x13_1 < (l0_1.length : Int)
     ·rw [if_pos c16] at H
      have c16b0 : decide (x13_1 < (l0_1.length : Int)) = true := decide_eq_true c16
      clear c16
      replace H := Option.bind_eq_some_iff.mp H
      obtain ⟨t374, A170, H⟩ := H
      (try dsimp only at H)
      have A17 := Aside0.mk A170; clear A170
      by_cases c18 : x372001_1.length < 4398046511104
      ·rw [if_pos c18] at H
       have LMc18 := Aside0.mk c18; clear c18
       obtain ⟨y377, hy377⟩ : ∃ y_ : List (S36), y_ = (x372001_1 ++ [(⟨(rd_T36 l0_1 x13_1).f0, t374⟩ : S36)]) := ⟨_, rfl⟩
       (first | replace H := sb_ hy377 H | rw [← hy377] at H)
       have Ny377 := Aside0.mk hy377; clear hy377
       have H' := Aside0.mk H
       clear H
       have p372 : 0 ≤ (x13_1 : Int) := of_decide_eq_true (by first | (with_reducible assumption) | assumption)
       have q372 : x13_1 < (l0_1.length : Int) := of_decide_eq_true (by first | (with_reducible assumption) | assumption)
       obtain ⟨ad372, A372_1, c372_1, e372, hx372_0, hx372_1, hl372_1, hi372_1⟩ := at_T36 HR0_1.out x13_1 p372 q372
       cases e372
       replace hx372_0 := cc_ HB hx372_0
       replace hx372_1 := cc_ HB hx372_1
       have HR372_1 := Aside0.mk hi372_1; have HC372_1 := Aside0.mk hl372_1; clear hi372_1 hl372_1
       replace p372 := eq_true p372
       replace q372 := eq_true q372
       try go_wp2_with (first | ((with_reducible refine gate_dst (N := 5) rfl ?_); refine box_ (N := 5) (cs := #[.int .i64 0, .slice none 0 0]) (t := 36) (fun gb373 hg w19 hbox hb => ?_); replace HO_372000 := Aside0.mk (Kd.R_below (kR_ HO_372000.out) hb); replace HO_372001 := Aside0.mk (Kd.S_below (Kd.S_elderB (kS_ HO_372001.out) gb373 (Nat.le_of_eq hg.symm)) hb); have BK373 := Aside0.mk (hbox); have GW373 := ge_ hg HB; have GE373 := ge_ hg HB; replace HB := (bs_ HB hb); have NB366_373 := nl_ hg BK366; have NB373_366 := ng_ hg BK366; replace BK366 := (bbA_ BK366 hb); have NB367_373 := nl_ hg BK367; have NB373_367 := ng_ hg BK367; replace BK367 := (bbA_ BK367 hb); have NB371_373 := nl_ hg BK371; have NB373_371 := ng_ hg BK371; replace BK371 := (bbA_ BK371 hb); clear hb hbox hg; have hnb20 := NB373_366.out; have hnc20 := NB366_373.out; have hnb21 := NB373_367.out; have hnc21 := NB367_373.out; have hnb22 := NB373_371.out; have hnc22 := NB371_373.out; have Z23 := zz2 BK373))
       obtain ⟨w24, h_w24⟩ : ∃ w_, ((w19.setCell ⟨gb373, 0, none⟩ (.int .i64 ((rd_T36 l0_1 x13_1).f0))).setCell ⟨gb373, 1, none⟩ (.slice A372_1 ((rd_T36 l0_1 x13_1).f1).length c372_1)) = w_ := ⟨_, rfl⟩
       have n0_ : Aside0 (Kd.R k60 60 w24 w.heap.size (fun _ => True) (.slice Ao8 t368.length co8) t368) := ⟨by subst h_w24; refine kR_ ?_; exact rfm_ ((Kd.R_types HO_372000.out BK373.out (by decide))) (fun _ hk => trivial)⟩
       have n1_ : Aside0 (Kd.S k36 36 w24 w.heap.size (fun k_ => k_ ≠ gb373) u372001 x372001_1) := ⟨by subst h_w24; refine kS_ ?_; exact nfS_ gb373 HO_372001.out (fun _ hk => hk.2) (fun _ hk => hk.1.2)⟩
       have n2_ : Aside0 (w24.heap[gb366]? = some (.cells #[.slice A0_0 l0_0.length c0_0, .slice (some ad372) l0_1.length c0_1] 26 (0, 0))) := ⟨by subst h_w24; exact kf_ BK366.out⟩
       have n3_ : Aside0 (w24.heap[gb367]? = some (.cells #[.slice none 0 0, .slice none 0 0] 26 (0, 0))) := ⟨by subst h_w24; exact kf_ BK367.out⟩
       have n4_ : Aside0 (w24.heap[gb371]? = some (.cells #[.slice Ao8 t368.length co8, u372001] 26 (0, 0))) := ⟨by subst h_w24; exact kf_ BK371.out⟩
       have n5_ : Aside0 (w24.heap[gb373]? = some (.cells #[.int .i64 ((rd_T36 l0_1 x13_1).f0), .slice A372_1 ((rd_T36 l0_1 x13_1).f1).length c372_1] 36 (0, 0))) := ⟨by subst h_w24; refine kb_ ?_; refine pz2 (cs := #[.int .i64 0, .slice none 0 0]) ?_; refine kb_ ?_; exact BK373.out⟩
       have n6_ : Aside0 (Below w.heap.size w w24) := ⟨by subst h_w24; exact hbA_ HB.out⟩
       (try clear HO_372000); (try clear HO_372001); (try clear BK366); (try clear BK367); (try clear BK371); (try clear BK373); (try clear HB)
       (try rw [h_w24]); clear h_w24
       have HO_372000 := n0_; have HO_372001 := n1_; have BK366 := n2_; have BK367 := n3_; have BK371 := n4_; have BK373 := n5_; have HB := n6_; clear n0_ n1_ n2_ n3_ n4_ n5_ n6_; replace HO_372000 := Aside0.mk (Kd.R_drew HO_372000.out); replace HO_372001 := Aside0.mk (Kd.S_drew HO_372001.out); replace BK366 := Aside0.mk (blk_drew BK366.out); replace BK367 := Aside0.mk (blk_drew BK367.out); replace BK371 := Aside0.mk (blk_drew BK371.out); replace BK373 := Aside0.mk (blk_drew BK373.out); replace HB := (bd_ HB)
       refine start_ (n := 12) (S := fun w' => w'.cell? ⟨gb371, 0, none⟩ = some (.slice Ao8 t368.length co8) ∧ w'.cell? ⟨gb371, 1, none⟩ = some (u372001) ∧ w'.cell? ⟨gb373, 0, none⟩ = some (.int .i64 ((rd_T36 l0_1 x13_1).f0)) ∧ w'.cell? ⟨gb373, 1, none⟩ = some (.slice A372_1 ((rd_T36 l0_1 x13_1).f1).length c372_1)) (ds := [11]) #[false, false, false, false, false, false, false, false, false, false, false, false] (by kernel_rfl) rfl rfl ⟨bc_ BK371 0, bc_ BK371 1, bc_ BK373 0, bc_ BK373 1⟩ (fun hHeld => ?_); refine with_tabW impl_Near_copy.tab5 impl_Near_copy.bits5 (fun HT_ HW_ => ?_)
       generalize w24.drew = w25 at HO_372000 HO_372001 BK366 BK367 BK371 BK373 HB hHeld ⊢
       refine pu_ (i := 0) (N := some 17) HT_ ?_; refine pu_ (i := 2) (N := some 19) HT_ ?_; refine pu_ (i := 4) (N := some 21) HT_ ?_; refine tk_ (i := 1) (N := some 18) HT_ HW_ hHeld ?_; refine tk_ (i := 3) (N := some 20) HT_ HW_ hHeld ?_; refine tk_ (i := 5) (N := some 22) HT_ HW_ hHeld ?_
       refine on_ (i := 6) (N := some 23) HT_ (fun K hK => ?_)
       refine goes_ Try.func51 (by kernel_rfl) rfl #[.slice A372_1 ((rd_T36 l0_1 x13_1).f1).length c372_1] (by rfl) rfl rfl ar_ ?_
       with_reducible refine (impl_clone_byte.calls _ _ ((rd_T36 l0_1 x13_1).f1) t374 _ ?side1 ?side2 A17.out).mono ?_
       (case side1 => exact kC_ (Kd.C_below HR372_1.out HB.out))
       (case side2 => exact HC372_1.out)
       rintro e w26 ⟨v375, rfl, ho0, hb⟩
       refine ⟨_, rfl, ?_⟩
       replace HO_372000 := Aside0.mk (Kd.R_below (kR_ HO_372000.out) hb); replace HO_372001 := Aside0.mk (Kd.S_elder' (kS_ HO_372001.out) (Kd.R_base ho0) hb); have HO376 := Aside0.mk (Kd.R_lower ho0 (below_size (hbA_ HB.out))); replace BK366 := (bbA_ BK366 hb); replace BK367 := (bbA_ BK367 hb); replace BK371 := (bbA_ BK371 hb); replace BK373 := (bbA_ BK373 hb); replace HB := (bs_ HB hb); (try clear hb); (try clear hb2); (try clear hk); (try clear hi); (try clear ho0)
       obtain ⟨Ao27, co27, eo27⟩ := Kd.R_slice HO376.out
       (first | subst eo27 | (injection eo27 with f1_ f2_ f3_; have f4_ := f1_.symm; have f5_ := f3_.symm; clear f1_ f2_ f3_; subst f4_; subst f5_))
       refine hK.out _ _ ⟨bc_ BK371 0, bc_ BK371 1, bc_ BK373 0, bc_ BK373 1⟩ (fun hHeld => ?_)
       clear hK K; refine nm_ 23 ?_; refine pu_ (i := 7) (N := some 24) HT_ ?_
       refine on_ (i := 8) (N := some 25) HT_ (fun K hK => ?_)
       refine value_ (w1 := ?_) (v := ?_) (by rfl) rfl ?_ ?_
       rotate_left 2
       ·go_simp
        constructor
        ·rfl
        ·rfl
       refine hK.out _ _ ⟨(blk_cell (blk_alloc BK371.out _) 0).trans rfl, (blk_cell (blk_alloc BK371.out _) 1).trans rfl, (blk_cell (blk_alloc BK373.out _) 0).trans rfl, (blk_cell (blk_alloc BK373.out _) 1).trans rfl⟩ (fun hHeld => ?_)
       clear hK K; refine nm_ 25 ?_
       refine on_ (i := 9) (N := some 26) HT_ (fun K hK => ?_)
       refine Kd.S_append_step k36 (w0 := w) w.heap.size (by rfl) (.tmp 18) (.tmp 25) 24 36 (.agg #[(.int .i64 0), (.slice none 0 0)]) 32 rfl Try.underlying24 info36 rfl (by decide) (by omega) u372001 x372001_1 (⟨(rd_T36 l0_1 x13_1).f0, t374⟩ : S36) [.int .i64 ((rd_T36 l0_1 x13_1).f0), .slice Ao27 t374.length co27] (fun k_ => k_ ≠ gb373) (fun k_ => some k_ = (.slice Ao27 t374.length co27 : Value).ownBlock) rfl rfl ?aP (fun k_ hk_ => ((Kd.R_mono (ok' := fun k_ => ((fun k_ => k_ ≠ gb373)) k_ ∧ some k_ ≠ (u372001 : Value).ownBlock) (Kd.R_types (Kd.R_apart' (HO376.out) (Kd.S_typed HO_372001.out) (by decide)) BK373.out (by decide)) (fun k_ hk => ⟨hk.2, hk.1.2⟩))).1 k_ hk_.symm) ?aF ?aO ?aB ?aS ?aL ?_
       (case aP => exact k36_mkM _ _ _ (⟨(rd_T36 l0_1 x13_1).f0, t374⟩ : S36) (Kd.R_mono (Kd.R_tight rfl (Kd.R_mono (ok' := fun k_ => ((fun k_ => k_ ≠ gb373)) k_ ∧ some k_ ≠ (u372001 : Value).ownBlock) (Kd.R_types (Kd.R_apart' (HO376.out) (Kd.S_typed HO_372001.out) (by decide)) BK373.out (by decide)) (fun k_ hk => ⟨hk.2, hk.1.2⟩))) (fun _ h_ => h_)))
       (case aB => exact (hbA_ HB.out))
       (case aF => exact (fun k_ hk => fb_ BK373 k_ hk))
       (case aO => exact (by refine kS_ ?_; exact Kd.S_mono HO_372001.out (fun k_ hk => ⟨hk.1, fun e_ => hk.2 e_⟩)))
       (case aS => exact (below_size (hbA_ HB.out)))
       (case aL => have := LMc18.out; omega)
       intro v378 w28 ho hb hg hat
       rw [← Ny377.out] at ho
       have n0_ := Aside0.mk (Kd.R_over' (kR_ HO_372000.out) (Kd.S_typed (kS_ HO_372001.out)) (by decide) hg); have n1_ := (bgA_ BK366 hg (Kd.S_ne HO_372001.out BK366.out (by decide))); have n2_ := (bgA_ BK367 hg (Kd.S_ne HO_372001.out BK367.out (by decide))); have n3_ := (bgA_ BK371 hg (Kd.S_ne HO_372001.out BK371.out (by decide))); have n4_ := (bgA_ BK373 hg (Kd.S_away HO_372001.out (fun _ hk => hk.1))); have n5_ := Aside0.mk (hb); have n6_ := Aside0.mk (ho); clear HO_372000 BK366 BK367 BK371 BK373 HB HO_372001 HO376; have HO_372000 := n0_; have BK366 := n1_; have BK367 := n2_; have BK371 := n3_; have BK373 := n4_; have HB := n5_; have HO379 := n6_; clear n0_ n1_ n2_ n3_ n4_ n5_ n6_ ho hb hg hat
       obtain ⟨Ao29, co29, eo29⟩ := Kd.S_slice HO379.out
       (first | subst eo29 | (injection eo29 with f1_ f2_ f3_; have f4_ := f1_.symm; have f5_ := f3_.symm; clear f1_ f2_ f3_; subst f4_; subst f5_))
       refine hK.out _ _ ⟨bc_ BK371 0, bc_ BK371 1, bc_ BK373 0, bc_ BK373 1⟩ (fun hHeld => ?_)
       clear hK K; refine nm_ 26 ?_; refine pu_ (i := 10) (N := some 27) HT_ ?_
       refine last_ (i := 11) (N := none) #[true, true, true, true, true, true, true, true, true, true, true, true] rfl rfl (one_of HT_.out (by kernel_rfl)) (by decide) (fun K hK => ?_)
       have hs30 : w28.cell? ⟨gb371, 1, none⟩ = some (u372001) := bc_ BK371 1
       have hfs30 := blk_frozen BK371.out 1
       have hns30_0 := NB366_371.out; have hns30_1 := NB367_371.out; have hns30_3 := NB373_371.out; have hms30_0 := NB371_366.out; have hms30_1 := NB371_367.out; have hms30_3 := NB371_373.out
       refine skip_ (w1 := ?_) (by rfl) rfl ?_ ?_
       rotate_left
       ·go_simp
        rfl
       refine hK.out _ _ ?_
       clear hK K
       refine done_ (done_of HT_.out (by kernel_rfl)) ?_
       try go_wp2
       go_roundg k1
       case measure => have := HK1.out; omega
       case rel => exact ⟨(wrap64 (x13_1 + 1)), (y377), (.slice Ao29 y377.length co29), (by first | rfl | (simp; done) | (simp [*]; done)), H', ⟨by have := HK1.out; omega⟩, ⟨by refine kR_ ?_; exact Kd.R_mono (Kd.R_f gb371 1 (.slice Ao29 y377.length co29) (Kd.R_types HO_372000.out BK371.out (by decide))) (fun _ hk => trivial)⟩, ⟨by refine kS_ ?_; exact Kd.S_mono (Kd.S_far (p := ⟨gb371, 1, none⟩) (Kd.S_types HO379.out BK371.out (by decide)) (fun _ hk => hk.2) (.slice Ao29 y377.length co29)) (fun _ hk => trivial)⟩, ⟨by exact kf_ BK366.out⟩, ⟨by exact kf_ BK367.out⟩, ⟨by refine kb_ ?_; refine blk_put (cs := #[.slice Ao8 t368.length co8, u372001]) ?_ 1 _ rfl; refine kb_ ?_; exact BK371.out⟩, ⟨hbA_ HB.out⟩⟩
      ·rw [if_neg c18] at H
       exact absurd H (by simp)
     ·rw [if_neg c16] at H
      exact absurd H (by simp)
    ·rw [if_neg c15] at H
     exact absurd H (by simp)
   ·rw [if_neg c14] at H
    have c14b0 : decide (x13_1 < (l0_1.length : Int)) = false := decide_eq_false c14
    clear c14
    simp only [Option.some.injEq, Prod.mk.injEq] at H
    obtain ⟨rfl, rfl⟩ := H
    have hnb31 := NB371_366.out; have hnc31 := NB366_371.out; have hnb32 := NB371_367.out; have hnc32 := NB367_371.out; have Z33 := zz2 BK371
    obtain ⟨Ao34, co34, eo34⟩ := Kd.S_slice HO_372001.out
    subst eo34
    have hq35 := (Kd.S_reads' HO_372001.out).2.1
    have hr35 := Aside0.mk (Kd.S_clip HO_372001.out (Nat.le_refl _) hq35)
    clear HO_372001; have HO381 := hr35; clear hr35
    go_wp2_with (first | (go_at_call 52; (with_reducible refine (impl_NearHeld_52.calls _ _ _ _ hq35).mono ?_); rintro e w' ⟨rfl, rfl⟩; have hnb36 := NB367_366.out; have hnc36 := NB366_367.out; have Z37 := zz2 BK367))
    refine bodyPost_ret (results_cell_row rfl _ _ gb367 26 #[.slice Ao8 t368.length co8, .slice Ao34 x372001_1.length x372001_1.length] (0, 0) _ rfl (by refine kb_ ?_; refine pz2 (cs := #[.slice none 0 0, .slice none 0 0]) ?_; exact kf_ BK367.out) Try.underlying26 rfl (by kernel_rfl)) rfl ?_
    exact ⟨_, _, by first | rfl | (simp [errW_none, errW_some] <;> rfl) | (simp [*, errW_none, errW_some] <;> rfl), by refine kR_ ?_; exact rfm_ ((Kd.R_far (p := ⟨gb371, 1, none⟩) (Kd.R_types (Kd.R_types HO_372000.out BK371.out (by decide)) BK367.out (by decide)) (fun _ hk => hk.1.2) (.slice Ao34 x372001_1.length x372001_1.length))) (fun _ hk => trivial), by refine kS_ ?_; exact Kd.S_mono (Kd.S_far (p := ⟨gb367, 1, none⟩) (Kd.S_far (p := ⟨gb367, 0, none⟩) (Kd.S_far (p := ⟨gb371, 1, none⟩) (Kd.S_types (Kd.S_types HO381.out BK371.out (by decide)) BK367.out (by decide)) (fun _ hk => hk.1.2) (.slice Ao34 x372001_1.length x372001_1.length)) (fun _ hk => hk.2) (.slice Ao8 t368.length co8)) (fun _ hk => hk.2) (.slice Ao34 x372001_1.length x372001_1.length)) (fun _ hk => trivial), hbA_ HB.out⟩
def impl_NearSend.j0 : Nat → Int → List Int → Int → Bool → List (S60) → List (S36) → Option ((List (S60)) × (List (S36)) × Int)
 | 0, _, _, _, _, _, _ => none
 | k + 1, x1, x2, x3, x29, x383000, x383001 => if x29 = true then (some (([] : List (S60)), ([] : List (S36)), (-1))) else ((impl_Near_find.f x383000 x383001 x1 x3).bind fun t387 => (if t387 ≥ 0 then ((impl_Near_copy.f k x383000 x383001).bind fun bt388 => (some (bt388.1, bt388.2, t387))) else ((impl_Near_copy.f k x383000 x383001).bind fun bt394 => (if bt394.2.length < 4398046511104 then ((some (bt394.2 ++ [(⟨x1, x2⟩ : S36)] : List (S36))).bind fun y401 => (if 0 ≤ (mx 0 (wrap64 ((y401.length : Int) - 4))) then (if (mx 0 (wrap64 ((y401.length : Int) - 4))) ≤ (y401.length : Int) then ((impl_Near_copy.f k bt394.1 (y401.drop ((mx 0 (wrap64 ((y401.length : Int) - 4))) : Int).toNat)).bind fun bt409 => (some (bt409.1, bt409.2, (-1)))) else (none)) else (none))) else (none)))))
def impl_NearSend.f (k : Nat) (l0_0 : List (S60)) (l0_1 : List (S36)) (a1 : Int) (l2 : List Int) (a3 : Int) : Option ((List (S60)) × (List (S36)) × Int) := (impl_NearOk.f k l0_0 l0_1).bind fun t384 => (if t384 = true then ((impl_word.f a1).bind fun t385 => (if t385 = true then (if (l2.length : Int) > 64 then (impl_NearSend.j0 k a1 l2 a3 true l0_0 l0_1) else ((impl_in.f a3 0 999980).bind fun t386 => (impl_NearSend.j0 k a1 l2 a3 (!t386) l0_0 l0_1))) else (impl_NearSend.j0 k a1 l2 a3 true l0_0 l0_1))) else (impl_NearSend.j0 k a1 l2 a3 true l0_0 l0_1))
theorem impl_NearSend.mono_l : ∀ k, (∀ y0 y1 y2 y3 y4 y5, LeO (impl_NearSend.j0 k y0 y1 y2 y3 y4 y5) (impl_NearSend.j0 (k + 1) y0 y1 y2 y3 y4 y5))
 | 0 => fun _ _ _ _ _ _ r h => by simp [impl_NearSend.j0] at h
 | k + 1 => by
  have ih0 := impl_NearSend.mono_l k
  ·intro y0 y1 y2 y3 y4 y5
   unfold impl_NearSend.j0
   repeat' first | (with_reducible first | apply ih0 | apply impl_NearOk.mono | apply impl_Near_copy.mono | exact LeO.refl _ | exact LeO.none _ | refine LeO.ite ?_ ?_ | refine LeO.bind ?_ fun _ => ?_) | apply ih0 | apply impl_NearOk.mono | apply impl_Near_copy.mono | exact LeO.none _ | refine LeO.ite ?_ ?_ | refine LeO.bind ?_ fun _ => ?_
theorem impl_NearSend.mono : ∀ a0 a1 a2 a3 a4 k, LeO (impl_NearSend.f k a0 a1 a2 a3 a4) (impl_NearSend.f (k + 1) a0 a1 a2 a3 a4) := by
 intro a0 a1 a2 a3 a4 k
 have ih0 := impl_NearSend.mono_l k
 unfold impl_NearSend.f
 repeat' first | (with_reducible first | apply ih0 | apply impl_NearOk.mono | apply impl_Near_copy.mono | exact LeO.refl _ | exact LeO.none _ | refine LeO.ite ?_ ?_ | refine LeO.bind ?_ fun _ => ?_) | apply ih0 | apply impl_NearOk.mono | apply impl_Near_copy.mono | exact LeO.none _ | refine LeO.ite ?_ ?_ | refine LeO.bind ?_ fun _ => ?_
set_option maxHeartbeats 8000000 in
set_option maxRecDepth 100000 in
theorem impl_NearSend.calls (k : Nat) (A0_0 : Option Addr) (c0_0 : Nat) (l0_0 : List (S60)) (A0_1 : Option Addr) (c0_1 : Nat) (l0_1 : List (S36)) (a1 : Int) (P2_ : Nat → Prop) (A2 : Option Addr) (c2 : Nat) (l2 : List Int) (a3 : Int) (r1 : List (S60)) (r2 : List (S36)) (r3 : Int) (w : World) (hr0_0 : Kd.C k60 w A0_0 l0_0.length l0_0) (hc0_0 : l0_0.length ≤ c0_0) (hr0_1 : Kd.C k36 w A0_1 l0_1.length l0_1) (hc0_1 : l0_1.length ≤ c0_1) (hs2 : Kd.V (Kd.int .u8) 5 w w.heap.size (fun k_ => P2_ k_) (.slice A2 l2.length c2) l2) (h : impl_NearSend.f k l0_0 l0_1 a1 l2 a3 = some (r1, r2, r3)) :
  Calls Try.prog 6 #[.agg #[.slice A0_0 l0_0.length c0_0, .slice A0_1 l0_1.length c0_1], .int .i64 a1, .slice A2 l2.length c2, .int .i64 a3] w fun e w' => ∃ v0_ v1_ : Value, e = .returned (.tuple #[.agg #[v0_, v1_], .int .i64 r3]) ∧ Kd.R k60 60 w' w.heap.size (fun k_ => (w.heap.size ≤ k_)) v0_ r1 ∧ Kd.N k36 36 w' w.heap.size (fun k_ => (P2_ k_ ∨ w.heap.size ≤ k_) ∧ some k_ ≠ (v0_ : Value).ownBlock) v1_ r2 ∧ Below w.heap.size w w' := by
 have hu26 := Try.underlying26; have hu36 := Try.underlying36; have HR0_0 := Aside0.mk hr0_0; have HC0_0 := Aside0.mk hc0_0; clear hr0_0 hc0_0; have HR0_1 := Aside0.mk hr0_1; have HC0_1 := Aside0.mk hc0_1; clear hr0_1 hc0_1
 have HO2 := Aside0.mk (show Kd.V (Kd.int .u8) 5 w w.heap.size (fun k_ => (P2_ k_ ∨ w.heap.size ≤ k_)) (.slice A2 l2.length c2) l2 from Kd.V_mono hs2 (fun k_ hk => .inl hk))
 have HB := Aside0.mk (Below.refl w.heap.size w)
 have H : ((impl_NearOk.f k l0_0 l0_1).bind fun t384 => (if t384 = true then ((impl_word.f a1).bind fun t385 => (if t385 = true then (if (l2.length : Int) > 64 then (impl_NearSend.j0 k a1 l2 a3 true l0_0 l0_1) else ((impl_in.f a3 0 999980).bind fun t386 => (impl_NearSend.j0 k a1 l2 a3 (!t386) l0_0 l0_1))) else (impl_NearSend.j0 k a1 l2 a3 true l0_0 l0_1))) else (impl_NearSend.j0 k a1 l2 a3 true l0_0 l0_1))) = some (r1, r2, r3) := h
 clear h; have HC5 := Aside0.mk H; clear H
 go_enter Try.func6, Try.ntmps6
 go_upto_region 1 with (first | ((with_reducible refine gate_dst (N := 4) rfl ?_); (try (refine gate_guard (by rfl) ?_; dsimp only)); refine box_ (N := 4) (cs := #[.slice A0_0 l0_0.length c0_0, .slice A0_1 l0_1.length c0_1]) (t := 26) (fun gb382 hg w6 hbox hb => ?_); replace HO2 := Aside0.mk (Kd.V_below (Kd.V_elderB (kV_ HO2.out) gb382 (Nat.le_of_eq hg.symm)) hb); have BK382 := Aside0.mk (hbox); have GW382 := ge_ hg HB; have GE382 := ge_ hg HB; replace HB := (bs_ HB hb); clear hb hbox hg) | ((with_reducible refine gate_dst (N := 8) rfl ?_); (try (refine gate_guard (by rfl) ?_; dsimp only)); refine box_ (N := 8) (cs := #[.slice none 0 0, .slice none 0 0]) (t := 26) (fun gb383 hg w7 hbox hb => ?_); replace HO2 := Aside0.mk (Kd.V_below (Kd.V_elderB (kV_ HO2.out) gb383 (Nat.le_of_eq hg.symm)) hb); have BK383 := Aside0.mk (hbox); have GW383 := ge_ hg HB; have GE383 := ge_ hg HB; replace HB := (bs_ HB hb); have NB382_383 := nl_ hg BK382; have NB383_382 := ng_ hg BK382; replace BK382 := (bbA_ BK382 hb); clear hb hbox hg))
 (try simp only [Act.put, List.setIfInBounds_toArray, List.set_cons_zero, List.set_cons_succ])
 go_cut [29] (fun v29 wc => ∃ (kq : Nat) (x29_4 : Bool), v29 = .bool x29_4 ∧ Aside0 (impl_NearSend.j0 kq a1 l2 a3 x29_4 l0_0 l0_1 = some (r1, r2, r3)) ∧ Aside0 (kq ≤ k) ∧ Aside0 (Kd.V (Kd.int .u8) 5 wc w.heap.size (fun k_ => (P2_ k_ ∨ w.heap.size ≤ k_) ∧ k_ ≠ gb382 ∧ k_ ≠ gb383) (.slice A2 l2.length c2) l2) ∧ Aside0 (wc.heap[gb382]? = some (.cells #[(.slice A0_0 l0_0.length c0_0), (.slice A0_1 l0_1.length c0_1)] 26 (0, 0))) ∧ Aside0 (wc.heap[gb383]? = some (.cells #[(.slice none 0 0), (.slice none 0 0)] 26 (0, 0))) ∧ Aside0 (Below w.heap.size w wc))
 case first =>
  have H := HC5.out; clear HC5
  replace H := Option.bind_eq_some_iff.mp H
  obtain ⟨t384, A80, H⟩ := H
  (try dsimp only at H)
  have A8 := Aside0.mk A80; clear A80
  by_cases c9 : t384 = true
  ·subst c9
   rw [if_pos rfl] at H
   replace H := Option.bind_eq_some_iff.mp H
   obtain ⟨t385, A100, H⟩ := H
   (try dsimp only at H)
   have A10 := Aside0.mk A100; clear A100
   by_cases c11 : t385 = true
   ·subst c11
    rw [if_pos rfl] at H
    by_cases c12 : (l2.length : Int) > 64
    ·rw [if_pos c12] at H
     have c12b0 : decide (64 < (l2.length : Int)) = true := decide_eq_true c12
     have c12b1 : decide (64 < l2.length) = true := decide_eq_true (by omega)
     clear c12
     (first | rw [c12b0] | (simp only [i64_w, i32_w]; rw [c12b0]) | skip)
     have H' := Aside0.mk H
     clear H; have hnb13 := NB382_383.out; have hnc13 := NB383_382.out; have Z14 := zz2 BK382
     go_wp2_with (first | ((with_reducible refine gate_callee (f := 9) rfl ?_); refine goesL_ (some 13) rfl rfl Try.func9 (by kernel_rfl) rfl #[.agg #[.slice A0_0 l0_0.length c0_0, .slice A0_1 l0_1.length c0_1]] rfl ar_ ?_; (with_reducible refine (impl_NearOk.calls k _ _ l0_0 _ _ l0_1 true _ ?side1 ?side2 ?side3 ?side4 A8.out).mono ?_); (case side1 => exact kC_ (Kd.C_below HR0_0.out HB.out)); (case side2 => exact HC0_0.out); (case side3 => exact kC_ (Kd.C_below HR0_1.out HB.out)); (case side4 => exact HC0_1.out); rintro e w15 ⟨rfl, hb⟩; refine ⟨_, rfl, ?_⟩; replace HO2 := Aside0.mk (Kd.V_below (kV_ HO2.out) hb); replace BK382 := (bbA_ BK382 hb); replace BK383 := (bbA_ BK383 hb); replace HB := (bs_ HB hb); (try clear hb); (try clear hb2); (try clear hk); (try clear hi)) | (go_at_call 25; (with_reducible refine (impl_word.calls a1 true _ A10.out).mono ?_); rintro e w' ⟨rfl, ⟨nd, rfl⟩⟩))
     go_meet
     case rel => exact ⟨_, (true), (by first | rfl | (simp; done) | (simp [*]; done)), H', ⟨by first | omega | exact Nat.le_refl _⟩, ⟨by refine kV_ ?_; exact Kd.V_mono HO2.out (fun _ hk => ⟨hk.1.1, ⟨hk.1.2, hk.2⟩⟩)⟩, ⟨by refine kb_ ?_; exact BK382.out⟩, ⟨by refine kb_ ?_; exact BK383.out⟩, ⟨hbA_ HB.out⟩⟩
    ·rw [if_neg c12] at H
     have c12b0 : decide (64 < (l2.length : Int)) = false := decide_eq_false c12
     have c12b1 : decide (64 < l2.length) = false := decide_eq_false (by omega)
     clear c12
     (first | rw [c12b0] | (simp only [i64_w, i32_w]; rw [c12b0]) | skip)
     replace H := Option.bind_eq_some_iff.mp H
     obtain ⟨t386, A160, H⟩ := H
     (try dsimp only at H)
     have A16 := Aside0.mk A160; clear A160
     have H' := Aside0.mk H
     clear H; have hnb17 := NB382_383.out; have hnc17 := NB383_382.out; have Z18 := zz2 BK382
     go_wp2_with (first | ((with_reducible refine gate_callee (f := 9) rfl ?_); refine goesL_ (some 13) rfl rfl Try.func9 (by kernel_rfl) rfl #[.agg #[.slice A0_0 l0_0.length c0_0, .slice A0_1 l0_1.length c0_1]] rfl ar_ ?_; (with_reducible refine (impl_NearOk.calls k _ _ l0_0 _ _ l0_1 true _ ?side1 ?side2 ?side3 ?side4 A8.out).mono ?_); (case side1 => exact kC_ (Kd.C_below HR0_0.out HB.out)); (case side2 => exact HC0_0.out); (case side3 => exact kC_ (Kd.C_below HR0_1.out HB.out)); (case side4 => exact HC0_1.out); rintro e w19 ⟨rfl, hb⟩; refine ⟨_, rfl, ?_⟩; replace HO2 := Aside0.mk (Kd.V_below (kV_ HO2.out) hb); replace BK382 := (bbA_ BK382 hb); replace BK383 := (bbA_ BK383 hb); replace HB := (bs_ HB hb); (try clear hb); (try clear hb2); (try clear hk); (try clear hi)) | (go_at_call 25; (with_reducible refine (impl_word.calls a1 true _ A10.out).mono ?_); rintro e w' ⟨rfl, ⟨nd, rfl⟩⟩) | (go_at_call 26; (with_reducible refine (impl_in.calls a3 0 999980 t386 _ A16.out).mono ?_); rintro e w' ⟨rfl, ⟨nd, rfl⟩⟩))
     go_meet
     case rel => exact ⟨_, (!t386), (by first | rfl | (simp; done) | (simp [*]; done)), H', ⟨by first | omega | exact Nat.le_refl _⟩, ⟨by refine kV_ ?_; exact Kd.V_mono HO2.out (fun _ hk => ⟨hk.1.1, ⟨hk.1.2, hk.2⟩⟩)⟩, ⟨by refine kb_ ?_; exact BK382.out⟩, ⟨by refine kb_ ?_; exact BK383.out⟩, ⟨hbA_ HB.out⟩⟩
   ·replace c11 := Bool.eq_false_iff.mpr c11
    subst c11
    rw [if_neg (show ¬ (false = true) by decide)] at H
    have H' := Aside0.mk H
    clear H; have hnb20 := NB382_383.out; have hnc20 := NB383_382.out; have Z21 := zz2 BK382
    go_wp2_with (first | ((with_reducible refine gate_callee (f := 9) rfl ?_); refine goesL_ (some 13) rfl rfl Try.func9 (by kernel_rfl) rfl #[.agg #[.slice A0_0 l0_0.length c0_0, .slice A0_1 l0_1.length c0_1]] rfl ar_ ?_; (with_reducible refine (impl_NearOk.calls k _ _ l0_0 _ _ l0_1 true _ ?side1 ?side2 ?side3 ?side4 A8.out).mono ?_); (case side1 => exact kC_ (Kd.C_below HR0_0.out HB.out)); (case side2 => exact HC0_0.out); (case side3 => exact kC_ (Kd.C_below HR0_1.out HB.out)); (case side4 => exact HC0_1.out); rintro e w22 ⟨rfl, hb⟩; refine ⟨_, rfl, ?_⟩; replace HO2 := Aside0.mk (Kd.V_below (kV_ HO2.out) hb); replace BK382 := (bbA_ BK382 hb); replace BK383 := (bbA_ BK383 hb); replace HB := (bs_ HB hb); (try clear hb); (try clear hb2); (try clear hk); (try clear hi)) | (go_at_call 25; (with_reducible refine (impl_word.calls a1 false _ A10.out).mono ?_); rintro e w' ⟨rfl, ⟨nd, rfl⟩⟩))
    go_meet
    case rel => exact ⟨_, (true), (by first | rfl | (simp; done) | (simp [*]; done)), H', ⟨by first | omega | exact Nat.le_refl _⟩, ⟨by refine kV_ ?_; exact Kd.V_mono HO2.out (fun _ hk => ⟨hk.1.1, ⟨hk.1.2, hk.2⟩⟩)⟩, ⟨by refine kb_ ?_; exact BK382.out⟩, ⟨by refine kb_ ?_; exact BK383.out⟩, ⟨hbA_ HB.out⟩⟩
  ·replace c9 := Bool.eq_false_iff.mpr c9
   subst c9
   rw [if_neg (show ¬ (false = true) by decide)] at H
   have H' := Aside0.mk H
   clear H; have hnb23 := NB382_383.out; have hnc23 := NB383_382.out; have Z24 := zz2 BK382
   go_wp2_with (first | ((with_reducible refine gate_callee (f := 9) rfl ?_); refine goesL_ (some 13) rfl rfl Try.func9 (by kernel_rfl) rfl #[.agg #[.slice A0_0 l0_0.length c0_0, .slice A0_1 l0_1.length c0_1]] rfl ar_ ?_; (with_reducible refine (impl_NearOk.calls k _ _ l0_0 _ _ l0_1 false _ ?side1 ?side2 ?side3 ?side4 A8.out).mono ?_); (case side1 => exact kC_ (Kd.C_below HR0_0.out HB.out)); (case side2 => exact HC0_0.out); (case side3 => exact kC_ (Kd.C_below HR0_1.out HB.out)); (case side4 => exact HC0_1.out); rintro e w25 ⟨rfl, hb⟩; refine ⟨_, rfl, ?_⟩; replace HO2 := Aside0.mk (Kd.V_below (kV_ HO2.out) hb); replace BK382 := (bbA_ BK382 hb); replace BK383 := (bbA_ BK383 hb); replace HB := (bs_ HB hb); (try clear hb); (try clear hb2); (try clear hk); (try clear hi)))
   go_meet
   case rel => exact ⟨_, (true), (by first | rfl | (simp; done) | (simp [*]; done)), H', ⟨by first | omega | exact Nat.le_refl _⟩, ⟨by refine kV_ ?_; exact Kd.V_mono HO2.out (fun _ hk => ⟨hk.1.1, ⟨hk.1.2, hk.2⟩⟩)⟩, ⟨by refine kb_ ?_; exact BK382.out⟩, ⟨by refine kb_ ?_; exact BK383.out⟩, ⟨hbA_ HB.out⟩⟩
 case rest =>
  clear HC5; (try clear c1); (try clear c2); (try clear p2); (try clear c6); (try clear c9); (try clear c11); (try clear c12); (try clear c12b0); (try clear c12b1); (try clear c13); (try clear c17); (try clear c20); (try clear c23); (try clear Z14); (try clear Z18); (try clear Z21); (try clear Z24)
  obtain ⟨kq, x29_4, rfl, HA, HJ4, HO_2, BK382, BK383, HB⟩ := hcut
  cases kq with
  | zero => exact absurd HA.out (by simp [impl_NearSend.j0])
  | succ kj4 =>
   have H := HA.out; clear HA
   simp only [impl_NearSend.j0] at H
   by_cases c26 : x29_4 = true
   ·subst c26
    rw [if_pos rfl] at H
    simp only [Option.some.injEq, Prod.mk.injEq] at H
    obtain ⟨rfl, rfl, rfl⟩ := H
    have hnb27 := NB383_382.out; have hnc27 := NB382_383.out; have Z28 := zz2 BK383
    go_wp2
    refine bodyPost_ret (results_ct rfl _ _ gb383 26 #[.slice none 0 0, .slice none 0 0] (0, 0) _ rfl (by refine kb_ ?_; refine pz2 (cs := #[.slice none 0 0, .slice none 0 0]) ?_; refine kb_ ?_; exact BK383.out) Try.underlying26 rfl (by kernel_rfl)) rfl ?_
    exact ⟨_, _, by first | rfl | (simp [errW_none, errW_some] <;> rfl) | (simp [*, errW_none, errW_some] <;> rfl), by first | exact Kd.R_nil _ _ _ _ _ | exact Kd.N_nil _ _ _ _ _ | exact Kd.V_nil _ _ _ _ _ | exact Kd.Q_nil _ _ _ _ _ | exact Kd.S_nil _ _ _ _ _, by first | exact Kd.S_nil _ _ _ _ _ | exact Kd.N_nil _ _ _ _ _ | exact Kd.V_nil _ _ _ _ _ | exact Kd.Q_nil _ _ _ _ _ | exact Kd.R_nil _ _ _ _ _, hbA_ HB.out⟩
   ·replace c26 := Bool.eq_false_iff.mpr c26
    subst c26
    rw [if_neg (show ¬ (false = true) by decide)] at H
    replace H := Option.bind_eq_some_iff.mp H
    obtain ⟨t387, A290, H⟩ := H
    (try dsimp only at H)
    have A29 := Aside0.mk A290; clear A290
    by_cases c30 : t387 ≥ 0
    ·rw [if_pos c30] at H
     have c30b0 : decide (0 ≤ t387) = true := decide_eq_true c30
     clear c30
     replace H := Option.bind_eq_some_iff.mp H
     obtain ⟨⟨t388, t391⟩, A310, H⟩ := H
     (try dsimp only at H)
     have A31 := Aside0.mk A310; clear A310
     simp only [Option.some.injEq, Prod.mk.injEq] at H
     obtain ⟨rfl, rfl, rfl⟩ := H
     have hnb32 := NB382_383.out; have hnc32 := NB383_382.out; have Z33 := zz2 BK382
     go_wp2_with (first | ((with_reducible refine gate_callee (f := 27) rfl ?_); refine goesL_ (some 34) rfl rfl Try.func27 (by kernel_rfl) rfl #[.agg #[.slice A0_0 l0_0.length c0_0, .slice A0_1 l0_1.length c0_1], .int .i64 a1, .int .i64 a3] rfl ar_ ?_; (with_reducible refine (impl_Near_find.calls _ _ l0_0 _ _ l0_1 a1 a3 t387 _ ?side1 ?side2 ?side3 ?side4 A29.out).mono ?_); (case side1 => exact kC_ (Kd.C_below HR0_0.out HB.out)); (case side2 => exact HC0_0.out); (case side3 => exact kC_ (Kd.C_below HR0_1.out HB.out)); (case side4 => exact HC0_1.out); rintro e w34 ⟨rfl, hb⟩; refine ⟨_, rfl, ?_⟩; replace HO_2 := Aside0.mk (Kd.V_below (kV_ HO_2.out) hb); replace BK382 := (bbA_ BK382 hb); replace BK383 := (bbA_ BK383 hb); replace HB := (bs_ HB hb); (try clear hb); (try clear hb2); (try clear hk); (try clear hi); have Z35 := zz2 BK382) | ((with_reducible refine gate_callee (f := 28) rfl ?_); refine goesL_ (some 38) rfl rfl Try.func28 (by kernel_rfl) rfl #[.agg #[.slice A0_0 l0_0.length c0_0, .slice A0_1 l0_1.length c0_1]] rfl ar_ ?_; (with_reducible refine (impl_Near_copy.calls kj4 _ _ l0_0 _ _ l0_1 t388 t391 _ ?side1 ?side2 ?side3 ?side4 A31.out).mono ?_); (case side1 => exact kC_ (Kd.C_below HR0_0.out HB.out)); (case side2 => exact HC0_0.out); (case side3 => exact kC_ (Kd.C_below HR0_1.out HB.out)); (case side4 => exact HC0_1.out); rintro e w36 ⟨v389, v392, rfl, ho0, ho1, hb⟩; refine ⟨_, rfl, ?_⟩; replace HO_2 := Aside0.mk (Kd.V_mono (Kd.V_told (Kd.V_told (Kd.V_old (kV_ HO_2.out) hb) (Kd.R_base ho0)) (Kd.base_ ho1)) (fun _ h_ => op1_ h_)); have HO390 := Aside0.mk (Kd.R_lower (Kd.R_newM (M := fun k_ => (w.heap.size ≤ k_)) ho0 (below_size (hbA_ HB.out)) (fun k_ h_ => h_)) (below_size (hbA_ HB.out))); have HO393 := Aside0.mk (Kd.N_lower (Kd.N_mono (ok' := fun k_ => (P2_ k_ ∨ w.heap.size ≤ k_) ∧ some k_ ≠ (v389 : Value).ownBlock ∧ k_ ≠ gb382 ∧ k_ ≠ gb383) (Kd.S_N (Kd.S_bound (Kd.S_apart' ho1 (Kd.R_typed ho0) (by decide)))) (fun k_ hk_ => ⟨(.inr (Nat.le_trans (below_size (hbA_ HB.out)) hk_.2.1)), hk_.1.2, (fb_ BK382 k_ hk_.2.1), (fb_ BK383 k_ hk_.2.1)⟩)) (below_size (hbA_ HB.out))); replace BK382 := (bbA_ BK382 hb); replace BK383 := (bbA_ BK383 hb); replace HB := (bs_ HB hb); (try clear hb); (try clear hb2); (try clear hk); (try clear hi); (try clear ho0); (try clear ho1); obtain ⟨Ao37, co37, eo37⟩ := Kd.R_slice HO390.out; subst eo37; have Z38 := zz2 BK383; obtain ⟨Ao39, co39, eo39⟩ := Kd.N_slice HO393.out; subst eo39))
     refine bodyPost_ret (results_ct rfl _ _ gb383 26 #[.slice Ao37 t388.length co37, .slice Ao39 t391.length co39] (0, 0) _ rfl (by refine kb_ ?_; refine pz2 (cs := #[.slice none 0 0, .slice none 0 0]) ?_; refine kb_ ?_; exact BK383.out) Try.underlying26 rfl (by kernel_rfl)) rfl ?_
     exact ⟨_, _, by first | rfl | (simp [errW_none, errW_some] <;> rfl) | (simp [*, errW_none, errW_some] <;> rfl), by refine kR_ ?_; exact rfm_ ((Kd.R_types HO390.out BK383.out (by decide))) (fun _ hk => hk.1.1), by refine kN_ ?_; exact nfN_ gb383 HO393.out (fun _ hk => hk.2.2.2) (fun _ hk => ⟨hk.1.1, hk.1.2.1⟩), hbA_ HB.out⟩
    ·rw [if_neg c30] at H
     have c30b0 : decide (0 ≤ t387) = false := decide_eq_false c30
     clear c30
     replace H := Option.bind_eq_some_iff.mp H
     obtain ⟨⟨t394, t397⟩, A400, H⟩ := H
     (try dsimp only at H)
     have A40 := Aside0.mk A400; clear A400
     by_cases c41 : t397.length < 4398046511104
     ·rw [if_pos c41] at H
      have LMc41 := Aside0.mk c41; clear c41
      obtain ⟨y401, hy401⟩ : ∃ y_ : List (S36), y_ = (t397 ++ [(⟨a1, l2⟩ : S36)]) := ⟨_, rfl⟩
      (first | replace H := sb_ hy401 H | rw [← hy401] at H)
      have Ny401 := Aside0.mk hy401; clear hy401
      obtain ⟨ji42, hji42⟩ : ∃ j_ : Int, (mx 0 (wrap64 ((y401.length : Int) - 4))) = j_ := ⟨_, rfl⟩
      (first | rw [hji42] at H | simp only [hji42] at H)
      (try rw [hji42] at A29)
      (try rw [hji42] at A40)
      (try (have hji42l : 0 ≤ ji42 := by (rw [← hji42]; unfold mx; (repeat' split) <;> omega)))
      (try (have hji42m : 0 ≤ ji42 := by omega))
      have hji42_ : (if 0 < (wrap64 ((y401.length : Int) - 4)) then (wrap64 ((y401.length : Int) - 4)) else 0) = ji42 := hji42
      by_cases c43 : 0 ≤ (ji42)
      ·rw [if_pos c43] at H
       have c43b0 := eq_true c43
       have c43b1 : decide (0 ≤ (ji42)) = true := decide_eq_true c43
       clear c43
       by_cases c44 : (ji42) ≤ (y401.length : Int)
       ·rw [if_pos c44] at H
        have c44b0 := eq_true c44
        have c44b1 : decide ((ji42) ≤ (y401.length : Int)) = true := decide_eq_true c44
        clear c44
        obtain ⟨y404, hy404⟩ : ∃ y_ : List (S36), y_ = (y401.drop ((ji42) : Int).toNat) := ⟨_, rfl⟩
        (first | replace H := sb_ hy404 H | rw [← hy404] at H)
        have Ny404 := Aside0.mk hy404; clear hy404
        replace H := Option.bind_eq_some_iff.mp H
        obtain ⟨⟨t409, t412⟩, A450, H⟩ := H
        (try dsimp only at H)
        have A45 := Aside0.mk A450; clear A450
        simp only [Option.some.injEq, Prod.mk.injEq] at H
        obtain ⟨rfl, rfl, rfl⟩ := H
        have hnb46 := NB382_383.out; have hnc46 := NB383_382.out; have Z47 := zz2 BK382
        go_wp2_with (first | ((with_reducible refine gate_callee (f := 27) rfl ?_); refine goesL_ (some 34) rfl rfl Try.func27 (by kernel_rfl) rfl #[.agg #[.slice A0_0 l0_0.length c0_0, .slice A0_1 l0_1.length c0_1], .int .i64 a1, .int .i64 a3] rfl ar_ ?_; (with_reducible refine (impl_Near_find.calls _ _ l0_0 _ _ l0_1 a1 a3 t387 _ ?side1 ?side2 ?side3 ?side4 A29.out).mono ?_); (case side1 => exact kC_ (Kd.C_below HR0_0.out HB.out)); (case side2 => exact HC0_0.out); (case side3 => exact kC_ (Kd.C_below HR0_1.out HB.out)); (case side4 => exact HC0_1.out); rintro e w48 ⟨rfl, hb⟩; refine ⟨_, rfl, ?_⟩; replace HO_2 := Aside0.mk (Kd.V_below (kV_ HO_2.out) hb); replace BK382 := (bbA_ BK382 hb); replace BK383 := (bbA_ BK383 hb); replace HB := (bs_ HB hb); (try clear hb); (try clear hb2); (try clear hk); (try clear hi); have Z49 := zz2 BK382) | ((with_reducible refine gate_callee (f := 28) rfl ?_); refine goesL_ (some 41) rfl rfl Try.func28 (by kernel_rfl) rfl #[.agg #[.slice A0_0 l0_0.length c0_0, .slice A0_1 l0_1.length c0_1]] rfl ar_ ?_; (with_reducible refine (impl_Near_copy.calls kj4 _ _ l0_0 _ _ l0_1 t394 t397 _ ?side1 ?side2 ?side3 ?side4 A40.out).mono ?_); (case side1 => exact kC_ (Kd.C_below HR0_0.out HB.out)); (case side2 => exact HC0_0.out); (case side3 => exact kC_ (Kd.C_below HR0_1.out HB.out)); (case side4 => exact HC0_1.out); rintro e w50 ⟨v395, v398, rfl, ho0, ho1, hb⟩; refine ⟨_, rfl, ?_⟩; replace HO_2 := Aside0.mk (Kd.V_mono (Kd.V_told (Kd.V_told (Kd.V_old (kV_ HO_2.out) hb) (Kd.R_base ho0)) (Kd.base_ ho1)) (fun _ h_ => op1_ h_)); have HO396 := Aside0.mk (Kd.R_lower (Kd.R_newM (M := fun k_ => (w.heap.size ≤ k_)) ho0 (below_size (hbA_ HB.out)) (fun k_ h_ => h_)) (below_size (hbA_ HB.out))); have HO399 := Aside0.mk (Kd.N_lower (Kd.N_mono (ok' := fun k_ => (P2_ k_ ∨ w.heap.size ≤ k_) ∧ some k_ ≠ (v395 : Value).ownBlock ∧ k_ ≠ gb382 ∧ k_ ≠ gb383) (Kd.S_N (Kd.S_bound (Kd.S_apart' ho1 (Kd.R_typed ho0) (by decide)))) (fun k_ hk_ => ⟨(.inr (Nat.le_trans (below_size (hbA_ HB.out)) hk_.2.1)), hk_.1.2, (fb_ BK382 k_ hk_.2.1), (fb_ BK383 k_ hk_.2.1)⟩)) (below_size (hbA_ HB.out))); replace BK382 := (bbA_ BK382 hb); replace BK383 := (bbA_ BK383 hb); replace HB := (bs_ HB hb); (try clear hb); (try clear hb2); (try clear hk); (try clear hi); (try clear ho0); (try clear ho1)) | ((with_reducible refine gate_dst (N := 11) rfl ?_); (try (refine gate_guard (by rfl) ?_; dsimp only)); refine box_ (N := 11) (cs := #[.slice none 0 0, .slice none 0 0]) (t := 26) (fun gb400 hg w51 hbox hb => ?_); replace HO_2 := Aside0.mk (Kd.V_below (Kd.V_elderB (kV_ HO_2.out) gb400 (Nat.le_of_eq hg.symm)) hb); replace HO396 := Aside0.mk (Kd.R_below (kR_ HO396.out) hb); replace HO399 := Aside0.mk (Kd.N_below (Kd.N_elderB (kN_ HO399.out) gb400 (Nat.le_of_eq hg.symm)) hb); have BK400 := Aside0.mk (hbox); have GW400 := ge_ hg HB; have GE400 := ge_ hg HB; replace HB := (bs_ HB hb); have NB382_400 := nl_ hg BK382; have NB400_382 := ng_ hg BK382; replace BK382 := (bbA_ BK382 hb); have NB383_400 := nl_ hg BK383; have NB400_383 := ng_ hg BK383; replace BK383 := (bbA_ BK383 hb); clear hb hbox hg; obtain ⟨Ao52, co52, eo52⟩ := Kd.R_slice HO396.out; subst eo52; have hnb53 := NB400_382.out; have hnc53 := NB382_400.out; have hnb54 := NB400_383.out; have hnc54 := NB383_400.out; have Z55 := zz2 BK400; obtain ⟨Ao56, co56, eo56⟩ := Kd.N_slice HO399.out; subst eo56) | ((with_reducible refine gate_store (t := 26) (p := 11) rfl ?_); refine store_event (t := 26) (p := 11) (v := ?vo_w57) (w1 := ((w51.setCell ⟨gb400, 0, none⟩ (.slice Ao52 t394.length co52)).setCell ⟨gb400, 1, none⟩ (.slice Ao56 t397.length co56))) ?hg ?ho ?hn ?hr ?_; (case ho => rfl); (case hg => rfl); (case hn => rfl); (case hr => first | (go_simp; done) | (go_simp; rfl)); intro w57 hw; have n0_ : Aside0 (Kd.V (Kd.int .u8) 5 w57 w.heap.size (fun k_ => (P2_ k_ ∨ w.heap.size ≤ k_) ∧ some k_ ≠ (.slice Ao52 t394.length co52 : Value).ownBlock ∧ some k_ ≠ (.slice Ao56 t397.length co56 : Value).ownBlock ∧ k_ ≠ gb382 ∧ k_ ≠ gb383 ∧ k_ ≠ gb400) (.slice A2 l2.length c2) l2) := ⟨(by rw [hw]; exact (by refine kV_ ?_; exact nfV_ gb400 HO_2.out (fun _ hk => hk.2) (fun _ hk => ⟨hk.1.1.1.1.1, ⟨hk.1.1.1.2, ⟨hk.1.1.2, ⟨hk.1.1.1.1.2.1, ⟨hk.1.1.1.1.2.2, hk.1.2⟩⟩⟩⟩⟩)))⟩; have n1_ : Aside0 (Kd.R k60 60 w57 w.heap.size (fun k_ => (w.heap.size ≤ k_)) (.slice Ao52 t394.length co52) t394) := ⟨(by rw [hw]; exact (by refine kR_ ?_; exact rfm_ ((Kd.R_types HO396.out BK400.out (by decide))) (fun _ hk => hk.1.1)))⟩; have n2_ : Aside0 (Kd.N k36 36 w57 w.heap.size (fun k_ => (P2_ k_ ∨ w.heap.size ≤ k_) ∧ some k_ ≠ (.slice Ao52 t394.length co52 : Value).ownBlock ∧ k_ ≠ gb382 ∧ k_ ≠ gb383 ∧ k_ ≠ gb400) (.slice Ao56 t397.length co56) t397) := ⟨(by rw [hw]; exact (by refine kN_ ?_; exact nfN_ gb400 HO399.out (fun _ hk => hk.2) (fun _ hk => ⟨hk.1.1.1, ⟨hk.1.1.2.1, ⟨hk.1.1.2.2.1, ⟨hk.1.1.2.2.2, hk.1.2⟩⟩⟩⟩)))⟩; have n3_ : Aside0 (w57.heap[gb382]? = some (.cells #[.slice A0_0 l0_0.length c0_0, .slice A0_1 l0_1.length c0_1] 26 (0, 0))) := ⟨(by rw [hw]; exact (by exact kf_ BK382.out))⟩; have n4_ : Aside0 (w57.heap[gb383]? = some (.cells #[.slice none 0 0, .slice none 0 0] 26 (0, 0))) := ⟨(by rw [hw]; exact (by exact kf_ BK383.out))⟩; have n5_ : Aside0 (w57.heap[gb400]? = some (.cells #[.slice Ao52 t394.length co52, .slice Ao56 t397.length co56] 26 (0, 0))) := ⟨(by rw [hw]; exact (by refine kb_ ?_; refine pz2 (cs := #[.slice none 0 0, .slice none 0 0]) ?_; refine kb_ ?_; exact BK400.out))⟩; have n6_ : Aside0 (Below w.heap.size w w57) := ⟨(by rw [hw]; exact (hbA_ HB.out))⟩; clear hw; clear HO_2; clear HO396; clear HO399; clear BK382; clear BK383; clear BK400; clear HB; have HO_2 := n0_; have HO396 := n1_; have HO399 := n2_; have BK382 := n3_; have BK383 := n4_; have BK400 := n5_; have HB := n6_; clear n0_ n1_ n2_ n3_ n4_ n5_ n6_; have Z58 := zz2 BK400) | ((with_reducible refine gate_builtin (b := .append) (xs := #[.tmp 43, .tmp 47]) rfl ?_); (try (refine gate_guard (by rfl) ?_; dsimp only)); at_builtin; refine Kd.N_append k36 (w0 := w) w.heap.size rfl (.tmp 43) (.tmp 47) 24 36 (.agg #[(.int .i64 0), (.slice none 0 0)]) 32 rfl Try.underlying24 info36 rfl (by decide) (by omega) (.slice Ao56 t397.length co56) t397 (⟨a1, l2⟩ : S36) [.int .i64 a1, .slice A2 l2.length c2] (fun k_ => (P2_ k_ ∨ w.heap.size ≤ k_) ∧ some k_ ≠ (.slice Ao52 t394.length co52 : Value).ownBlock ∧ k_ ≠ gb382 ∧ k_ ≠ gb383 ∧ k_ ≠ gb400) (fun k_ => ((fun k_ => (P2_ k_ ∨ w.heap.size ≤ k_) ∧ some k_ ≠ (.slice Ao52 t394.length co52 : Value).ownBlock ∧ k_ ≠ gb382 ∧ k_ ≠ gb383 ∧ k_ ≠ gb400)) k_ ∧ some k_ ≠ (.slice Ao56 t397.length co56 : Value).ownBlock) rfl rfl ?aP (fun _ hk => hk) ?aF ?aO ?aB ?aS ?aL ?_; (case aP => exact (k36_mkF _ _ (⟨a1, l2⟩ : S36) (Kd.V_reads' (Kd.V_mono (ok' := (fun k_ => ((fun k_ => (P2_ k_ ∨ w.heap.size ≤ k_) ∧ some k_ ≠ (.slice Ao52 t394.length co52 : Value).ownBlock ∧ k_ ≠ gb382 ∧ k_ ≠ gb383 ∧ k_ ≠ gb400)) k_ ∧ some k_ ≠ (.slice Ao56 t397.length co56 : Value).ownBlock)) (HO_2.out) (fun k_ hk => ⟨⟨hk.1, ⟨hk.2.1, ⟨hk.2.2.2.1, ⟨hk.2.2.2.2.1, hk.2.2.2.2.2⟩⟩⟩⟩, hk.2.2.1⟩))).2.1 (Kd.V_F (Kd.V_mono (ok' := (fun k_ => ((fun k_ => (P2_ k_ ∨ w.heap.size ≤ k_) ∧ some k_ ≠ (.slice Ao52 t394.length co52 : Value).ownBlock ∧ k_ ≠ gb382 ∧ k_ ≠ gb383 ∧ k_ ≠ gb400)) k_ ∧ some k_ ≠ (.slice Ao56 t397.length co56 : Value).ownBlock)) (HO_2.out) (fun k_ hk => ⟨⟨hk.1, ⟨hk.2.1, ⟨hk.2.2.2.1, ⟨hk.2.2.2.2.1, hk.2.2.2.2.2⟩⟩⟩⟩, hk.2.2.1⟩))))); (case aB => exact (hbA_ HB.out)); (case aF => exact (fun k_ hk => ⟨(.inr (Nat.le_trans (below_size (hbA_ HB.out)) hk)), Kd.fresh' (Kd.R_lt (kR_ HO396.out)) k_ hk, fb_ BK382 k_ hk, fb_ BK383 k_ hk, fb_ BK400 k_ hk⟩)); (case aO => exact (kN_ HO399.out)); (case aS => exact (below_size (hbA_ HB.out))); (case aL => have := LMc41.out; omega); intro v402 w59 ho hb hg hat; rw [← Ny401.out] at ho; replace HO_2 := Aside0.mk (Kd.V_afterv (ok := (fun k_ => (P2_ k_ ∨ w.heap.size ≤ k_) ∧ some k_ ≠ (.slice Ao52 t394.length co52 : Value).ownBlock ∧ k_ ≠ gb382 ∧ k_ ≠ gb383 ∧ k_ ≠ gb400)) (by refine kV_ ?_; exact Kd.V_mono HO_2.out (fun _ hk => ⟨⟨hk.1, ⟨hk.2.1, ⟨hk.2.2.2.1, ⟨hk.2.2.2.2.1, hk.2.2.2.2.2⟩⟩⟩⟩, hk.2.2.1⟩)) hg hat); replace BK382 := (bgA_ BK382 hg (Kd.N_ne HO399.out BK382.out (by decide))); replace BK383 := (bgA_ BK383 hg (Kd.N_ne HO399.out BK383.out (by decide))); replace HO396 := Aside0.mk (Kd.R_over' (kR_ HO396.out) (Kd.N_typed (kN_ HO399.out)) (by decide) hg); replace BK400 := (bgA_ BK400 hg (Kd.N_ne HO399.out BK400.out (by decide))); replace HB := Aside0.mk (hb); have HO403 := Aside0.mk (ho); clear HO399; clear ho hb hg hat; obtain ⟨Ao60, co60, eo60⟩ := Kd.N_slice HO403.out; subst eo60; have Z61 := zz2 BK400) | ((with_reducible refine gate_store (t := 24) (p := 49) rfl ?_); refine store_event (t := 24) (p := 49) (v := ?vo_w62) (w1 := (w59.setCell ⟨gb400, 1, none⟩ (.slice Ao60 y401.length co60))) ?hg ?ho ?hn ?hr ?_; (case ho => rfl); (case hg => rfl); (case hn => rfl); (case hr => first | (go_simp; done) | (go_simp; rfl)); intro w62 hw; have n0_ : Aside0 (Kd.V (Kd.int .u8) 5 w62 w.heap.size (fun k_ => (P2_ k_ ∨ w.heap.size ≤ k_) ∧ some k_ ≠ (.slice Ao52 t394.length co52 : Value).ownBlock ∧ some k_ ≠ (.slice Ao60 y401.length co60 : Value).ownBlock ∧ k_ ≠ gb382 ∧ k_ ≠ gb383 ∧ k_ ≠ gb400) (.slice A2 l2.length c2) l2) := ⟨(by rw [hw]; exact (by refine kV_ ?_; exact nfV_ gb400 HO_2.out (fun _ hk => hk.1.2.2.2.2) (fun _ hk => ⟨hk.1.1.1, ⟨hk.1.1.2.1, ⟨hk.1.2, ⟨hk.1.1.2.2.1, ⟨hk.1.1.2.2.2.1, hk.1.1.2.2.2.2⟩⟩⟩⟩⟩)))⟩; have n1_ : Aside0 (Kd.R k60 60 w62 w.heap.size (fun k_ => (w.heap.size ≤ k_)) (.slice Ao52 t394.length co52) t394) := ⟨(by rw [hw]; exact (by refine kR_ ?_; exact Kd.R_mono (Kd.R_f gb400 1 (.slice Ao60 y401.length co60) (Kd.R_types HO396.out BK400.out (by decide))) (fun _ hk => hk.1)))⟩; have n2_ : Aside0 (Kd.N k36 36 w62 w.heap.size (fun k_ => (P2_ k_ ∨ w.heap.size ≤ k_) ∧ some k_ ≠ (.slice Ao52 t394.length co52 : Value).ownBlock ∧ k_ ≠ gb382 ∧ k_ ≠ gb383 ∧ k_ ≠ gb400) (.slice Ao60 y401.length co60) y401) := ⟨(by rw [hw]; exact (by refine kN_ ?_; exact nfN_ gb400 HO403.out (fun _ hk => hk.2.2.2.2) (fun _ hk => ⟨hk.1.1, ⟨hk.1.2.1, ⟨hk.1.2.2.1, ⟨hk.1.2.2.2.1, hk.1.2.2.2.2⟩⟩⟩⟩)))⟩; have n3_ : Aside0 (w62.heap[gb382]? = some (.cells #[.slice A0_0 l0_0.length c0_0, .slice A0_1 l0_1.length c0_1] 26 (0, 0))) := ⟨(by rw [hw]; exact (by exact kf_ BK382.out))⟩; have n4_ : Aside0 (w62.heap[gb383]? = some (.cells #[.slice none 0 0, .slice none 0 0] 26 (0, 0))) := ⟨(by rw [hw]; exact (by exact kf_ BK383.out))⟩; have n5_ : Aside0 (w62.heap[gb400]? = some (.cells #[.slice Ao52 t394.length co52, .slice Ao60 y401.length co60] 26 (0, 0))) := ⟨(by rw [hw]; exact (by refine kb_ ?_; refine blk_put (cs := #[.slice Ao52 t394.length co52, .slice Ao56 t397.length co56]) ?_ 1 _ rfl; refine kb_ ?_; exact BK400.out))⟩; have n6_ : Aside0 (Below w.heap.size w w62) := ⟨(by rw [hw]; exact (hbA_ HB.out))⟩; clear hw; clear HO_2; clear HO396; clear HO403; clear BK382; clear BK383; clear BK400; clear HB; have HO_2 := n0_; have HO396 := n1_; have HO403 := n2_; have BK382 := n3_; have BK383 := n4_; have BK400 := n5_; have HB := n6_; clear n0_ n1_ n2_ n3_ n4_ n5_ n6_; have Z63 := zz2 BK400; have q64 : ((ji42) : Int) ≤ ((y401.length : Int) : Int) := of_decide_eq_true (by first | (with_reducible assumption) | assumption); obtain ⟨i064, hi064, _, hsz64, _⟩ := info_parts info36; have hroom64 : y401.length ≤ co60 := (Kd.N_reads' HO403.out).2.1; have hC64 : Kd.F k36 _ _ Ao60 y401.length y401 := (Kd.V_at (base := w.heap.size) (Kd.N_V HO403.out)).2.2; have q064 : (0 : Int) ≤ ((ji42) : Int) := of_decide_eq_true (by first | (with_reducible assumption) | assumption); have hcut64 := cut_from (P := Try.prog) 24 36 .i64 Try.underlying24 hi064 2 hsz64 Ao60 y401.length co60 (ji42) q064 q64; have hr64 := Kd.F_cut (m := ((ji42) : Int).toNat) (c := co60) hC64 (by omega) hroom64; obtain ⟨A64, hA64⟩ : ∃ A1, A1 = (if co60 = ((ji42) : Int).toNat then Ao60 else (Ao60 : Option Addr).map (·.add (((ji42) : Int).toNat * 2))) := ⟨_, rfl⟩; obtain ⟨c64, hc64⟩ : ∃ c1, c1 = co60 - ((ji42) : Int).toNat := ⟨_, rfl⟩; have hy64 : y404.length = y401.length - ((ji42) : Int).toNat := (by rw [Ny404.out, List.length_drop] <;> omega); rw [show (y401).drop ((ji42) : Int).toNat = y404 from Ny404.out.symm] at hr64; replace hr64 : Kd.F k36 _ _ A64 y404.length y404 := (by rw [hA64]; exact hr64); rw [← hy64, ← hA64, ← hc64] at hcut64; have HO408 := Aside0.mk (show Kd.V k36 36 _ w.heap.size _ (.slice A64 y404.length c64) y404 from Kd.V_mk (by rw [hy64, hc64]; exact Nat.sub_le_sub_right hroom64 _) hr64); have HC408 := Aside0.mk (show y404.length ≤ c64 from by rw [hy64, hc64]; exact Nat.sub_le_sub_right hroom64 _); clear hr64 hC64 hroom64 hi064 hsz64 hc64; have KY64 := Aside0.mk hy64; have KA64 := Aside0.mk hA64; clear hy64 hA64; replace q64 := eq_true q64) | ((with_reducible refine gate_callee (f := 28) rfl ?_); refine goesL_ (some 60) rfl rfl Try.func28 (by kernel_rfl) rfl #[.agg #[.slice Ao52 t394.length co52, .slice A64 y404.length c64]] rfl ar_ ?_; (with_reducible refine (impl_Near_copy.calls kj4 _ _ t394 _ _ y404 t409 t412 _ ?side1 ?side2 ?side3 ?side4 A45.out).mono ?_); (case side1 => refine (Kd.R_reads' (e := 60) (base := w.heap.size) (ok := fun k_ => (w.heap.size ≤ k_)) (n := t394.length) (c := co52) ?_).2.2; exact (by refine kR_ ?_; exact (Kd.R_mono (Kd.R_f gb400 1 (.slice A64 y404.length c64) (Kd.R_types HO396.out BK400.out (by decide))) (fun _ h_ => op1_ h_)))); (case side2 => exact (Kd.R_reads' HO396.out).2.1); (case side3 => refine (Kd.V_reads' (e := 36) (base := w.heap.size) (ok := fun k_ => ((P2_ k_ ∨ w.heap.size ≤ k_) ∧ (some k_ ≠ (.slice Ao52 t394.length co52 : Value).ownBlock ∧ (k_ ≠ gb382 ∧ (k_ ≠ gb383 ∧ k_ ≠ gb400))))) (n := y404.length) (c := c64) ?_).2.2; exact (by refine kV_ ?_; exact (nfV_ gb400 HO408.out (fun _ hk => hk.2.2.2.2) (fun _ h_ => op1_ h_)))); (case side4 => exact (Kd.V_reads' HO408.out).2.1); rintro e w65 ⟨v410, v413, rfl, ho0, ho1, hb⟩; refine ⟨_, rfl, ?_⟩; replace HO_2 := Aside0.mk (Kd.V_mono (Kd.V_told (Kd.V_told (Kd.V_old (by refine kV_ ?_; exact (nfV_ gb400 HO_2.out (fun _ hk => hk.2.2.2.2.2) (fun _ h_ => op1_ h_))) hb) (Kd.R_base ho0)) (Kd.base_ ho1)) (fun _ h_ => op1_ h_)); replace HO408 := Aside0.mk (Kd.V_mono (Kd.V_told (Kd.V_told (Kd.V_old (by refine kV_ ?_; exact (nfV_ gb400 HO408.out (fun _ hk => hk.2.2.2.2) (fun _ h_ => op1_ h_))) hb) (Kd.R_base ho0)) (Kd.base_ ho1)) (fun _ h_ => op1_ h_)); have HO411 := Aside0.mk (Kd.R_lower (Kd.R_new' (Kd.R_newM (M := fun k_ => (w.heap.size ≤ k_)) ho0 (below_size (hbA_ HB.out)) (fun k_ h_ => h_)) (Kd.R_lt (by refine kR_ ?_; exact (Kd.R_mono (Kd.R_f gb400 1 (.slice A64 y404.length c64) (Kd.R_types HO396.out BK400.out (by decide))) (fun _ h_ => op1_ h_))))) (below_size (hbA_ HB.out))); have HO414 := Aside0.mk (Kd.N_lower (Kd.N_mono (ok' := fun k_ => (P2_ k_ ∨ w.heap.size ≤ k_) ∧ some k_ ≠ (v410 : Value).ownBlock ∧ some k_ ≠ (.slice Ao52 t394.length co52 : Value).ownBlock ∧ some k_ ≠ (.slice Ao60 y401.length co60 : Value).ownBlock ∧ k_ ≠ gb382 ∧ k_ ≠ gb383 ∧ k_ ≠ gb400) (Kd.S_N (Kd.S_bound (Kd.S_apart' ho1 (Kd.R_typed ho0) (by decide)))) (fun k_ hk_ => ⟨(.inr (Nat.le_trans (below_size (hbA_ HB.out)) hk_.2.1)), hk_.1.2, (Kd.fresh' (Kd.R_lt (by refine kR_ ?_; exact (Kd.R_mono (Kd.R_f gb400 1 (.slice A64 y404.length c64) (Kd.R_types HO396.out BK400.out (by decide))) (fun _ h_ => op1_ h_)))) k_ hk_.2.1), (Kd.fresh' (Kd.N_lt (by refine kN_ ?_; exact (nfN_ gb400 HO403.out (fun _ hk => hk.2.2.2.2) (fun _ h_ => op1_ h_)))) k_ hk_.2.1), (Kd.freshB (g := gb382) (o := .cells #[.slice A0_0 l0_0.length c0_0, .slice A0_1 l0_1.length c0_1] 26 (0, 0)) (by exact kf_ BK382.out) k_ hk_.2.1), (Kd.freshB (g := gb383) (o := .cells #[.slice none 0 0, .slice none 0 0] 26 (0, 0)) (by exact kf_ BK383.out) k_ hk_.2.1), (Kd.freshB (g := gb400) (o := .cells #[.slice Ao52 t394.length co52, .slice A64 y404.length c64] 26 (0, 0)) (by refine kb_ ?_; refine blk_put (cs := #[.slice Ao52 t394.length co52, .slice Ao60 y401.length co60]) ?_ 1 _ rfl; refine kb_ ?_; exact BK400.out) k_ hk_.2.1)⟩)) (below_size (hbA_ HB.out))); replace HO396 := Aside0.mk (Kd.R_elder' (by refine kR_ ?_; exact (Kd.R_mono (Kd.R_f gb400 1 (.slice A64 y404.length c64) (Kd.R_types HO396.out BK400.out (by decide))) (fun _ h_ => op1_ h_))) (Kd.R_base ho0) hb); replace HO403 := Aside0.mk (Kd.N_mono (Kd.N_told (Kd.N_told (Kd.N_old (by refine kN_ ?_; exact (nfN_ gb400 HO403.out (fun _ hk => hk.2.2.2.2) (fun _ h_ => op1_ h_))) hb) (Kd.R_base ho0)) (Kd.base_ ho1)) (fun _ h_ => op1_ h_)); replace BK382 := Aside0.mk (blk_below (g := gb382) (o := .cells #[.slice A0_0 l0_0.length c0_0, .slice A0_1 l0_1.length c0_1] 26 (0, 0)) (by exact kf_ BK382.out) hb); replace BK383 := Aside0.mk (blk_below (g := gb383) (o := .cells #[.slice none 0 0, .slice none 0 0] 26 (0, 0)) (by exact kf_ BK383.out) hb); replace BK400 := Aside0.mk (blk_below (g := gb400) (o := .cells #[.slice Ao52 t394.length co52, .slice A64 y404.length c64] 26 (0, 0)) (by refine kb_ ?_; refine blk_put (cs := #[.slice Ao52 t394.length co52, .slice Ao60 y401.length co60]) ?_ 1 _ rfl; refine kb_ ?_; exact BK400.out) hb); replace HB := (bs_ HB hb); (try clear hb); (try clear hb2); (try clear hk); (try clear hi); (try clear ho0); (try clear ho1); obtain ⟨Ao66, co66, eo66⟩ := Kd.R_slice HO411.out; subst eo66; have Z67 := zz2 BK383; obtain ⟨Ao68, co68, eo68⟩ := Kd.N_slice HO414.out; subst eo68))
        refine bodyPost_ret (results_ct rfl _ _ gb383 26 #[.slice Ao66 t409.length co66, .slice Ao68 t412.length co68] (0, 0) _ rfl (by refine kb_ ?_; refine pz2 (cs := #[.slice none 0 0, .slice none 0 0]) ?_; refine kb_ ?_; exact BK383.out) Try.underlying26 rfl (by kernel_rfl)) rfl ?_
        exact ⟨_, _, by first | rfl | (simp [errW_none, errW_some] <;> rfl) | (simp only [← hji42]; first | rfl | (simp [errW_none, errW_some] <;> rfl)) | (simp [*, errW_none, errW_some] <;> rfl), by refine kR_ ?_; exact rfm_ ((Kd.R_types HO411.out BK383.out (by decide))) (fun _ hk => hk.1.1.1), by refine kN_ ?_; exact nfN_ gb383 HO414.out (fun _ hk => hk.2.2.2.2.2.1) (fun _ hk => ⟨hk.1.1, hk.1.2.1⟩), hbA_ HB.out⟩
       ·rw [if_neg c44] at H
        exact absurd H (by simp)
      ·rw [if_neg c43] at H
       exact absurd H (by simp)
     ·rw [if_neg c41] at H
      exact absurd H (by simp)
def laws_sameBytes.f (l0 : List Int) (l1 : List Int) : Option (Bool) := some ((strOfNums l0).toList == (strOfNums l1).toList)
set_option maxHeartbeats 8000000 in
set_option maxRecDepth 100000 in
theorem laws_sameBytes.calls (A0 : Option Addr) (c0 : Nat) (l0 : List Int) (A1 : Option Addr) (c1 : Nat) (l1 : List Int) (r : Bool) (w : World) (hr0 : Kd.C (Kd.int .u8) w A0 l0.length l0) (hc0 : l0.length ≤ c0) (hr1 : Kd.C (Kd.int .u8) w A1 l1.length l1) (hc1 : l1.length ≤ c1) (h : laws_sameBytes.f l0 l1 = some r) :
  Calls Try.prog 12 #[.slice A0 l0.length c0, .slice A1 l1.length c1] w fun e w' => e = .returned (.bool r) ∧ Drawn0 w w' := by
 have HR0 := Aside0.mk hr0; have HC0 := Aside0.mk hc0; clear hr0 hc0; have HR1 := Aside0.mk hr1; have HC1 := Aside0.mk hc1; clear hr1 hc1
 have H : (some ((strOfNums l0).toList == (strOfNums l1).toList)) = some r := h
 clear h
 obtain rfl := Option.some.inj H
 have hcv3 := Kd.C_string (P := Try.prog) (A := A0) (c := c0) Try.underlying22 Try.underlying5 Try.underlying9 HR0.out
 have hcv4 := Kd.C_string (P := Try.prog) (A := A1) (c := c1) Try.underlying22 Try.underlying5 Try.underlying9 HR1.out
 go_enter Try.func12, Try.ntmps12
 go_wp2
 go_ret
 exact ⟨by first | rfl | (simp; done) | (simp [*]; done), by repeat (first | exact Drawn0.refl _ | apply Drawn0.step)⟩
end Go.Proofs.Ytcbiljabpadaeaa.PFnNearSend
