/- Printed by wip/xp/xprint.sh out of the translation, for this claim: what each function answers, as a plain function, and that the machine does just that. No condition. -/
import Derived.Test.YtpbeljcgcdilnaaPFnExactSegmentFromx0
namespace Go.Proofs.Ytpbeljcgcdilnaa.PFnExactSegmentFrom
open Go.RowKit Go.Proofs.YtpbeljcgcdilnaaW.PrintWords Go.Proofs.YtpbeljcgcdilnaaW.PrintLast Go.Proofs.YtpbeljcgcdilnaaW.PrintMore
attribute [local go_sem] max2_int min2_int max_two min_two max_three min_three max_four min_four   -- for this text's walks alone
set_option linter.unusedVariables false
set_option linter.unusedSimpArgs false
def spec_l1In.f (a0 : Int) (a1 : Int) (a2 : Int) : Option (Bool) := if a0 ≥ a1 then (some (decide (a0 ≤ a2))) else (some false)
set_option maxHeartbeats 8000000 in
set_option maxRecDepth 100000 in
theorem spec_l1In.calls (a0 : Int) (a1 : Int) (a2 : Int) (r : Bool) (w : World) (h : spec_l1In.f a0 a1 a2 = some r) :
  Calls Try.prog 52 #[.int .i64 a0, .int .i64 a1, .int .i64 a2] w fun e w' => e = .returned (.bool r) ∧ Drawn0 w w' := by
 have H : (if a0 ≥ a1 then (some (decide (a0 ≤ a2))) else (some false)) = some r := h
 clear h
 by_cases c4 : a0 ≥ a1
 ·rw [if_pos c4] at H
  have c4b0 : decide (a1 ≤ a0) = true := decide_eq_true c4
  clear c4
  obtain rfl := Option.some.inj H
  go_enter Try.func52, Try.ntmps52
  go_wp2
  go_ret
  exact ⟨by first | rfl | (simp; done) | (simp [*]; done), by repeat (first | exact Drawn0.refl _ | apply Drawn0.step)⟩
 ·rw [if_neg c4] at H
  have c4b0 : decide (a1 ≤ a0) = false := decide_eq_false c4
  clear c4
  obtain rfl := Option.some.inj H
  go_enter Try.func52, Try.ntmps52
  go_wp2
  go_ret
  exact ⟨by first | rfl | (simp; done) | (simp [*]; done), by repeat (first | exact Drawn0.refl _ | apply Drawn0.step)⟩
mutual
def spec_NumberAt.j0 : Nat → List Int → Int → Int → Bool → Option (Int)
 | 0, _, _, _, _ => none
 | k + 1, x0, x1, x2, x20 => if x20 = true then (some (-1)) else (spec_NumberAt.l0 k x0 x1 x2 0 0)
def spec_NumberAt.l0 : Nat → List Int → Int → Int → Int → Int → Option (Int)
 | 0, _, _, _, _, _ => none
 | k + 1, x0, x1, x2, x7, x8 => if x8 < x2 then (if 0 ≤ (wrap64 (x1 + x8)) then (if (wrap64 (x1 + x8)) < (x0.length : Int) then (spec_NumberAt.l0 k x0 x1 x2 (wrap64 ((wrap64 (x7 * 256)) + (wrap64 (rd x0 (wrap64 (x1 + x8)))))) (wrap64 (x8 + 1))) else (none)) else (none)) else (some x7)
end
def spec_NumberAt.f (k : Nat) (l0 : List Int) (a1 : Int) (a2 : Int) : Option (Int) := (spec_l1In.f a2 1 4).bind fun t101 => (if t101 = true then ((spec_l1In.f a1 0 (wrap64 ((l0.length : Int) - a2))).bind fun t102 => (spec_NumberAt.j0 k l0 a1 a2 (!t102))) else (spec_NumberAt.j0 k l0 a1 a2 true))
theorem spec_NumberAt.mono_l : ∀ k, (∀ y0 y1 y2 y3, LeO (spec_NumberAt.j0 k y0 y1 y2 y3) (spec_NumberAt.j0 (k + 1) y0 y1 y2 y3)) ∧ (∀ y0 y1 y2 y3 y4, LeO (spec_NumberAt.l0 k y0 y1 y2 y3 y4) (spec_NumberAt.l0 (k + 1) y0 y1 y2 y3 y4))
 | 0 => ⟨fun _ _ _ _ r h => by simp [spec_NumberAt.j0] at h, fun _ _ _ _ _ r h => by simp [spec_NumberAt.l0] at h⟩
 | k + 1 => by
  obtain ⟨ih0, ih1⟩ := spec_NumberAt.mono_l k
  refine ⟨?_, ?_⟩
  ·intro y0 y1 y2 y3
   unfold spec_NumberAt.j0
   repeat' first | (with_reducible first | apply ih0 | apply ih1 | exact LeO.refl _ | exact LeO.none _ | refine LeO.ite ?_ ?_ | refine LeO.bind ?_ fun _ => ?_) | apply ih0 | apply ih1 | exact LeO.none _ | refine LeO.ite ?_ ?_ | refine LeO.bind ?_ fun _ => ?_
  ·intro y0 y1 y2 y3 y4
   unfold spec_NumberAt.l0
   repeat' first | (with_reducible first | apply ih0 | apply ih1 | exact LeO.refl _ | exact LeO.none _ | refine LeO.ite ?_ ?_ | refine LeO.bind ?_ fun _ => ?_) | apply ih0 | apply ih1 | exact LeO.none _ | refine LeO.ite ?_ ?_ | refine LeO.bind ?_ fun _ => ?_
theorem spec_NumberAt.mono : ∀ a0 a1 a2 k, LeO (spec_NumberAt.f k a0 a1 a2) (spec_NumberAt.f (k + 1) a0 a1 a2) := by
 intro a0 a1 a2 k
 obtain ⟨ih0, ih1⟩ := spec_NumberAt.mono_l k
 unfold spec_NumberAt.f
 repeat' first | (with_reducible first | apply ih0 | apply ih1 | exact LeO.refl _ | exact LeO.none _ | refine LeO.ite ?_ ?_ | refine LeO.bind ?_ fun _ => ?_) | apply ih0 | apply ih1 | exact LeO.none _ | refine LeO.ite ?_ ?_ | refine LeO.bind ?_ fun _ => ?_
set_option maxHeartbeats 8000000 in
set_option maxRecDepth 100000 in
theorem spec_NumberAt.calls (k : Nat) (A0 : Option Addr) (c0 : Nat) (l0 : List Int) (a1 : Int) (a2 : Int) (r : Int) (w : World) (hr0 : Kd.C (Kd.int .u8) w A0 l0.length l0) (hc0 : l0.length ≤ c0) (h : spec_NumberAt.f k l0 a1 a2 = some r) :
  Calls Try.prog 58 #[.slice A0 l0.length c0, .int .i64 a1, .int .i64 a2] w fun e w' => e = .returned (.int .i64 r) ∧ Drawn0 w w' := by
 have HR0 := Aside0.mk hr0; have HC0 := Aside0.mk hc0; clear hr0 hc0
 have H : ((spec_l1In.f a2 1 4).bind fun t101 => (if t101 = true then ((spec_l1In.f a1 0 (wrap64 ((l0.length : Int) - a2))).bind fun t102 => (spec_NumberAt.j0 k l0 a1 a2 (!t102))) else (spec_NumberAt.j0 k l0 a1 a2 true))) = some r := h
 clear h; have HC4 := Aside0.mk H; clear H
 go_enter Try.func58, Try.ntmps58
 go_upto_region 1 with (fail)
 go_cut [20] (fun v20 wc => ∃ (kq : Nat) (x20_3 : Bool), v20 = .bool x20_3 ∧ Aside0 (spec_NumberAt.j0 kq l0 a1 a2 x20_3 = some r) ∧ Aside0 (kq ≤ k) ∧ Drawn0 w wc)
 case first =>
  have H := HC4.out; clear HC4
  replace H := Option.bind_eq_some_iff.mp H
  obtain ⟨t101, A50, H⟩ := H
  (try dsimp only at H)
  have A5 := Aside0.mk A50; clear A50
  by_cases c6 : t101 = true
  ·subst c6
   rw [if_pos rfl] at H
   replace H := Option.bind_eq_some_iff.mp H
   obtain ⟨t102, A70, H⟩ := H
   (try dsimp only at H)
   have A7 := Aside0.mk A70; clear A70
   have H' := Aside0.mk H
   clear H
   go_wp2_with (first | ((with_reducible refine gate_callee (f := 52) rfl ?_); refine goesL_ (some 10) rfl rfl Try.func52 (by kernel_rfl) rfl #[.int .i64 a2, .int .i64 1, .int .i64 4] rfl ar_ ?_; (with_reducible refine (spec_l1In.calls a2 1 4 true _ A5.out).mono ?_); rintro e w' ⟨rfl, ⟨nd, rfl⟩⟩; refine ⟨_, rfl, ?_⟩) | (go_at_call 52; (with_reducible refine (spec_l1In.calls a1 0 (wrap64 ((l0.length : Int) - a2)) t102 _ A7.out).mono ?_); rintro e w' ⟨rfl, ⟨nd, rfl⟩⟩))
   go_meet
   case rel => exact ⟨_, (!t102), (by first | rfl | (simp; done) | (simp [*]; done)), H', ⟨by first | omega | exact Nat.le_refl _⟩, by repeat (first | exact Drawn0.refl _ | apply Drawn0.step)⟩
  ·replace c6 := Bool.eq_false_iff.mpr c6
   subst c6
   rw [if_neg (show ¬ (false = true) by decide)] at H
   have H' := Aside0.mk H
   clear H
   go_wp2_with (first | ((with_reducible refine gate_callee (f := 52) rfl ?_); refine goesL_ (some 10) rfl rfl Try.func52 (by kernel_rfl) rfl #[.int .i64 a2, .int .i64 1, .int .i64 4] rfl ar_ ?_; (with_reducible refine (spec_l1In.calls a2 1 4 false _ A5.out).mono ?_); rintro e w' ⟨rfl, ⟨nd, rfl⟩⟩; refine ⟨_, rfl, ?_⟩))
   go_meet
   case rel => exact ⟨_, (true), (by first | rfl | (simp; done) | (simp [*]; done)), H', ⟨by first | omega | exact Nat.le_refl _⟩, by repeat (first | exact Drawn0.refl _ | apply Drawn0.step)⟩
 case rest =>
  clear HC4; (try clear p2); (try clear c5); (try clear c6); (try clear p6)
  obtain ⟨kq, x20_3, rfl, HA, HJ3, ⟨mc3, rfl⟩⟩ := hcut
  cases kq with
  | zero => exact absurd HA.out (by simp [spec_NumberAt.j0])
  | succ kj3 =>
   have H := HA.out; clear HA
   simp only [spec_NumberAt.j0] at H
   by_cases c8 : x20_3 = true
   ·subst c8
    rw [if_pos rfl] at H
    obtain rfl := Option.some.inj H
    go_wp2
    go_ret
    exact ⟨by first | rfl | (simp; done) | (simp [*]; done), by repeat (first | exact Drawn0.refl _ | apply Drawn0.step)⟩
   ·replace c8 := Bool.eq_false_iff.mpr c8
    subst c8
    rw [if_neg (show ¬ (false = true) by decide)] at H
    have H' := Aside0.mk H
    clear H
    go_wp2
    go_loopg [7, 8] kj3 (fun kq v7 v8 w' => ∃ (x7_2 : Int) (x8_2 : Int), v7 = .int .i64 x7_2 ∧ v8 = .int .i64 x8_2 ∧ Aside0 (spec_NumberAt.l0 kq l0 a1 a2 x7_2 x8_2 = some r) ∧ Aside0 (kq ≤ kj3) ∧ Drawn0 w w')
    case atStart => exact ⟨(0), (0), (by first | rfl | (simp; done) | (simp [*]; done)), (by first | rfl | (simp; done) | (simp [*]; done)), H', ⟨Nat.le_refl _⟩, by repeat (first | exact Drawn0.refl _ | apply Drawn0.step)⟩
    case round =>
     clear H'; (try clear p2); (try clear c3); (try clear c5); (try clear c6); (try clear p6); (try clear c8); (try clear p2); (try clear p6)
     obtain ⟨x7_2, x8_2, rfl, rfl, HA, HK2, ⟨m2, rfl⟩⟩ := hrel
     cases gk with
     | zero => exact absurd HA.out (by simp [spec_NumberAt.l0])
     | succ k2 =>
      have H := HA.out; clear HA
      simp only [spec_NumberAt.l0] at H
      by_cases c9 : x8_2 < a2
      ·rw [if_pos c9] at H
       have c9b0 : decide (x8_2 < a2) = true := decide_eq_true c9
       clear c9
       obtain ⟨ji10, hji10⟩ : ∃ j_ : Int, (wrap64 (a1 + x8_2)) = j_ := ⟨_, rfl⟩
       (first | rw [hji10] at H | simp only [hji10] at H)
       have hji10w : (IntKind.i64.wrap (a1 + x8_2)) = ji10 := (i64_w _).trans hji10
       by_cases c11 : 0 ≤ (ji10)
       ·rw [if_pos c11] at H
        have c11b0 : decide (0 ≤ (ji10)) = true := decide_eq_true c11
        clear c11
        by_cases c12 : (ji10) < (l0.length : Int)
        ·rw [if_pos c12] at H
         have c12b0 : decide ((ji10) < (l0.length : Int)) = true := decide_eq_true c12
         clear c12
         have H' := Aside0.mk H
         clear H
         have p103 : 0 ≤ ((ji10) : Int) := of_decide_eq_true (by first | (with_reducible assumption) | assumption)
         have q103 : (ji10) < (l0.length : Int) := of_decide_eq_true (by first | (with_reducible assumption) | assumption)
         obtain ⟨ad103, e103, hx103_0⟩ := Kd.at_int HR0.out (ji10) p103 q103
         cases e103
         replace p103 := eq_true p103
         replace q103 := eq_true q103
         go_wp2
         go_roundg k2
         case measure => have := HJ3.out; have := HK2.out; omega
         case rel => exact ⟨(wrap64 ((wrap64 (x7_2 * 256)) + (wrap64 (rd l0 (ji10))))), (wrap64 (x8_2 + 1)), (by first | rfl | (simp; done) | (simp only [← hji10] <;> (first | rfl | simp)) | (simp [*]; done)), (by first | rfl | (simp; done) | (simp [*]; done)), H', ⟨by have := HJ3.out; have := HK2.out; omega⟩, by repeat (first | exact Drawn0.refl _ | apply Drawn0.step)⟩
        ·rw [if_neg c12] at H
         exact absurd H (by simp)
       ·rw [if_neg c11] at H
        exact absurd H (by simp)
      ·rw [if_neg c9] at H
       have c9b0 : decide (x8_2 < a2) = false := decide_eq_false c9
       clear c9
       obtain rfl := Option.some.inj H
       go_wp2
       go_ret
       exact ⟨by first | rfl | (simp; done) | (simp [*]; done), by repeat (first | exact Drawn0.refl _ | apply Drawn0.step)⟩
mutual
def spec_SegmentOk.j0 : Nat → Bool → Int → Int → Int → Int → Int → Bool → Bool → Bool → Bool → List (S90) → List Int → Option (Bool)
 | 0, _, _, _, _, _, _, _, _, _, _, _, _ => none
 | k + 1, x43, x105000, x105001, x105002, x105003, x105004, x105005, x105006, x105007, x105008, x105009, x105010 => if x43 = true then (some false) else (spec_SegmentOk.l0 k 0 x105000 x105001 x105002 x105003 x105004 x105005 x105006 x105007 x105008 x105009 x105010)
def spec_SegmentOk.l0 : Nat → Int → Int → Int → Int → Int → Int → Bool → Bool → Bool → Bool → List (S90) → List Int → Option (Bool)
 | 0, _, _, _, _, _, _, _, _, _, _, _, _ => none
 | k + 1, x3, x105000, x105001, x105002, x105003, x105004, x105005, x105006, x105007, x105008, x105009, x105010 => if x3 < (x105009.length : Int) then (if 0 ≤ x3 then ((spec_l1In.f ((rd_T90 x105009 x3).f0) 0 65535).bind fun t111 => (if t111 = true then ((spec_l1In.f ((rd_T90 x105009 x3).f1) 0 65535).bind fun t113 => (if t113 = true then (spec_SegmentOk.l0 k (wrap64 (x3 + 1)) x105000 x105001 x105002 x105003 x105004 x105005 x105006 x105007 x105008 x105009 x105010) else (some false))) else (some false))) else (none)) else (if x105006 = true then (spec_SegmentOk.j2 k false x105000 x105001 x105002 x105003 x105004 x105005 x105006 x105007 x105008 x105009 x105010) else (if x105003 = 0 then (if x105004 = 0 then (spec_SegmentOk.j2 k (decide ((x105009.length : Int) > 0)) x105000 x105001 x105002 x105003 x105004 x105005 x105006 x105007 x105008 x105009 x105010) else (spec_SegmentOk.j2 k true x105000 x105001 x105002 x105003 x105004 x105005 x105006 x105007 x105008 x105009 x105010)) else (spec_SegmentOk.j2 k true x105000 x105001 x105002 x105003 x105004 x105005 x105006 x105007 x105008 x105009 x105010)))
def spec_SegmentOk.j2 : Nat → Bool → Int → Int → Int → Int → Int → Bool → Bool → Bool → Bool → List (S90) → List Int → Option (Bool)
 | 0, _, _, _, _, _, _, _, _, _, _, _, _ => none
 | k + 1, x87, x105000, x105001, x105002, x105003, x105004, x105005, x105006, x105007, x105008, x105009, x105010 => if x87 = true then (some false) else (if x105008 = true then (if x105005 = true then (some false) else (if x105007 = true then (some false) else (some ((x105010.length : Int) == 0)))) else (some true))
end
def spec_SegmentOk.f (k : Nat) (a0_0 : Int) (a0_1 : Int) (a0_2 : Int) (a0_3 : Int) (a0_4 : Int) (a0_5 : Bool) (a0_6 : Bool) (a0_7 : Bool) (a0_8 : Bool) (l0_9 : List (S90)) (l0_10 : List Int) : Option (Bool) := (spec_l1In.f a0_0 1 255).bind fun t105 => (if t105 = true then ((spec_l1In.f a0_1 1 255).bind fun t106 => (if t106 = true then ((spec_l1In.f a0_2 0 65535).bind fun t107 => (if t107 = true then ((spec_l1In.f a0_3 0 65535).bind fun t108 => (if t108 = true then ((spec_l1In.f a0_4 0 255).bind fun t109 => (if t109 = true then (if (l0_9.length : Int) > 2 then (spec_SegmentOk.j0 k true a0_0 a0_1 a0_2 a0_3 a0_4 a0_5 a0_6 a0_7 a0_8 l0_9 l0_10) else (spec_SegmentOk.j0 k (decide ((l0_10.length : Int) > 12)) a0_0 a0_1 a0_2 a0_3 a0_4 a0_5 a0_6 a0_7 a0_8 l0_9 l0_10)) else (spec_SegmentOk.j0 k true a0_0 a0_1 a0_2 a0_3 a0_4 a0_5 a0_6 a0_7 a0_8 l0_9 l0_10))) else (spec_SegmentOk.j0 k true a0_0 a0_1 a0_2 a0_3 a0_4 a0_5 a0_6 a0_7 a0_8 l0_9 l0_10))) else (spec_SegmentOk.j0 k true a0_0 a0_1 a0_2 a0_3 a0_4 a0_5 a0_6 a0_7 a0_8 l0_9 l0_10))) else (spec_SegmentOk.j0 k true a0_0 a0_1 a0_2 a0_3 a0_4 a0_5 a0_6 a0_7 a0_8 l0_9 l0_10))) else (spec_SegmentOk.j0 k true a0_0 a0_1 a0_2 a0_3 a0_4 a0_5 a0_6 a0_7 a0_8 l0_9 l0_10))
theorem spec_SegmentOk.mono_l : ∀ k, (∀ y0 y1 y2 y3 y4 y5 y6 y7 y8 y9 y10 y11, LeO (spec_SegmentOk.j0 k y0 y1 y2 y3 y4 y5 y6 y7 y8 y9 y10 y11) (spec_SegmentOk.j0 (k + 1) y0 y1 y2 y3 y4 y5 y6 y7 y8 y9 y10 y11)) ∧ (∀ y0 y1 y2 y3 y4 y5 y6 y7 y8 y9 y10 y11, LeO (spec_SegmentOk.l0 k y0 y1 y2 y3 y4 y5 y6 y7 y8 y9 y10 y11) (spec_SegmentOk.l0 (k + 1) y0 y1 y2 y3 y4 y5 y6 y7 y8 y9 y10 y11)) ∧ (∀ y0 y1 y2 y3 y4 y5 y6 y7 y8 y9 y10 y11, LeO (spec_SegmentOk.j2 k y0 y1 y2 y3 y4 y5 y6 y7 y8 y9 y10 y11) (spec_SegmentOk.j2 (k + 1) y0 y1 y2 y3 y4 y5 y6 y7 y8 y9 y10 y11))
 | 0 => ⟨fun _ _ _ _ _ _ _ _ _ _ _ _ r h => by simp [spec_SegmentOk.j0] at h, fun _ _ _ _ _ _ _ _ _ _ _ _ r h => by simp [spec_SegmentOk.l0] at h, fun _ _ _ _ _ _ _ _ _ _ _ _ r h => by simp [spec_SegmentOk.j2] at h⟩
 | k + 1 => by
  obtain ⟨ih0, ih1, ih2⟩ := spec_SegmentOk.mono_l k
  refine ⟨?_, ?_, ?_⟩
  ·intro y0 y1 y2 y3 y4 y5 y6 y7 y8 y9 y10 y11
   unfold spec_SegmentOk.j0
   repeat' first | (with_reducible first | apply ih0 | apply ih1 | apply ih2 | exact LeO.refl _ | exact LeO.none _ | refine LeO.ite ?_ ?_ | refine LeO.bind ?_ fun _ => ?_) | apply ih0 | apply ih1 | apply ih2 | exact LeO.none _ | refine LeO.ite ?_ ?_ | refine LeO.bind ?_ fun _ => ?_
  ·intro y0 y1 y2 y3 y4 y5 y6 y7 y8 y9 y10 y11
   unfold spec_SegmentOk.l0
   repeat' first | (with_reducible first | apply ih0 | apply ih1 | apply ih2 | exact LeO.refl _ | exact LeO.none _ | refine LeO.ite ?_ ?_ | refine LeO.bind ?_ fun _ => ?_) | apply ih0 | apply ih1 | apply ih2 | exact LeO.none _ | refine LeO.ite ?_ ?_ | refine LeO.bind ?_ fun _ => ?_
  ·intro y0 y1 y2 y3 y4 y5 y6 y7 y8 y9 y10 y11
   unfold spec_SegmentOk.j2
   repeat' first | (with_reducible first | apply ih0 | apply ih1 | apply ih2 | exact LeO.refl _ | exact LeO.none _ | refine LeO.ite ?_ ?_ | refine LeO.bind ?_ fun _ => ?_) | apply ih0 | apply ih1 | apply ih2 | exact LeO.none _ | refine LeO.ite ?_ ?_ | refine LeO.bind ?_ fun _ => ?_
theorem spec_SegmentOk.mono : ∀ a0 a1 a2 a3 a4 a5 a6 a7 a8 a9 a10 k, LeO (spec_SegmentOk.f k a0 a1 a2 a3 a4 a5 a6 a7 a8 a9 a10) (spec_SegmentOk.f (k + 1) a0 a1 a2 a3 a4 a5 a6 a7 a8 a9 a10) := by
 intro a0 a1 a2 a3 a4 a5 a6 a7 a8 a9 a10 k
 obtain ⟨ih0, ih1, ih2⟩ := spec_SegmentOk.mono_l k
 unfold spec_SegmentOk.f
 repeat' first | (with_reducible first | apply ih0 | apply ih1 | apply ih2 | exact LeO.refl _ | exact LeO.none _ | refine LeO.ite ?_ ?_ | refine LeO.bind ?_ fun _ => ?_) | apply ih0 | apply ih1 | apply ih2 | exact LeO.none _ | refine LeO.ite ?_ ?_ | refine LeO.bind ?_ fun _ => ?_
set_option maxHeartbeats 8000000 in
set_option maxRecDepth 100000 in
theorem spec_SegmentOk.calls (k : Nat) (a0_0 : Int) (a0_1 : Int) (a0_2 : Int) (a0_3 : Int) (a0_4 : Int) (a0_5 : Bool) (a0_6 : Bool) (a0_7 : Bool) (a0_8 : Bool) (A0_9 : Option Addr) (c0_9 : Nat) (l0_9 : List (S90)) (A0_10 : Option Addr) (c0_10 : Nat) (l0_10 : List Int) (r : Bool) (w : World) (hr0_9 : Kd.C k90 w A0_9 l0_9.length l0_9) (hc0_9 : l0_9.length ≤ c0_9) (hr0_10 : Kd.C (Kd.int .u8) w A0_10 l0_10.length l0_10) (hc0_10 : l0_10.length ≤ c0_10) (h : spec_SegmentOk.f k a0_0 a0_1 a0_2 a0_3 a0_4 a0_5 a0_6 a0_7 a0_8 l0_9 l0_10 = some r) :
  Calls Try.prog 59 #[.agg #[.int .i64 a0_0, .int .i64 a0_1, .int .i64 a0_2, .int .i64 a0_3, .int .i64 a0_4, .bool a0_5, .bool a0_6, .bool a0_7, .bool a0_8, .slice A0_9 l0_9.length c0_9, .slice A0_10 l0_10.length c0_10]] w fun e w' => e = .returned (.bool r) ∧ Below w.heap.size w w' := by
 have hu52 := Try.underlying52; have HR0_9 := Aside0.mk hr0_9; have HC0_9 := Aside0.mk hc0_9; clear hr0_9 hc0_9; have HR0_10 := Aside0.mk hr0_10; have HC0_10 := Aside0.mk hc0_10; clear hr0_10 hc0_10
 have HB := Aside0.mk (Below.refl w.heap.size w)
 have H : ((spec_l1In.f a0_0 1 255).bind fun t105 => (if t105 = true then ((spec_l1In.f a0_1 1 255).bind fun t106 => (if t106 = true then ((spec_l1In.f a0_2 0 65535).bind fun t107 => (if t107 = true then ((spec_l1In.f a0_3 0 65535).bind fun t108 => (if t108 = true then ((spec_l1In.f a0_4 0 255).bind fun t109 => (if t109 = true then (if (l0_9.length : Int) > 2 then (spec_SegmentOk.j0 k true a0_0 a0_1 a0_2 a0_3 a0_4 a0_5 a0_6 a0_7 a0_8 l0_9 l0_10) else (spec_SegmentOk.j0 k (decide ((l0_10.length : Int) > 12)) a0_0 a0_1 a0_2 a0_3 a0_4 a0_5 a0_6 a0_7 a0_8 l0_9 l0_10)) else (spec_SegmentOk.j0 k true a0_0 a0_1 a0_2 a0_3 a0_4 a0_5 a0_6 a0_7 a0_8 l0_9 l0_10))) else (spec_SegmentOk.j0 k true a0_0 a0_1 a0_2 a0_3 a0_4 a0_5 a0_6 a0_7 a0_8 l0_9 l0_10))) else (spec_SegmentOk.j0 k true a0_0 a0_1 a0_2 a0_3 a0_4 a0_5 a0_6 a0_7 a0_8 l0_9 l0_10))) else (spec_SegmentOk.j0 k true a0_0 a0_1 a0_2 a0_3 a0_4 a0_5 a0_6 a0_7 a0_8 l0_9 l0_10))) else (spec_SegmentOk.j0 k true a0_0 a0_1 a0_2 a0_3 a0_4 a0_5 a0_6 a0_7 a0_8 l0_9 l0_10))) = some r := h
 clear h; have HC2 := Aside0.mk H; clear H
 go_enter Try.func59, Try.ntmps59
 go_upto_region 1 with (first | ((with_reducible refine gate_dst (N := 1) rfl ?_); (try (refine gate_guard (by rfl) ?_; dsimp only)); refine box_ (N := 1) (cs := #[.int .i64 a0_0, .int .i64 a0_1, .int .i64 a0_2, .int .i64 a0_3, .int .i64 a0_4, .bool a0_5, .bool a0_6, .bool a0_7, .bool a0_8, .slice A0_9 l0_9.length c0_9, .slice A0_10 l0_10.length c0_10]) (t := 52) (fun gb104 hg w3 hbox hb => ?_); have BK104 := Aside0.mk (hbox); have GW104 := ge_ hg HB; have GE104 := ge_ hg HB; replace HB := (bs_ HB hb); clear hb hbox hg))
 (try simp only [Act.put, List.setIfInBounds_toArray, List.set_cons_zero, List.set_cons_succ])
 go_cut [43] (fun v43 wc => ∃ (kq : Nat) (x43_1 : Bool), v43 = .bool x43_1 ∧ Aside0 (spec_SegmentOk.j0 kq x43_1 a0_0 a0_1 a0_2 a0_3 a0_4 a0_5 a0_6 a0_7 a0_8 l0_9 l0_10 = some r) ∧ Aside0 (kq ≤ k) ∧ Aside0 (wc.heap[gb104]? = some (.cells #[.int .i64 a0_0, .int .i64 a0_1, .int .i64 a0_2, .int .i64 a0_3, .int .i64 a0_4, .bool a0_5, .bool a0_6, .bool a0_7, .bool a0_8, (.slice A0_9 l0_9.length c0_9), (.slice A0_10 l0_10.length c0_10)] 52 (0, 0))) ∧ Aside0 (Below w.heap.size w wc))
 case first =>
  have H := HC2.out; clear HC2
  replace H := Option.bind_eq_some_iff.mp H
  obtain ⟨t105, A40, H⟩ := H
  (try dsimp only at H)
  have A4 := Aside0.mk A40; clear A40
  by_cases c5 : t105 = true
  ·subst c5
   rw [if_pos rfl] at H
   replace H := Option.bind_eq_some_iff.mp H
   obtain ⟨t106, A60, H⟩ := H
   (try dsimp only at H)
   have A6 := Aside0.mk A60; clear A60
   by_cases c7 : t106 = true
   ·subst c7
    rw [if_pos rfl] at H
    replace H := Option.bind_eq_some_iff.mp H
    obtain ⟨t107, A80, H⟩ := H
    (try dsimp only at H)
    have A8 := Aside0.mk A80; clear A80
    by_cases c9 : t107 = true
    ·subst c9
     rw [if_pos rfl] at H
     replace H := Option.bind_eq_some_iff.mp H
     obtain ⟨t108, A100, H⟩ := H
     (try dsimp only at H)
     have A10 := Aside0.mk A100; clear A100
     by_cases c11 : t108 = true
     ·subst c11
      rw [if_pos rfl] at H
      replace H := Option.bind_eq_some_iff.mp H
      obtain ⟨t109, A120, H⟩ := H
      (try dsimp only at H)
      have A12 := Aside0.mk A120; clear A120
      by_cases c13 : t109 = true
      ·subst c13
       rw [if_pos rfl] at H
       by_cases c14 : (l0_9.length : Int) > 2
       ·rw [if_pos c14] at H
        have c14b0 : decide (2 < (l0_9.length : Int)) = true := decide_eq_true c14
        have c14b1 : decide (2 < l0_9.length) = true := decide_eq_true (by omega)
        clear c14
        (first | rw [c14b0] | (simp only [i64_w, i32_w]; rw [c14b0]) | skip)
        have H' := Aside0.mk H
        clear H; have Z15 := zz11 BK104
        go_wp2_with (first | ((with_reducible refine gate_callee (f := 52) rfl ?_); refine goesL_ (some 6) rfl rfl Try.func52 (by kernel_rfl) rfl #[.int .i64 a0_0, .int .i64 1, .int .i64 255] rfl ar_ ?_; (with_reducible refine (spec_l1In.calls a0_0 1 255 true _ A4.out).mono ?_); rintro e w' ⟨rfl, ⟨nd, rfl⟩⟩; refine ⟨_, rfl, ?_⟩) | (go_at_call 52; (with_reducible refine (spec_l1In.calls a0_1 1 255 true _ A6.out).mono ?_); rintro e w' ⟨rfl, ⟨nd, rfl⟩⟩) | (go_at_call 52; (with_reducible refine (spec_l1In.calls a0_2 0 65535 true _ A8.out).mono ?_); rintro e w' ⟨rfl, ⟨nd, rfl⟩⟩) | (go_at_call 52; (with_reducible refine (spec_l1In.calls a0_3 0 65535 true _ A10.out).mono ?_); rintro e w' ⟨rfl, ⟨nd, rfl⟩⟩) | (go_at_call 52; (with_reducible refine (spec_l1In.calls a0_4 0 255 true _ A12.out).mono ?_); rintro e w' ⟨rfl, ⟨nd, rfl⟩⟩))
        go_meet
        case rel => exact ⟨_, (true), (by first | rfl | (simp; done) | (simp [*]; done)), H', ⟨by first | omega | exact Nat.le_refl _⟩, ⟨by refine kb_ ?_; exact BK104.out⟩, ⟨hbA_ HB.out⟩⟩
       ·rw [if_neg c14] at H
        have c14b0 : decide (2 < (l0_9.length : Int)) = false := decide_eq_false c14
        have c14b1 : decide (2 < l0_9.length) = false := decide_eq_false (by omega)
        clear c14
        (first | rw [c14b0] | (simp only [i64_w, i32_w]; rw [c14b0]) | skip)
        have H' := Aside0.mk H
        clear H; have Z16 := zz11 BK104
        go_wp2_with (first | ((with_reducible refine gate_callee (f := 52) rfl ?_); refine goesL_ (some 6) rfl rfl Try.func52 (by kernel_rfl) rfl #[.int .i64 a0_0, .int .i64 1, .int .i64 255] rfl ar_ ?_; (with_reducible refine (spec_l1In.calls a0_0 1 255 true _ A4.out).mono ?_); rintro e w' ⟨rfl, ⟨nd, rfl⟩⟩; refine ⟨_, rfl, ?_⟩) | (go_at_call 52; (with_reducible refine (spec_l1In.calls a0_1 1 255 true _ A6.out).mono ?_); rintro e w' ⟨rfl, ⟨nd, rfl⟩⟩) | (go_at_call 52; (with_reducible refine (spec_l1In.calls a0_2 0 65535 true _ A8.out).mono ?_); rintro e w' ⟨rfl, ⟨nd, rfl⟩⟩) | (go_at_call 52; (with_reducible refine (spec_l1In.calls a0_3 0 65535 true _ A10.out).mono ?_); rintro e w' ⟨rfl, ⟨nd, rfl⟩⟩) | (go_at_call 52; (with_reducible refine (spec_l1In.calls a0_4 0 255 true _ A12.out).mono ?_); rintro e w' ⟨rfl, ⟨nd, rfl⟩⟩))
        go_meet
        case rel => exact ⟨_, (decide ((l0_10.length : Int) > 12)), (by first | rfl | (simp; done) | (simp [*]; done)), H', ⟨by first | omega | exact Nat.le_refl _⟩, ⟨by refine kb_ ?_; exact BK104.out⟩, ⟨hbA_ HB.out⟩⟩
      ·replace c13 := Bool.eq_false_iff.mpr c13
       subst c13
       rw [if_neg (show ¬ (false = true) by decide)] at H
       have H' := Aside0.mk H
       clear H; have Z17 := zz11 BK104
       go_wp2_with (first | ((with_reducible refine gate_callee (f := 52) rfl ?_); refine goesL_ (some 6) rfl rfl Try.func52 (by kernel_rfl) rfl #[.int .i64 a0_0, .int .i64 1, .int .i64 255] rfl ar_ ?_; (with_reducible refine (spec_l1In.calls a0_0 1 255 true _ A4.out).mono ?_); rintro e w' ⟨rfl, ⟨nd, rfl⟩⟩; refine ⟨_, rfl, ?_⟩) | (go_at_call 52; (with_reducible refine (spec_l1In.calls a0_1 1 255 true _ A6.out).mono ?_); rintro e w' ⟨rfl, ⟨nd, rfl⟩⟩) | (go_at_call 52; (with_reducible refine (spec_l1In.calls a0_2 0 65535 true _ A8.out).mono ?_); rintro e w' ⟨rfl, ⟨nd, rfl⟩⟩) | (go_at_call 52; (with_reducible refine (spec_l1In.calls a0_3 0 65535 true _ A10.out).mono ?_); rintro e w' ⟨rfl, ⟨nd, rfl⟩⟩) | (go_at_call 52; (with_reducible refine (spec_l1In.calls a0_4 0 255 false _ A12.out).mono ?_); rintro e w' ⟨rfl, ⟨nd, rfl⟩⟩))
       go_meet
       case rel => exact ⟨_, (true), (by first | rfl | (simp; done) | (simp [*]; done)), H', ⟨by first | omega | exact Nat.le_refl _⟩, ⟨by refine kb_ ?_; exact BK104.out⟩, ⟨hbA_ HB.out⟩⟩
     ·replace c11 := Bool.eq_false_iff.mpr c11
      subst c11
      rw [if_neg (show ¬ (false = true) by decide)] at H
      have H' := Aside0.mk H
      clear H; have Z18 := zz11 BK104
      go_wp2_with (first | ((with_reducible refine gate_callee (f := 52) rfl ?_); refine goesL_ (some 6) rfl rfl Try.func52 (by kernel_rfl) rfl #[.int .i64 a0_0, .int .i64 1, .int .i64 255] rfl ar_ ?_; (with_reducible refine (spec_l1In.calls a0_0 1 255 true _ A4.out).mono ?_); rintro e w' ⟨rfl, ⟨nd, rfl⟩⟩; refine ⟨_, rfl, ?_⟩) | (go_at_call 52; (with_reducible refine (spec_l1In.calls a0_1 1 255 true _ A6.out).mono ?_); rintro e w' ⟨rfl, ⟨nd, rfl⟩⟩) | (go_at_call 52; (with_reducible refine (spec_l1In.calls a0_2 0 65535 true _ A8.out).mono ?_); rintro e w' ⟨rfl, ⟨nd, rfl⟩⟩) | (go_at_call 52; (with_reducible refine (spec_l1In.calls a0_3 0 65535 false _ A10.out).mono ?_); rintro e w' ⟨rfl, ⟨nd, rfl⟩⟩))
      go_meet
      case rel => exact ⟨_, (true), (by first | rfl | (simp; done) | (simp [*]; done)), H', ⟨by first | omega | exact Nat.le_refl _⟩, ⟨by refine kb_ ?_; exact BK104.out⟩, ⟨hbA_ HB.out⟩⟩
    ·replace c9 := Bool.eq_false_iff.mpr c9
     subst c9
     rw [if_neg (show ¬ (false = true) by decide)] at H
     have H' := Aside0.mk H
     clear H; have Z19 := zz11 BK104
     go_wp2_with (first | ((with_reducible refine gate_callee (f := 52) rfl ?_); refine goesL_ (some 6) rfl rfl Try.func52 (by kernel_rfl) rfl #[.int .i64 a0_0, .int .i64 1, .int .i64 255] rfl ar_ ?_; (with_reducible refine (spec_l1In.calls a0_0 1 255 true _ A4.out).mono ?_); rintro e w' ⟨rfl, ⟨nd, rfl⟩⟩; refine ⟨_, rfl, ?_⟩) | (go_at_call 52; (with_reducible refine (spec_l1In.calls a0_1 1 255 true _ A6.out).mono ?_); rintro e w' ⟨rfl, ⟨nd, rfl⟩⟩) | (go_at_call 52; (with_reducible refine (spec_l1In.calls a0_2 0 65535 false _ A8.out).mono ?_); rintro e w' ⟨rfl, ⟨nd, rfl⟩⟩))
     go_meet
     case rel => exact ⟨_, (true), (by first | rfl | (simp; done) | (simp [*]; done)), H', ⟨by first | omega | exact Nat.le_refl _⟩, ⟨by refine kb_ ?_; exact BK104.out⟩, ⟨hbA_ HB.out⟩⟩
   ·replace c7 := Bool.eq_false_iff.mpr c7
    subst c7
    rw [if_neg (show ¬ (false = true) by decide)] at H
    have H' := Aside0.mk H
    clear H; have Z20 := zz11 BK104
    go_wp2_with (first | ((with_reducible refine gate_callee (f := 52) rfl ?_); refine goesL_ (some 6) rfl rfl Try.func52 (by kernel_rfl) rfl #[.int .i64 a0_0, .int .i64 1, .int .i64 255] rfl ar_ ?_; (with_reducible refine (spec_l1In.calls a0_0 1 255 true _ A4.out).mono ?_); rintro e w' ⟨rfl, ⟨nd, rfl⟩⟩; refine ⟨_, rfl, ?_⟩) | (go_at_call 52; (with_reducible refine (spec_l1In.calls a0_1 1 255 false _ A6.out).mono ?_); rintro e w' ⟨rfl, ⟨nd, rfl⟩⟩))
    go_meet
    case rel => exact ⟨_, (true), (by first | rfl | (simp; done) | (simp [*]; done)), H', ⟨by first | omega | exact Nat.le_refl _⟩, ⟨by refine kb_ ?_; exact BK104.out⟩, ⟨hbA_ HB.out⟩⟩
  ·replace c5 := Bool.eq_false_iff.mpr c5
   subst c5
   rw [if_neg (show ¬ (false = true) by decide)] at H
   have H' := Aside0.mk H
   clear H; have Z21 := zz11 BK104
   go_wp2_with (first | ((with_reducible refine gate_callee (f := 52) rfl ?_); refine goesL_ (some 6) rfl rfl Try.func52 (by kernel_rfl) rfl #[.int .i64 a0_0, .int .i64 1, .int .i64 255] rfl ar_ ?_; (with_reducible refine (spec_l1In.calls a0_0 1 255 false _ A4.out).mono ?_); rintro e w' ⟨rfl, ⟨nd, rfl⟩⟩; refine ⟨_, rfl, ?_⟩))
   go_meet
   case rel => exact ⟨_, (true), (by first | rfl | (simp; done) | (simp [*]; done)), H', ⟨by first | omega | exact Nat.le_refl _⟩, ⟨by refine kb_ ?_; exact BK104.out⟩, ⟨hbA_ HB.out⟩⟩
 case rest =>
  clear HC2; (try clear c1); (try clear p2); (try clear c5); (try clear c7); (try clear c9); (try clear c11); (try clear c13); (try clear c14); (try clear c14b0); (try clear c14b1); (try clear Z15); (try clear Z16); (try clear Z17); (try clear Z18); (try clear Z19); (try clear Z20); (try clear Z21)
  
  obtain ⟨kq, x43_1, rfl, HA, HJ1, BK104, HB⟩ := hcut
  cases kq with
  | zero => exact absurd HA.out (by simp [spec_SegmentOk.j0])
  | succ kj1 =>
   have H := HA.out; clear HA
   simp only [spec_SegmentOk.j0] at H
   by_cases c22 : x43_1 = true
   ·subst c22
    rw [if_pos rfl] at H
    obtain rfl := Option.some.inj H
    go_wp2
    go_ret
    exact ⟨by first | rfl | (simp [errW_none, errW_some] <;> rfl) | (simp [*, errW_none, errW_some] <;> rfl), hbA_ HB.out⟩
   ·replace c22 := Bool.eq_false_iff.mpr c22
    subst c22
    rw [if_neg (show ¬ (false = true) by decide)] at H
    have H' := Aside0.mk H
    clear H
    go_wp2
    go_loopg [3] kj1 (fun kq v3 w' => ∃ (x3_2 : Int), v3 = .int .i64 x3_2 ∧ Aside0 (spec_SegmentOk.l0 kq x3_2 a0_0 a0_1 a0_2 a0_3 a0_4 a0_5 a0_6 a0_7 a0_8 l0_9 l0_10 = some r) ∧ Aside0 (kq ≤ kj1) ∧ Aside0 (w'.heap[gb104]? = some (.cells #[.int .i64 a0_0, .int .i64 a0_1, .int .i64 a0_2, .int .i64 a0_3, .int .i64 a0_4, .bool a0_5, .bool a0_6, .bool a0_7, .bool a0_8, (.slice A0_9 l0_9.length c0_9), (.slice A0_10 l0_10.length c0_10)] 52 (0, 0))) ∧ Aside0 (Below w.heap.size w w'))
    case atStart => exact ⟨(0), (by first | rfl | (simp; done) | (simp [*]; done)), H', ⟨Nat.le_refl _⟩, ⟨by refine kb_ ?_; exact BK104.out⟩, ⟨hbA_ HB.out⟩⟩
    case round =>
     clear H'; (try clear c1); (try clear c2); (try clear p2); (try clear c5); (try clear c7); (try clear c9); (try clear c11); (try clear c13); (try clear c14); (try clear c14b0); (try clear c14b1); (try clear c22); (try clear Z15); (try clear Z16); (try clear Z17); (try clear Z18); (try clear Z19); (try clear Z20); (try clear Z21)
     (try clear p2)
     obtain ⟨x3_2, rfl, HA, HK2, BK104, HB⟩ := hrel
     cases gk with
     | zero => exact absurd HA.out (by simp [spec_SegmentOk.l0])
     | succ k2 =>
      have H := HA.out; clear HA
      simp only [spec_SegmentOk.l0] at H
      by_cases c23 : x3_2 < (l0_9.length : Int)
      ·rw [if_pos c23] at H
       have c23b0 : decide (x3_2 < (l0_9.length : Int)) = true := decide_eq_true c23
       clear c23
       by_cases c24 : 0 ≤ x3_2
       ·rw [if_pos c24] at H
        have c24b0 : decide (0 ≤ x3_2) = true := decide_eq_true c24
        clear c24
        replace H := Option.bind_eq_some_iff.mp H
        obtain ⟨t111, A250, H⟩ := H
        (try dsimp only at H)
        have A25 := Aside0.mk A250; clear A250
        by_cases c26 : t111 = true
        ·subst c26
         rw [if_pos rfl] at H
         replace H := Option.bind_eq_some_iff.mp H
         obtain ⟨t113, A270, H⟩ := H
         (try dsimp only at H)
         have A27 := Aside0.mk A270; clear A270
         by_cases c28 : t113 = true
         ·subst c28
          rw [if_pos rfl] at H
          have H' := Aside0.mk H
          clear H; have Z29 := zz11 BK104
          have p110 : 0 ≤ (x3_2 : Int) := of_decide_eq_true (by first | (with_reducible assumption) | assumption)
          have q110 : x3_2 < (l0_9.length : Int) := of_decide_eq_true (by first | (with_reducible assumption) | assumption)
          obtain ⟨ad110, e110, hx110_0, hx110_1⟩ := at_T90 HR0_9.out x3_2 p110 q110
          cases e110
          replace hx110_0 := cc_ HB hx110_0
          replace hx110_1 := cc_ HB hx110_1
          replace p110 := eq_true p110
          replace q110 := eq_true q110
          go_wp2_with (first | ((with_reducible refine gate_callee (f := 52) rfl ?_); refine goesL_ (some 57) rfl rfl Try.func52 (by kernel_rfl) rfl #[.int .i64 ((rd_T90 l0_9 x3_2).f0), .int .i64 0, .int .i64 65535] rfl ar_ ?_; (with_reducible refine (spec_l1In.calls ((rd_T90 l0_9 x3_2).f0) 0 65535 true _ A25.out).mono ?_); rintro e w' ⟨rfl, ⟨nd, rfl⟩⟩; refine ⟨_, rfl, ?_⟩; have p112 : 0 ≤ (x3_2 : Int) := of_decide_eq_true (by first | (with_reducible assumption) | assumption); have q112 : x3_2 < (l0_9.length : Int) := of_decide_eq_true (by first | (with_reducible assumption) | assumption); obtain ⟨ad112, e112, hx112_0, hx112_1⟩ := at_T90 HR0_9.out x3_2 p112 q112; obtain rfl : ad110 = ad112 := (by injection e112); replace hx112_0 := cc_ HB hx112_0; replace hx112_1 := cc_ HB hx112_1; replace p112 := eq_true p112; replace q112 := eq_true q112) | (go_at_call 52; (with_reducible refine (spec_l1In.calls ((rd_T90 l0_9 x3_2).f1) 0 65535 true _ A27.out).mono ?_); rintro e w' ⟨rfl, ⟨nd, rfl⟩⟩))
          go_roundg k2
          case measure => have := HJ1.out; have := HK2.out; omega
          case rel => exact ⟨(wrap64 (x3_2 + 1)), (by first | rfl | (simp; done) | (simp [*]; done)), H', ⟨by have := HJ1.out; have := HK2.out; omega⟩, ⟨by refine kb_ ?_; exact BK104.out⟩, ⟨hbA_ HB.out⟩⟩
         ·replace c28 := Bool.eq_false_iff.mpr c28
          subst c28
          rw [if_neg (show ¬ (false = true) by decide)] at H
          obtain rfl := Option.some.inj H
          have Z30 := zz11 BK104
          have p110 : 0 ≤ (x3_2 : Int) := of_decide_eq_true (by first | (with_reducible assumption) | assumption)
          have q110 : x3_2 < (l0_9.length : Int) := of_decide_eq_true (by first | (with_reducible assumption) | assumption)
          obtain ⟨ad110, e110, hx110_0, hx110_1⟩ := at_T90 HR0_9.out x3_2 p110 q110
          cases e110
          replace hx110_0 := cc_ HB hx110_0
          replace hx110_1 := cc_ HB hx110_1
          replace p110 := eq_true p110
          replace q110 := eq_true q110
          go_wp2_with (first | ((with_reducible refine gate_callee (f := 52) rfl ?_); refine goesL_ (some 57) rfl rfl Try.func52 (by kernel_rfl) rfl #[.int .i64 ((rd_T90 l0_9 x3_2).f0), .int .i64 0, .int .i64 65535] rfl ar_ ?_; (with_reducible refine (spec_l1In.calls ((rd_T90 l0_9 x3_2).f0) 0 65535 true _ A25.out).mono ?_); rintro e w' ⟨rfl, ⟨nd, rfl⟩⟩; refine ⟨_, rfl, ?_⟩; have p112 : 0 ≤ (x3_2 : Int) := of_decide_eq_true (by first | (with_reducible assumption) | assumption); have q112 : x3_2 < (l0_9.length : Int) := of_decide_eq_true (by first | (with_reducible assumption) | assumption); obtain ⟨ad112, e112, hx112_0, hx112_1⟩ := at_T90 HR0_9.out x3_2 p112 q112; obtain rfl : ad110 = ad112 := (by injection e112); replace hx112_0 := cc_ HB hx112_0; replace hx112_1 := cc_ HB hx112_1; replace p112 := eq_true p112; replace q112 := eq_true q112) | (go_at_call 52; (with_reducible refine (spec_l1In.calls ((rd_T90 l0_9 x3_2).f1) 0 65535 false _ A27.out).mono ?_); rintro e w' ⟨rfl, ⟨nd, rfl⟩⟩))
          go_ret
          exact ⟨by first | rfl | (simp [errW_none, errW_some] <;> rfl) | (simp [*, errW_none, errW_some] <;> rfl), hbA_ HB.out⟩
        ·replace c26 := Bool.eq_false_iff.mpr c26
         subst c26
         rw [if_neg (show ¬ (false = true) by decide)] at H
         obtain rfl := Option.some.inj H
         have Z31 := zz11 BK104
         have p110 : 0 ≤ (x3_2 : Int) := of_decide_eq_true (by first | (with_reducible assumption) | assumption)
         have q110 : x3_2 < (l0_9.length : Int) := of_decide_eq_true (by first | (with_reducible assumption) | assumption)
         obtain ⟨ad110, e110, hx110_0, hx110_1⟩ := at_T90 HR0_9.out x3_2 p110 q110
         cases e110
         replace hx110_0 := cc_ HB hx110_0
         replace hx110_1 := cc_ HB hx110_1
         replace p110 := eq_true p110
         replace q110 := eq_true q110
         go_wp2_with (first | ((with_reducible refine gate_callee (f := 52) rfl ?_); refine goesL_ (some 57) rfl rfl Try.func52 (by kernel_rfl) rfl #[.int .i64 ((rd_T90 l0_9 x3_2).f0), .int .i64 0, .int .i64 65535] rfl ar_ ?_; (with_reducible refine (spec_l1In.calls ((rd_T90 l0_9 x3_2).f0) 0 65535 false _ A25.out).mono ?_); rintro e w' ⟨rfl, ⟨nd, rfl⟩⟩; refine ⟨_, rfl, ?_⟩))
         go_ret
         exact ⟨by first | rfl | (simp [errW_none, errW_some] <;> rfl) | (simp [*, errW_none, errW_some] <;> rfl), hbA_ HB.out⟩
       ·rw [if_neg c24] at H
        exact absurd H (by simp)
      ·rw [if_neg c23] at H
       have c23b0 : decide (x3_2 < (l0_9.length : Int)) = false := decide_eq_false c23
       clear c23; have HC32 := Aside0.mk H; clear H; have Z33 := zz11 BK104
       go_upto_region 8 with (fail)
       go_cut [87] (fun v87 wc => ∃ (kq : Nat) (x87_31 : Bool), v87 = .bool x87_31 ∧ Aside0 (spec_SegmentOk.j2 kq x87_31 a0_0 a0_1 a0_2 a0_3 a0_4 a0_5 a0_6 a0_7 a0_8 l0_9 l0_10 = some r) ∧ Aside0 (kq ≤ k2) ∧ Aside0 (wc.heap[gb104]? = some (.cells #[.int .i64 a0_0, .int .i64 a0_1, .int .i64 a0_2, .int .i64 a0_3, .int .i64 a0_4, .bool a0_5, .bool a0_6, .bool a0_7, .bool a0_8, (.slice A0_9 l0_9.length c0_9), (.slice A0_10 l0_10.length c0_10)] 52 (0, 0))) ∧ Aside0 (Below w.heap.size w wc))
       case first =>
        have H := HC32.out; clear HC32
        by_cases c34 : a0_6 = true
        ·subst c34
         rw [if_pos rfl] at H
         have H' := Aside0.mk H
         clear H; have Z35 := zz11 BK104
         go_wp2
         go_meet
         case rel => exact ⟨_, (false), (by first | rfl | (simp; done) | (simp [*]; done)), H', ⟨by have := HJ1.out; have := HK2.out; first | omega | exact Nat.le_refl _⟩, ⟨by refine kb_ ?_; exact BK104.out⟩, ⟨hbA_ HB.out⟩⟩
        ·replace c34 := Bool.eq_false_iff.mpr c34
         subst c34
         rw [if_neg (show ¬ (false = true) by decide)] at H
         by_cases c36 : a0_3 = 0
         ·rw [if_pos c36] at H
          have c36b0 : (a0_3 == 0) = true := beq_iff_eq.mpr c36
          have c36b1 : (a0_3 != 0) = false := bne_eq_false_iff_eq.mpr c36
          clear c36
          (first | rw [c36b0] | (simp only [i64_w, i32_w]; rw [c36b0]) | skip)
          by_cases c37 : a0_4 = 0
          ·rw [if_pos c37] at H
           have c37b0 : (a0_4 == 0) = true := beq_iff_eq.mpr c37
           have c37b1 : (a0_4 != 0) = false := bne_eq_false_iff_eq.mpr c37
           clear c37
           have H' := Aside0.mk H
           clear H; have Z38 := zz11 BK104
           go_wp2
           go_meet
           case rel => exact ⟨_, (decide ((l0_9.length : Int) > 0)), (by first | rfl | (simp; done) | (simp [*]; done)), H', ⟨by have := HJ1.out; have := HK2.out; first | omega | exact Nat.le_refl _⟩, ⟨by refine kb_ ?_; exact BK104.out⟩, ⟨hbA_ HB.out⟩⟩
          ·rw [if_neg c37] at H
           have c37b0 : (a0_4 == 0) = false := beq_eq_false_iff_ne.mpr c37
           have c37b1 : (a0_4 != 0) = true := bne_iff_ne.mpr c37
           have H' := Aside0.mk H
           clear H; have Z39 := zz11 BK104
           go_wp2
           go_meet
           case rel => exact ⟨_, (true), (by first | rfl | (simp; done) | (simp [*]; done)), H', ⟨by have := HJ1.out; have := HK2.out; first | omega | exact Nat.le_refl _⟩, ⟨by refine kb_ ?_; exact BK104.out⟩, ⟨hbA_ HB.out⟩⟩
         ·rw [if_neg c36] at H
          have c36b0 : (a0_3 == 0) = false := beq_eq_false_iff_ne.mpr c36
          have c36b1 : (a0_3 != 0) = true := bne_iff_ne.mpr c36
          (first | rw [c36b0] | (simp only [i64_w, i32_w]; rw [c36b0]) | skip)
          have H' := Aside0.mk H
          clear H; have Z40 := zz11 BK104
          go_wp2
          go_meet
          case rel => exact ⟨_, (true), (by first | rfl | (simp; done) | (simp [*]; done)), H', ⟨by have := HJ1.out; have := HK2.out; first | omega | exact Nat.le_refl _⟩, ⟨by refine kb_ ?_; exact BK104.out⟩, ⟨hbA_ HB.out⟩⟩
       case rest =>
        clear HC32; (try clear c1); (try clear p1); (try clear q1); (try clear hx1); (try clear c2); (try clear p2); (try clear c3); (try clear c5); (try clear p6); (try clear c7); (try clear c9); (try clear c11); (try clear p11); (try clear q11); (try clear hx11); (try clear c13); (try clear c14); (try clear c14b0); (try clear c14b1); (try clear c22); (try clear c23); (try clear c23b0); (try clear c24); (try clear c24b0); (try clear c26); (try clear c28); (try clear c34); (try clear c36); (try clear c36b0); (try clear c36b1); (try clear c37); (try clear c37b0); (try clear c37b1); (try clear Z15); (try clear Z16); (try clear Z17); (try clear Z18); (try clear Z19); (try clear Z20); (try clear Z21); (try clear Z29); (try clear Z30); (try clear Z31); (try clear Z33)
        (try clear Z35); (try clear Z38); (try clear Z39); (try clear Z40)
        (try clear hx110_0); (try clear hx110_1); (try clear hx112_0); (try clear hx112_1); (try clear p110); (try clear p112); (try clear p2); (try clear q110); (try clear q112)
        obtain ⟨kq, x87_31, rfl, HA, HJ31, BK104, HB⟩ := hcut
        cases kq with
        | zero => exact absurd HA.out (by simp [spec_SegmentOk.j2])
        | succ kj31 =>
         have H := HA.out; clear HA
         simp only [spec_SegmentOk.j2] at H
         by_cases c41 : x87_31 = true
         ·subst c41
          rw [if_pos rfl] at H
          obtain rfl := Option.some.inj H
          go_wp2
          go_ret
          exact ⟨by first | rfl | (simp [errW_none, errW_some] <;> rfl) | (simp [*, errW_none, errW_some] <;> rfl), hbA_ HB.out⟩
         ·replace c41 := Bool.eq_false_iff.mpr c41
          subst c41
          rw [if_neg (show ¬ (false = true) by decide)] at H
          by_cases c42 : a0_8 = true
          ·subst c42
           rw [if_pos rfl] at H
           by_cases c43 : a0_5 = true
           ·subst c43
            rw [if_pos rfl] at H
            obtain rfl := Option.some.inj H
            have Z44 := zz11 BK104
            go_wp2
            go_ret
            exact ⟨by first | rfl | (simp [errW_none, errW_some] <;> rfl) | (simp [*, errW_none, errW_some] <;> rfl), hbA_ HB.out⟩
           ·replace c43 := Bool.eq_false_iff.mpr c43
            subst c43
            rw [if_neg (show ¬ (false = true) by decide)] at H
            by_cases c45 : a0_7 = true
            ·subst c45
             rw [if_pos rfl] at H
             obtain rfl := Option.some.inj H
             have Z46 := zz11 BK104
             go_wp2
             go_ret
             exact ⟨by first | rfl | (simp [errW_none, errW_some] <;> rfl) | (simp [*, errW_none, errW_some] <;> rfl), hbA_ HB.out⟩
            ·replace c45 := Bool.eq_false_iff.mpr c45
             subst c45
             rw [if_neg (show ¬ (false = true) by decide)] at H
             obtain rfl := Option.some.inj H
             have Z47 := zz11 BK104
             go_wp2
             go_ret
             exact ⟨by first | rfl | (simp [errW_none, errW_some] <;> rfl) | (simp [*, errW_none, errW_some] <;> rfl), hbA_ HB.out⟩
          ·replace c42 := Bool.eq_false_iff.mpr c42
           subst c42
           rw [if_neg (show ¬ (false = true) by decide)] at H
           obtain rfl := Option.some.inj H
           have Z48 := zz11 BK104
           go_wp2
           go_ret
           exact ⟨by first | rfl | (simp [errW_none, errW_some] <;> rfl) | (simp [*, errW_none, errW_some] <;> rfl), hbA_ HB.out⟩
mutual
def spec_BytesOf.j0 : Nat → Int → Int → Bool → Option (List Int)
 | 0, _, _, _ => none
 | k + 1, x0, x1, x18 => if x18 = true then (some (([] : List Int))) else (spec_BytesOf.l0 k x0 (([] : List Int)) (wrap64 (x1 - 1)))
def spec_BytesOf.l0 : Nat → Int → List Int → Int → Option (List Int)
 | 0, _, _, _ => none
 | k + 1, x0, x5, x6 => if x6 ≥ 0 then (if 0 ≤ (wrap64 (8 * x6)) then (if x5.length < 140737488355328 then (spec_BytesOf.l0 k x0 (x5 ++ [(Int.tmod (shr .i64 x0 (wrap64 (8 * x6))) 256) % 256]) (wrap64 (x6 - 1))) else (none)) else (none)) else (some x5)
end
def spec_BytesOf.f (k : Nat) (a0 : Int) (a1 : Int) : Option (List Int) := (spec_l1In.f a1 1 4).bind fun t114 => (if t114 = true then (if 0 ≤ (wrap64 (8 * a1)) then ((spec_l1In.f a0 0 (wrap64 ((shl .i64 1 (wrap64 (8 * a1))) - 1))).bind fun t115 => (spec_BytesOf.j0 k a0 a1 (!t115))) else (none)) else (spec_BytesOf.j0 k a0 a1 true))
theorem spec_BytesOf.mono_l : ∀ k, (∀ y0 y1 y2, LeO (spec_BytesOf.j0 k y0 y1 y2) (spec_BytesOf.j0 (k + 1) y0 y1 y2)) ∧ (∀ y0 y1 y2, LeO (spec_BytesOf.l0 k y0 y1 y2) (spec_BytesOf.l0 (k + 1) y0 y1 y2))
 | 0 => ⟨fun _ _ _ r h => by simp [spec_BytesOf.j0] at h, fun _ _ _ r h => by simp [spec_BytesOf.l0] at h⟩
 | k + 1 => by
  obtain ⟨ih0, ih1⟩ := spec_BytesOf.mono_l k
  refine ⟨?_, ?_⟩
  ·intro y0 y1 y2
   unfold spec_BytesOf.j0
   repeat' first | (with_reducible first | apply ih0 | apply ih1 | exact LeO.refl _ | exact LeO.none _ | refine LeO.ite ?_ ?_ | refine LeO.bind ?_ fun _ => ?_) | apply ih0 | apply ih1 | exact LeO.none _ | refine LeO.ite ?_ ?_ | refine LeO.bind ?_ fun _ => ?_
  ·intro y0 y1 y2
   unfold spec_BytesOf.l0
   repeat' first | (with_reducible first | apply ih0 | apply ih1 | exact LeO.refl _ | exact LeO.none _ | refine LeO.ite ?_ ?_ | refine LeO.bind ?_ fun _ => ?_) | apply ih0 | apply ih1 | exact LeO.none _ | refine LeO.ite ?_ ?_ | refine LeO.bind ?_ fun _ => ?_
theorem spec_BytesOf.mono : ∀ a0 a1 k, LeO (spec_BytesOf.f k a0 a1) (spec_BytesOf.f (k + 1) a0 a1) := by
 intro a0 a1 k
 obtain ⟨ih0, ih1⟩ := spec_BytesOf.mono_l k
 unfold spec_BytesOf.f
 repeat' first | (with_reducible first | apply ih0 | apply ih1 | exact LeO.refl _ | exact LeO.none _ | refine LeO.ite ?_ ?_ | refine LeO.bind ?_ fun _ => ?_) | apply ih0 | apply ih1 | exact LeO.none _ | refine LeO.ite ?_ ?_ | refine LeO.bind ?_ fun _ => ?_
set_option maxHeartbeats 8000000 in
set_option maxRecDepth 100000 in
theorem spec_BytesOf.calls (k : Nat) (a0 : Int) (a1 : Int) (r : List Int) (w : World) (h : spec_BytesOf.f k a0 a1 = some r) :
  Calls Try.prog 75 #[.int .i64 a0, .int .i64 a1] w fun e w' => ∃ v0_ : Value, e = .returned (v0_) ∧ Kd.R (Kd.int .u8) 5 w' w.heap.size (fun _ => True) v0_ r ∧ Below w.heap.size w w' := by
 have HB := Aside0.mk (Below.refl w.heap.size w)
 have H : ((spec_l1In.f a1 1 4).bind fun t114 => (if t114 = true then (if 0 ≤ (wrap64 (8 * a1)) then ((spec_l1In.f a0 0 (wrap64 ((shl .i64 1 (wrap64 (8 * a1))) - 1))).bind fun t115 => (spec_BytesOf.j0 k a0 a1 (!t115))) else (none)) else (spec_BytesOf.j0 k a0 a1 true))) = some r := h
 clear h; have HC3 := Aside0.mk H; clear H
 go_enter Try.func75, Try.ntmps75
 go_upto_region 1 with (fail)
 go_cut [18] (fun v18 wc => ∃ (kq : Nat) (x18_2 : Bool), v18 = .bool x18_2 ∧ Aside0 (spec_BytesOf.j0 kq a0 a1 x18_2 = some r) ∧ Aside0 (kq ≤ k) ∧ Aside0 (Below w.heap.size w wc))
 case first =>
  have H := HC3.out; clear HC3
  replace H := Option.bind_eq_some_iff.mp H
  obtain ⟨t114, A40, H⟩ := H
  (try dsimp only at H)
  have A4 := Aside0.mk A40; clear A40
  by_cases c5 : t114 = true
  ·subst c5
   rw [if_pos rfl] at H
   obtain ⟨ji6, hji6⟩ : ∃ j_ : Int, (wrap64 (8 * a1)) = j_ := ⟨_, rfl⟩
   (first | rw [hji6] at H | simp only [hji6] at H)
   (try rw [hji6] at A4)
   have hji6w : (IntKind.i64.wrap (8 * a1)) = ji6 := (i64_w _).trans hji6
   by_cases c7 : 0 ≤ (ji6)
   ·rw [if_pos c7] at H
    have c7b0 := eq_true c7
    have c7b1 : decide (0 ≤ (ji6)) = true := decide_eq_true c7
    clear c7
    obtain ⟨ji8, hji8⟩ : ∃ j_ : Int, (shl .i64 1 (ji6)) = j_ := ⟨_, rfl⟩
    (first | rw [hji8] at H | simp only [hji8] at H)
    (try rw [hji8] at A4)
    have hji8_ : (IntKind.i64.wrap (1 * 2 ^ min (ji6).toNat 64)) = ji8 := hji8
    have hji8z : (ji6) ≤ 64 → (IntKind.i64.wrap (1 * 2 ^ (ji6).toNat)) = ji8 := shl_small hji8
    have hji8u : (IntKind.i64.wrap (2 ^ min (ji6).toNat 64)) = ji8 := by have h_ := hji8_; rw [Int.one_mul] at h_; exact h_
    have hji8v : (ji6) ≤ 64 → (IntKind.i64.wrap (2 ^ (ji6).toNat)) = ji8 := fun hle_ => by have h_ := hji8z hle_; rw [Int.one_mul] at h_; exact h_
    have hji8y : (wrap64 (1 * 2 ^ min (ji6).toNat 64)) = ji8 := (i64_w _).symm.trans hji8_
    have hji8x : (ji6) ≤ 64 → (wrap64 (1 * 2 ^ (ji6).toNat)) = ji8 := fun h_ => (i64_w _).symm.trans (hji8z h_)
    replace H := Option.bind_eq_some_iff.mp H
    obtain ⟨t115, A90, H⟩ := H
    (try dsimp only at H)
    have A9 := Aside0.mk A90; clear A90
    have H' := Aside0.mk H
    clear H
    go_wp2_with (first | ((with_reducible refine gate_callee (f := 52) rfl ?_); refine goesL_ (some 8) rfl rfl Try.func52 (by kernel_rfl) rfl #[.int .i64 a1, .int .i64 1, .int .i64 4] rfl ar_ ?_; (with_reducible refine (spec_l1In.calls a1 1 4 true _ A4.out).mono ?_); rintro e w' ⟨rfl, ⟨nd, rfl⟩⟩; refine ⟨_, rfl, ?_⟩) | (go_at_call 52; (with_reducible refine (spec_l1In.calls a0 0 (wrap64 ((ji8) - 1)) t115 _ A9.out).mono ?_); rintro e w' ⟨rfl, ⟨nd, rfl⟩⟩))
    first | go_meet | ((try simp only [← hji6, ← hji8]); go_meet)
    case rel => exact ⟨_, (!t115), (by first | rfl | (simp; done) | (simp [*]; done)), H', ⟨by first | omega | exact Nat.le_refl _⟩, ⟨hbA_ HB.out⟩⟩
   ·rw [if_neg c7] at H
    exact absurd H (by simp)
  ·replace c5 := Bool.eq_false_iff.mpr c5
   subst c5
   rw [if_neg (show ¬ (false = true) by decide)] at H
   have H' := Aside0.mk H
   clear H
   go_wp2_with (first | ((with_reducible refine gate_callee (f := 52) rfl ?_); refine goesL_ (some 8) rfl rfl Try.func52 (by kernel_rfl) rfl #[.int .i64 a1, .int .i64 1, .int .i64 4] rfl ar_ ?_; (with_reducible refine (spec_l1In.calls a1 1 4 false _ A4.out).mono ?_); rintro e w' ⟨rfl, ⟨nd, rfl⟩⟩; refine ⟨_, rfl, ?_⟩))
   go_meet
   case rel => exact ⟨_, (true), (by first | rfl | (simp; done) | (simp [*]; done)), H', ⟨by first | omega | exact Nat.le_refl _⟩, ⟨hbA_ HB.out⟩⟩
 case rest =>
  clear HC3; (try clear p2); (try clear c5); (try clear p6); (try clear c7); (try clear c7b0); (try clear c7b1)
  obtain ⟨kq, x18_2, rfl, HA, HJ2, HB⟩ := hcut
  cases kq with
  | zero => exact absurd HA.out (by simp [spec_BytesOf.j0])
  | succ kj2 =>
   have H := HA.out; clear HA
   simp only [spec_BytesOf.j0] at H
   by_cases c10 : x18_2 = true
   ·subst c10
    rw [if_pos rfl] at H
    obtain ⟨y116, hy116⟩ : ∃ y_ : List Int, y_ = (([] : List Int)) := ⟨_, rfl⟩
    (first | replace H := sb_ hy116 H | rw [← hy116] at H)
    have Ny116 := Aside0.mk hy116; clear hy116
    obtain rfl := Option.some.inj H
    go_wp2_with (first | ((with_reducible refine gate_dst (N := 19) rfl ?_); refine Kd.R_lit (Kd.int .u8) _ 5 ?hg (N := 19) ?hd (xs := ([] : List Int)) (inner := []) (ok := fun _ => True) (okp := fun _ => True) ?hr ?hp (fun _ hk => hk) trivial (Below.refl _ _) (Nat.le_refl _) (by simp) ?_; (case hd => rfl); (case hg => rfl); (case hr => first | (go_simp; done) | (go_simp; rfl)); (case hp => exact (Reps.none _ _)); intro v117 w11 ho12 hb hg_ hnew_; clear hg_ hnew_; (first | rw [← Ny116.out] at ho12 | (simp only [Int.reduceToNat] at ho12; rw [← Ny116.out] at ho12)); have HO118 := Aside0.mk (Kd.R_lower ho12 (below_size (hbA_ HB.out))); replace HB := (bs_ HB hb); clear hb ho12))
    go_ret
    exact ⟨_, by first | rfl | (simp [errW_none, errW_some] <;> rfl) | (simp [*, errW_none, errW_some] <;> rfl), kR_ HO118.out, hbA_ HB.out⟩
   ·replace c10 := Bool.eq_false_iff.mpr c10
    subst c10
    rw [if_neg (show ¬ (false = true) by decide)] at H
    obtain ⟨y119, hy119⟩ : ∃ y_ : List Int, y_ = (([] : List Int)) := ⟨_, rfl⟩
    (first | replace H := sb_ hy119 H | rw [← hy119] at H)
    have Ny119 := Aside0.mk hy119; clear hy119
    have H' := Aside0.mk H
    clear H
    go_wp2_with (first | ((with_reducible refine gate_dst (N := 20) rfl ?_); refine Kd.R_lit (Kd.int .u8) _ 5 ?hg (N := 20) ?hd (xs := ([] : List Int)) (inner := []) (ok := fun _ => True) (okp := fun _ => True) ?hr ?hp (fun _ hk => hk) trivial (Below.refl _ _) (Nat.le_refl _) (by simp) ?_; (case hd => rfl); (case hg => rfl); (case hr => first | (go_simp; done) | (go_simp; rfl)); (case hp => exact (Reps.none _ _)); intro v120 w13 ho14 hb hg_ hnew_; clear hg_ hnew_; (first | rw [← Ny119.out] at ho14 | (simp only [Int.reduceToNat] at ho14; rw [← Ny119.out] at ho14)); have HO121 := Aside0.mk (Kd.R_lower ho14 (below_size (hbA_ HB.out))); replace HB := (bs_ HB hb); clear hb ho14))
    go_loopg [5, 6] kj2 (fun kq v5 v6 w' => ∃ (x5_2 : List Int) (x6_2 : Int), v6 = .int .i64 x6_2 ∧ Aside0 (spec_BytesOf.l0 kq a0 x5_2 x6_2 = some r) ∧ Aside0 (kq ≤ kj2) ∧ Aside0 (Kd.R (Kd.int .u8) 5 w' w.heap.size (fun _ => True) v5 x5_2) ∧ Aside0 (Below w.heap.size w w'))
    case atStart => exact ⟨(y119), (wrap64 (a1 - 1)), (by first | rfl | (simp; done) | (simp [*]; done)), H', ⟨Nat.le_refl _⟩, ⟨kR_ HO121.out⟩, ⟨hbA_ HB.out⟩⟩
    case round =>
     clear H'; (try clear c1); (try clear p2); (try clear c5); (try clear p6); (try clear c7); (try clear c7b0); (try clear c7b1); (try clear c10); (try clear p2); (try clear p6)
     obtain ⟨x5_2, x6_2, rfl, HA, HK2, HO_5, HB⟩ := hrel
     cases gk with
     | zero => exact absurd HA.out (by simp [spec_BytesOf.l0])
     | succ k2 =>
      have H := HA.out; clear HA
      simp only [spec_BytesOf.l0] at H
      by_cases c15 : x6_2 ≥ 0
      ·rw [if_pos c15] at H
       have c15b0 : decide (0 ≤ x6_2) = true := decide_eq_true c15
       clear c15
       obtain ⟨ji16, hji16⟩ : ∃ j_ : Int, (wrap64 (8 * x6_2)) = j_ := ⟨_, rfl⟩
       (first | rw [hji16] at H | simp only [hji16] at H)
       have hji16w : (IntKind.i64.wrap (8 * x6_2)) = ji16 := (i64_w _).trans hji16
       by_cases c17 : 0 ≤ (ji16)
       ·rw [if_pos c17] at H
        have c17b0 := eq_true c17
        have c17b1 : decide (0 ≤ (ji16)) = true := decide_eq_true c17
        clear c17
        obtain ⟨ji18, hji18⟩ : ∃ j_ : Int, (shr .i64 a0 (ji16)) = j_ := ⟨_, rfl⟩
        (first | rw [hji18] at H | simp only [hji18] at H)
        have hji18_ : (a0 / 2 ^ min (ji16).toNat 64) = ji18 := hji18
        have hji18z : (ji16) ≤ 64 → (a0 / 2 ^ (ji16).toNat) = ji18 := shr_small hji18
        by_cases c19 : x5_2.length < 140737488355328
        ·rw [if_pos c19] at H
         have LMc19 := Aside0.mk c19; clear c19
         obtain ⟨y122, hy122⟩ : ∃ y_ : List Int, y_ = (x5_2 ++ [(Int.tmod (ji18) 256) % 256]) := ⟨_, rfl⟩
         (first | replace H := sb_ hy122 H | rw [← hy122] at H)
         have Ny122 := Aside0.mk hy122; clear hy122
         have H' := Aside0.mk H
         clear H
         go_wp2_with (first | ((with_reducible refine gate_builtin (b := .append) (xs := #[.tmp 27, .tmp 34]) rfl ?_); at_builtin; refine Kd.R_append (Kd.int .u8) (w0 := w) w.heap.size rfl (.tmp 27) (.tmp 34) 22 5 (.int .u8 0) 1 rfl Try.underlying22 info5 rfl (by decide) (by omega) u5 x5_2 ((Int.tmod (ji18) 256) % 256) [.int .u8 ((Int.tmod (ji18) 256) % 256)] (fun _ => True) (fun _ => False) rfl rfl ?aP (fun _ hk => hk.elim) ?aF ?aO ?aB ?aS ?aL ?_; (case aP => exact rfl); (case aB => exact (hbA_ HB.out)); (case aF => exact (fun _ _ => trivial)); (case aO => exact (kR_ HO_5.out)); (case aS => exact (below_size (hbA_ HB.out))); (case aL => have := LMc19.out; omega); intro v123 w20 ho hb hg hat; rw [← Ny122.out] at ho; replace HB := Aside0.mk (hb); have HO124 := Aside0.mk (ho); clear HO_5; clear ho hb hg hat))
         go_roundg k2
         case measure => have := HJ2.out; have := HK2.out; omega
         case rel => exact ⟨(y122), (wrap64 (x6_2 - 1)), (by first | rfl | (simp; done) | (simp [*]; done)), H', ⟨by have := HJ2.out; have := HK2.out; omega⟩, ⟨kR_ HO124.out⟩, ⟨hbA_ HB.out⟩⟩
        ·rw [if_neg c19] at H
         exact absurd H (by simp)
       ·rw [if_neg c17] at H
        exact absurd H (by simp)
      ·rw [if_neg c15] at H
       have c15b0 : decide (0 ≤ x6_2) = false := decide_eq_false c15
       clear c15
       obtain rfl := Option.some.inj H
       go_wp2
       go_ret
       exact ⟨_, by first | rfl | (simp [errW_none, errW_some] <;> rfl) | (simp [*, errW_none, errW_some] <;> rfl), kR_ HO_5.out, hbA_ HB.out⟩
mutual
def spec_l1Sum.l0 : Nat → List Int → Int → Int → Option (Int)
 | 0, _, _, _ => none
 | k + 1, x0, x3, x4 => if x4 < (x0.length : Int) then (if (Int.tmod x4 2) = 0 then (if 0 ≤ x4 then (spec_l1Sum.j1 k x0 (wrap64 (x3 + (wrap64 ((wrap64 (rd x0 x4)) * 256)))) x4) else (none)) else (if 0 ≤ x4 then (spec_l1Sum.j1 k x0 (wrap64 (x3 + (wrap64 (rd x0 x4)))) x4) else (none))) else (some x3)
def spec_l1Sum.j1 : Nat → List Int → Int → Int → Option (Int)
 | 0, _, _, _ => none
 | k + 1, x0, x3, x4 => if x3 > 65535 then (spec_l1Sum.l0 k x0 (wrap64 (x3 - 65535)) (wrap64 (x4 + 1))) else (spec_l1Sum.l0 k x0 x3 (wrap64 (x4 + 1)))
end
def spec_l1Sum.f (k : Nat) (l0 : List Int) : Option (Int) := spec_l1Sum.l0 k l0 0 0
theorem spec_l1Sum.mono_l : ∀ k, (∀ y0 y1 y2, LeO (spec_l1Sum.l0 k y0 y1 y2) (spec_l1Sum.l0 (k + 1) y0 y1 y2)) ∧ (∀ y0 y1 y2, LeO (spec_l1Sum.j1 k y0 y1 y2) (spec_l1Sum.j1 (k + 1) y0 y1 y2))
 | 0 => ⟨fun _ _ _ r h => by simp [spec_l1Sum.l0] at h, fun _ _ _ r h => by simp [spec_l1Sum.j1] at h⟩
 | k + 1 => by
  obtain ⟨ih0, ih1⟩ := spec_l1Sum.mono_l k
  refine ⟨?_, ?_⟩
  ·intro y0 y1 y2
   unfold spec_l1Sum.l0
   repeat' first | (with_reducible first | apply ih0 | apply ih1 | exact LeO.refl _ | exact LeO.none _ | refine LeO.ite ?_ ?_ | refine LeO.bind ?_ fun _ => ?_) | apply ih0 | apply ih1 | exact LeO.none _ | refine LeO.ite ?_ ?_ | refine LeO.bind ?_ fun _ => ?_
  ·intro y0 y1 y2
   unfold spec_l1Sum.j1
   repeat' first | (with_reducible first | apply ih0 | apply ih1 | exact LeO.refl _ | exact LeO.none _ | refine LeO.ite ?_ ?_ | refine LeO.bind ?_ fun _ => ?_) | apply ih0 | apply ih1 | exact LeO.none _ | refine LeO.ite ?_ ?_ | refine LeO.bind ?_ fun _ => ?_
theorem spec_l1Sum.mono : ∀ a0 k, LeO (spec_l1Sum.f k a0) (spec_l1Sum.f (k + 1) a0) := by
 intro a0 k
 obtain ⟨ih0, ih1⟩ := spec_l1Sum.mono_l k
 unfold spec_l1Sum.f
 repeat' first | (with_reducible first | apply ih0 | apply ih1 | exact LeO.refl _ | exact LeO.none _ | refine LeO.ite ?_ ?_ | refine LeO.bind ?_ fun _ => ?_) | apply ih0 | apply ih1 | exact LeO.none _ | refine LeO.ite ?_ ?_ | refine LeO.bind ?_ fun _ => ?_
set_option maxHeartbeats 8000000 in
set_option maxRecDepth 100000 in
theorem spec_l1Sum.calls (k : Nat) (A0 : Option Addr) (c0 : Nat) (l0 : List Int) (r : Int) (w : World) (hr0 : Kd.C (Kd.int .u8) w A0 l0.length l0) (hc0 : l0.length ≤ c0) (h : spec_l1Sum.f k l0 = some r) :
  Calls Try.prog 106 #[.slice A0 l0.length c0] w fun e w' => e = .returned (.int .i64 r) ∧ Drawn0 w w' := by
 have HR0 := Aside0.mk hr0; have HC0 := Aside0.mk hc0; clear hr0 hc0
 have H : (spec_l1Sum.l0 k l0 0 0) = some r := h
 clear h
 have H' := Aside0.mk H
 clear H
 go_enter Try.func106, Try.ntmps106
 go_wp2
 go_loopg [3, 4] k (fun kq v3 v4 w' => ∃ (x3_1 : Int) (x4_1 : Int), v3 = .int .i64 x3_1 ∧ v4 = .int .i64 x4_1 ∧ Aside0 (spec_l1Sum.l0 kq l0 x3_1 x4_1 = some r) ∧ Aside0 (kq ≤ k) ∧ Drawn0 w w')
 case atStart => exact ⟨(0), (0), (by first | rfl | (simp; done) | (simp [*]; done)), (by first | rfl | (simp; done) | (simp [*]; done)), H', ⟨Nat.le_refl _⟩, by repeat (first | exact Drawn0.refl _ | apply Drawn0.step)⟩
 case round =>
  clear H'; (try clear c1)
  obtain ⟨x3_1, x4_1, rfl, rfl, HA, HK1, ⟨m1, rfl⟩⟩ := hrel
  cases gk with
  | zero => exact absurd HA.out (by simp [spec_l1Sum.l0])
  | succ k1 =>
   have H := HA.out; clear HA
   simp only [spec_l1Sum.l0] at H
   by_cases c2 : x4_1 < (l0.length : Int)
   ·rw [if_pos c2] at H
    have c2b0 : decide (x4_1 < (l0.length : Int)) = true := decide_eq_true c2
    clear c2; have HC3 := Aside0.mk H; clear H
    go_upto_if 13 with (fail)
    go_cut [3] (fun v3 wc => ∃ (kq : Nat) (x3_2 : Int), v3 = .int .i64 x3_2 ∧ Aside0 (spec_l1Sum.j1 kq l0 x3_2 x4_1 = some r) ∧ Aside0 (kq ≤ k1) ∧ Drawn0 w wc)
    case first =>
     have H := HC3.out; clear HC3
     by_cases c4 : (Int.tmod x4_1 2) = 0
     ·rw [if_pos c4] at H
      have c4b0 : ((Int.tmod x4_1 2) == 0) = true := beq_iff_eq.mpr c4
      have c4b1 : ((Int.tmod x4_1 2) != 0) = false := bne_eq_false_iff_eq.mpr c4
      clear c4
      (first | rw [c4b0] | (simp only [i64_w, i32_w]; rw [c4b0]) | skip)
      by_cases c5 : 0 ≤ x4_1
      ·rw [if_pos c5] at H
       have c5b0 : decide (0 ≤ x4_1) = true := decide_eq_true c5
       clear c5
       have H' := Aside0.mk H
       clear H
       have p125 : 0 ≤ (x4_1 : Int) := of_decide_eq_true (by first | (with_reducible assumption) | assumption)
       have q125 : x4_1 < (l0.length : Int) := of_decide_eq_true (by first | (with_reducible assumption) | assumption)
       obtain ⟨ad125, e125, hx125_0⟩ := Kd.at_int HR0.out x4_1 p125 q125
       cases e125
       replace p125 := eq_true p125
       replace q125 := eq_true q125
       go_wp2
       go_meet
       case rel => exact ⟨_, (wrap64 (x3_1 + (wrap64 ((wrap64 (rd l0 x4_1)) * 256)))), (by first | rfl | (simp; done) | (simp [*]; done)), H', ⟨by have := HK1.out; first | omega | exact Nat.le_refl _⟩, by repeat (first | exact Drawn0.refl _ | apply Drawn0.step)⟩
      ·rw [if_neg c5] at H
       exact absurd H (by simp)
     ·rw [if_neg c4] at H
      have c4b0 : ((Int.tmod x4_1 2) == 0) = false := beq_eq_false_iff_ne.mpr c4
      have c4b1 : ((Int.tmod x4_1 2) != 0) = true := bne_iff_ne.mpr c4
      (first | rw [c4b0] | (simp only [i64_w, i32_w]; rw [c4b0]) | skip)
      by_cases c6 : 0 ≤ x4_1
      ·rw [if_pos c6] at H
       have c6b0 : decide (0 ≤ x4_1) = true := decide_eq_true c6
       clear c6
       have H' := Aside0.mk H
       clear H
       have p126 : 0 ≤ (x4_1 : Int) := of_decide_eq_true (by first | (with_reducible assumption) | assumption)
       have q126 : x4_1 < (l0.length : Int) := of_decide_eq_true (by first | (with_reducible assumption) | assumption)
       obtain ⟨ad126, e126, hx126_0⟩ := Kd.at_int HR0.out x4_1 p126 q126
       cases e126
       replace p126 := eq_true p126
       replace q126 := eq_true q126
       go_wp2
       go_meet
       case rel => exact ⟨_, (wrap64 (x3_1 + (wrap64 (rd l0 x4_1)))), (by first | rfl | (simp; done) | (simp [*]; done)), H', ⟨by have := HK1.out; first | omega | exact Nat.le_refl _⟩, by repeat (first | exact Drawn0.refl _ | apply Drawn0.step)⟩
      ·rw [if_neg c6] at H
       exact absurd H (by simp)
    case rest =>
     clear HC3; (try clear c1); (try clear p1); (try clear q1); (try clear hx1); (try clear c2); (try clear c2b0); (try clear p2); (try clear c4); (try clear c4b0); (try clear c4b1); (try clear c5); (try clear c5b0); (try clear c6); (try clear c6b0); (try clear p6); (try clear hx125_0); (try clear hx126_0); (try clear p125); (try clear p126); (try clear q125); (try clear q126)
     obtain ⟨kq, x3_2, rfl, HA, HJ2, ⟨mc2, rfl⟩⟩ := hcut
     cases kq with
     | zero => exact absurd HA.out (by simp [spec_l1Sum.j1])
     | succ kj2 =>
      have H := HA.out; clear HA
      simp only [spec_l1Sum.j1] at H
      by_cases c7 : x3_2 > 65535
      ·rw [if_pos c7] at H
       have c7b0 : decide (65535 < x3_2) = true := decide_eq_true c7
       clear c7
       have H' := Aside0.mk H
       clear H
       go_wp2
       go_roundg kj2
       case measure => have := HK1.out; have := HJ2.out; omega
       case rel => exact ⟨(wrap64 (x3_2 - 65535)), (wrap64 (x4_1 + 1)), (by first | rfl | (simp; done) | (simp [*]; done)), (by first | rfl | (simp; done) | (simp [*]; done)), H', ⟨by have := HK1.out; have := HJ2.out; omega⟩, by repeat (first | exact Drawn0.refl _ | apply Drawn0.step)⟩
      ·rw [if_neg c7] at H
       have c7b0 : decide (65535 < x3_2) = false := decide_eq_false c7
       clear c7
       have H' := Aside0.mk H
       clear H
       go_wp2
       go_roundg kj2
       case measure => have := HK1.out; have := HJ2.out; omega
       case rel => exact ⟨(x3_2), (wrap64 (x4_1 + 1)), (by first | rfl | (simp; done) | (simp [*]; done)), (by first | rfl | (simp; done) | (simp [*]; done)), H', ⟨by have := HK1.out; have := HJ2.out; omega⟩, by repeat (first | exact Drawn0.refl _ | apply Drawn0.step)⟩
   ·rw [if_neg c2] at H
    have c2b0 : decide (x4_1 < (l0.length : Int)) = false := decide_eq_false c2
    clear c2
    obtain rfl := Option.some.inj H
    go_wp2
    go_ret
    exact ⟨by first | rfl | (simp; done) | (simp [*]; done), by repeat (first | exact Drawn0.refl _ | apply Drawn0.step)⟩
def spec_SumOf.f (k : Nat) (l0 : List Int) : Option (Int) := (spec_l1Sum.f k l0).bind fun t127 => (some (wrap64 (65535 - t127)))
theorem spec_SumOf.mono : ∀ a0 k, LeO (spec_SumOf.f k a0) (spec_SumOf.f (k + 1) a0) := by
 intro a0 k
 unfold spec_SumOf.f
 repeat' first | (with_reducible first | apply spec_l1Sum.mono | exact LeO.refl _ | exact LeO.none _ | refine LeO.ite ?_ ?_ | refine LeO.bind ?_ fun _ => ?_) | apply spec_l1Sum.mono | exact LeO.none _ | refine LeO.ite ?_ ?_ | refine LeO.bind ?_ fun _ => ?_
set_option maxHeartbeats 8000000 in
set_option maxRecDepth 100000 in
theorem spec_SumOf.calls (k : Nat) (A0 : Option Addr) (c0 : Nat) (l0 : List Int) (r : Int) (w : World) (hr0 : Kd.C (Kd.int .u8) w A0 l0.length l0) (hc0 : l0.length ≤ c0) (h : spec_SumOf.f k l0 = some r) :
  Calls Try.prog 91 #[.slice A0 l0.length c0] w fun e w' => e = .returned (.int .i64 r) ∧ Drawn0 w w' := by
 have HR0 := Aside0.mk hr0; have HC0 := Aside0.mk hc0; clear hr0 hc0
 have H : ((spec_l1Sum.f k l0).bind fun t127 => (some (wrap64 (65535 - t127)))) = some r := h
 clear h
 replace H := Option.bind_eq_some_iff.mp H
 obtain ⟨t127, A20, H⟩ := H
 (try dsimp only at H)
 have A2 := Aside0.mk A20; clear A20
 obtain rfl := Option.some.inj H
 go_enter Try.func91, Try.ntmps91
 go_wp2_with (first | ((with_reducible refine gate_callee (f := 106) rfl ?_); refine goesL_ (some 4) rfl rfl Try.func106 (by kernel_rfl) rfl #[.slice A0 l0.length c0] rfl ar_ ?_; (with_reducible refine (spec_l1Sum.calls k _ _ l0 t127 _ ?side1 ?side2 A2.out).mono ?_); (case side1 => exact kC_ HR0.out); (case side2 => exact HC0.out); rintro e w' ⟨rfl, ⟨nd, rfl⟩⟩; refine ⟨_, rfl, ?_⟩))
 go_ret
 exact ⟨by first | rfl | (simp; done) | (simp [*]; done), by repeat (first | exact Drawn0.refl _ | apply Drawn0.step)⟩
def spec_l9Sum.f (k : Nat) (a0 : Int) (a1 : Int) (l2 : List Int) : Option (Int) := (spec_BytesOf.f k a0 2).bind fun t128 => ((spec_BytesOf.f k a1 2).bind fun t131 => (if t128.length + t131.length < 140737488355328 then ((some (t128 ++ t131 : List Int)).bind fun y134 => (if y134.length + l2.length < 140737488355328 then ((spec_SumOf.f k (y134 ++ l2)).bind fun t140 => (some t140)) else (none))) else (none)))
theorem spec_l9Sum.mono : ∀ a0 a1 a2 k, LeO (spec_l9Sum.f k a0 a1 a2) (spec_l9Sum.f (k + 1) a0 a1 a2) := by
 intro a0 a1 a2 k
 unfold spec_l9Sum.f
 repeat' first | (with_reducible first | apply spec_BytesOf.mono | apply spec_SumOf.mono | exact LeO.refl _ | exact LeO.none _ | refine LeO.ite ?_ ?_ | refine LeO.bind ?_ fun _ => ?_) | apply spec_BytesOf.mono | apply spec_SumOf.mono | exact LeO.none _ | refine LeO.ite ?_ ?_ | refine LeO.bind ?_ fun _ => ?_
set_option maxHeartbeats 8000000 in
set_option maxRecDepth 100000 in
theorem spec_l9Sum.calls (k : Nat) (a0 : Int) (a1 : Int) (A2 : Option Addr) (c2 : Nat) (l2 : List Int) (r : Int) (w : World) (hr2 : Kd.C (Kd.int .u8) w A2 l2.length l2) (hc2 : l2.length ≤ c2) (h : spec_l9Sum.f k a0 a1 l2 = some r) :
  Calls Try.prog 60 #[.int .i64 a0, .int .i64 a1, .slice A2 l2.length c2] w fun e w' => e = .returned (.int .i64 r) ∧ Below w.heap.size w w' := by
 have HR2 := Aside0.mk hr2; have HC2 := Aside0.mk hc2; clear hr2 hc2
 have HB := Aside0.mk (Below.refl w.heap.size w)
 have H : ((spec_BytesOf.f k a0 2).bind fun t128 => ((spec_BytesOf.f k a1 2).bind fun t131 => (if t128.length + t131.length < 140737488355328 then ((some (t128 ++ t131 : List Int)).bind fun y134 => (if y134.length + l2.length < 140737488355328 then ((spec_SumOf.f k (y134 ++ l2)).bind fun t140 => (some t140)) else (none))) else (none)))) = some r := h
 clear h
 replace H := Option.bind_eq_some_iff.mp H
 obtain ⟨t128, A40, H⟩ := H
 (try dsimp only at H)
 have A4 := Aside0.mk A40; clear A40
 replace H := Option.bind_eq_some_iff.mp H
 obtain ⟨t131, A50, H⟩ := H
 (try dsimp only at H)
 have A5 := Aside0.mk A50; clear A50
 by_cases c6 : t128.length + t131.length < 140737488355328
 ·rw [if_pos c6] at H
  have LMc6 := Aside0.mk c6; clear c6
  obtain ⟨y134, hy134⟩ : ∃ y_ : List Int, y_ = (t128 ++ t131) := ⟨_, rfl⟩
  (first | replace H := sb_ hy134 H | rw [← hy134] at H)
  have Ny134 := Aside0.mk hy134; clear hy134
  by_cases c7 : y134.length + l2.length < 140737488355328
  ·rw [if_pos c7] at H
   have LMc7 := Aside0.mk c7; clear c7
   obtain ⟨y137, hy137⟩ : ∃ y_ : List Int, y_ = (y134 ++ l2) := ⟨_, rfl⟩
   (first | replace H := sb_ hy137 H | rw [← hy137] at H)
   have Ny137 := Aside0.mk hy137; clear hy137
   replace H := Option.bind_eq_some_iff.mp H
   obtain ⟨t140, A80, H⟩ := H
   (try dsimp only at H)
   have A8 := Aside0.mk A80; clear A80
   obtain rfl := Option.some.inj H
   go_enter Try.func60, Try.ntmps60
   go_wp2_with (first | ((with_reducible refine gate_callee (f := 75) rfl ?_); refine goesL_ (some 8) rfl rfl Try.func75 (by kernel_rfl) rfl #[.int .i64 a0, .int .i64 2] rfl ar_ ?_; (with_reducible refine (spec_BytesOf.calls k a0 2 t128 _ A4.out).mono ?_); rintro e w9 ⟨v129, rfl, ho0, hb⟩; refine ⟨_, rfl, ?_⟩; have HO130 := Aside0.mk (Kd.R_lower ho0 (below_size (hbA_ HB.out))); replace HB := (bs_ HB hb); (try clear hb); (try clear hb2); (try clear hk); (try clear hi); (try clear ho0)) | ((with_reducible refine gate_callee (f := 75) rfl ?_); refine goesL_ (some 10) rfl rfl Try.func75 (by kernel_rfl) rfl #[.int .i64 a1, .int .i64 2] rfl ar_ ?_; (with_reducible refine (spec_BytesOf.calls k a1 2 t131 _ A5.out).mono ?_); rintro e w10 ⟨v132, rfl, ho0, hb⟩; refine ⟨_, rfl, ?_⟩; have HO133 := Aside0.mk (Kd.R_lower (Kd.R_new' ho0 (Kd.R_lt (kR_ HO130.out))) (below_size (hbA_ HB.out))); replace HO130 := Aside0.mk (Kd.R_elder' (kR_ HO130.out) (Kd.R_base ho0) hb); replace HB := (bs_ HB hb); (try clear hb); (try clear hb2); (try clear hk); (try clear hi); (try clear ho0); obtain ⟨Ao12, co12, eo12⟩ := Kd.R_slice HO133.out; subst eo12) | ((with_reducible refine gate_builtin (b := .append) (xs := #[.tmp 8, .tmp 10]) rfl ?_); at_builtin; refine Kd.R_append_rows (Kd.int .u8) (w0 := w) w.heap.size rfl (.tmp 8) (.tmp 10) 22 5 (.int .u8 0) 1 rfl Try.underlying22 info5 rfl (by decide) (by omega) v129 t128 t131 _ _ _ (fun k_ => some k_ ≠ (.slice Ao12 t131.length co12 : Value).ownBlock) (fun _ => False) rfl rfl ?aO ?aR (fun _ _ h => h) (fun _ h => h.elim) ?aF ?aB ?aS ?aL ?_; (case aR => exact kC_ (Kd.R_reads' HO133.out).2.2); (case aB => exact (hbA_ HB.out)); (case aF => exact (fun k_ hk => Kd.fresh' (Kd.R_lt (kR_ HO133.out)) k_ hk)); (case aO => exact (by refine kR_ ?_; first | exact Kd.R_mono HO130.out (fun _ hk => hk.2) | exact Kd.R_mono HO130.out (fun _ _ => trivial))); (case aS => exact (below_size (hbA_ HB.out))); (case aL => have := LMc6.out; omega); intro v135 w11 ho hb hg hat; rw [← Ny134.out] at ho; replace HO133 := Aside0.mk (Kd.R_after (ok := (fun _ => True)) (kR_ HO133.out) hg hat); replace HB := Aside0.mk (hb); have HO136 := Aside0.mk (ho); clear HO130; clear ho hb hg hat) | ((with_reducible refine gate_builtin (b := .append) (xs := #[.tmp 11, .tmp 12]) rfl ?_); at_builtin; refine Kd.R_append_rows (Kd.int .u8) (w0 := w) w.heap.size rfl (.tmp 11) (.tmp 12) 22 5 (.int .u8 0) 1 rfl Try.underlying22 info5 rfl (by decide) (by omega) v135 y134 l2 _ _ _ (fun k_ => some k_ ≠ (.slice Ao12 t131.length co12 : Value).ownBlock) (fun _ => False) rfl rfl ?aO ?aR (fun _ _ h => h) (fun _ h => h.elim) ?aF ?aB ?aS ?aL ?_; (case aR => exact kC_ (Kd.C_below HR2.out HB.out)); (case aB => exact (hbA_ HB.out)); (case aF => exact (fun k_ hk => Kd.fresh' (Kd.R_lt (kR_ HO133.out)) k_ hk)); (case aO => exact (kR_ HO136.out)); (case aS => exact (below_size (hbA_ HB.out))); (case aL => have := LMc7.out; omega); intro v138 w13 ho hb hg hat; rw [← Ny137.out] at ho; replace HO133 := Aside0.mk (Kd.R_after (ok := (fun _ => True)) (kR_ HO133.out) hg hat); replace HB := Aside0.mk (hb); have HO139 := Aside0.mk (ho); clear HO136; clear ho hb hg hat; obtain ⟨Ao14, co14, eo14⟩ := Kd.R_slice HO139.out; subst eo14) | ((with_reducible refine gate_callee (f := 91) rfl ?_); refine goesL_ (some 14) rfl rfl Try.func91 (by kernel_rfl) rfl #[.slice Ao14 y137.length co14] rfl ar_ ?_; (with_reducible refine (spec_SumOf.calls k _ _ y137 t140 _ ?side1 ?side2 A8.out).mono ?_); (case side1 => exact kC_ (Kd.R_reads' HO139.out).2.2); (case side2 => exact (Kd.R_reads' HO139.out).2.1); rintro e w' ⟨rfl, ⟨nd, rfl⟩⟩; refine ⟨_, rfl, ?_⟩))
   go_ret
   exact ⟨by first | rfl | (simp [errW_none, errW_some] <;> rfl) | (simp [*, errW_none, errW_some] <;> rfl), hbA_ HB.out⟩
  ·rw [if_neg c7] at H
   exact absurd H (by simp)
 ·rw [if_neg c6] at H
  exact absurd H (by simp)
end Go.Proofs.Ytpbeljcgcdilnaa.PFnExactSegmentFrom
