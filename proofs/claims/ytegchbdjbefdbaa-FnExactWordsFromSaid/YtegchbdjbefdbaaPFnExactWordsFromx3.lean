/- Printed by wip/xp/xprint.sh out of the translation, for this claim: what each function answers, as a plain function, and that the machine does just that. No condition. -/
import Derived.Test.YtegchbdjbefdbaaPFnExactWordsFromx0
import Derived.Test.YtegchbdjbefdbaaPFnExactWordsFromx1
import Derived.Test.YtegchbdjbefdbaaPFnExactWordsFromx2
namespace Go.Proofs.Ytegchbdjbefdbaa.PFnExactWordsFrom
open Go.RowKit Go.Proofs.YtegchbdjbefdbaaW.PrintWords Go.Proofs.YtegchbdjbefdbaaW.PrintLast Go.Proofs.YtegchbdjbefdbaaW.PrintMore
attribute [local go_sem] max2_int min2_int max_two min_two max_three min_three max_four min_four   -- for this text's walks alone
set_option linter.unusedVariables false
set_option linter.unusedSimpArgs false
def laws_heldWordsS.l0 : Nat → List (S41) → Int → Int → Option (Int)
 | 0, _, _, _ => none
 | k + 1, x0, x1, x5 => if x5 < (x0.length : Int) then (if 0 ≤ x5 then (if ((rd_T41 x0 x5).f0) = x1 then ((laws_heldByteS.f k ((rd_T41 x0 x5).f1) (wrap64 (x1 + 1))).bind fun t153 => (if t153 < 0 then (some (-1)) else (laws_heldWordsS.l0 k x0 t153 (wrap64 (x5 + 1))))) else (some (-1))) else (none)) else (some x1)
def laws_heldWordsS.f (k : Nat) (l0 : List (S41)) (a1 : Int) : Option (Int) := laws_heldWordsS.l0 k l0 a1 0
theorem laws_heldWordsS.mono_l : ∀ k, (∀ y0 y1 y2, LeO (laws_heldWordsS.l0 k y0 y1 y2) (laws_heldWordsS.l0 (k + 1) y0 y1 y2))
 | 0 => fun _ _ _ r h => by simp [laws_heldWordsS.l0] at h
 | k + 1 => by
  have ih0 := laws_heldWordsS.mono_l k
  ·intro y0 y1 y2
   unfold laws_heldWordsS.l0
   repeat' first | (with_reducible first | apply ih0 | apply laws_heldByteS.mono | exact LeO.refl _ | exact LeO.none _ | refine LeO.ite ?_ ?_ | refine LeO.bind ?_ fun _ => ?_) | apply ih0 | apply laws_heldByteS.mono | exact LeO.none _ | refine LeO.ite ?_ ?_ | refine LeO.bind ?_ fun _ => ?_
theorem laws_heldWordsS.mono : ∀ a0 a1 k, LeO (laws_heldWordsS.f k a0 a1) (laws_heldWordsS.f (k + 1) a0 a1) := by
 intro a0 a1 k
 have ih0 := laws_heldWordsS.mono_l k
 unfold laws_heldWordsS.f
 repeat' first | (with_reducible first | apply ih0 | apply laws_heldByteS.mono | exact LeO.refl _ | exact LeO.none _ | refine LeO.ite ?_ ?_ | refine LeO.bind ?_ fun _ => ?_) | apply ih0 | apply laws_heldByteS.mono | exact LeO.none _ | refine LeO.ite ?_ ?_ | refine LeO.bind ?_ fun _ => ?_
set_option maxHeartbeats 8000000 in
set_option maxRecDepth 100000 in
theorem laws_heldWordsS.calls (k : Nat) (A0 : Option Addr) (c0 : Nat) (l0 : List (S41)) (a1 : Int) (r : Int) (w : World) (hr0 : Kd.C k41 w A0 l0.length l0) (hc0 : l0.length ≤ c0) (h : laws_heldWordsS.f k l0 a1 = some r) :
  Calls Try.prog 43 #[.slice A0 l0.length c0, .int .i64 a1] w fun e w' => e = .returned (.int .i64 r) ∧ Drawn0 w w' := by
 have HR0 := Aside0.mk hr0; have HC0 := Aside0.mk hc0; clear hr0 hc0
 have H : (laws_heldWordsS.l0 k l0 a1 0) = some r := h
 clear h
 have H' := Aside0.mk H
 clear H
 go_enter Try.func43, Try.ntmps43
 go_wp2
 go_loopg [1, 5] k (fun kq v1 v5 w' => ∃ (x1_1 : Int) (x5_1 : Int), v1 = .int .i64 x1_1 ∧ v5 = .int .i64 x5_1 ∧ Aside0 (laws_heldWordsS.l0 kq l0 x1_1 x5_1 = some r) ∧ Aside0 (kq ≤ k) ∧ Drawn0 w w')
 case atStart => exact ⟨(a1), (0), (by first | rfl | (simp; done) | (simp [*]; done)), (by first | rfl | (simp; done) | (simp [*]; done)), H', ⟨Nat.le_refl _⟩, by repeat (first | exact Drawn0.refl _ | apply Drawn0.step)⟩
 case round =>
  clear H'; (try clear p2)
  obtain ⟨x1_1, x5_1, rfl, rfl, HA, HK1, ⟨m1, rfl⟩⟩ := hrel
  cases gk with
  | zero => exact absurd HA.out (by simp [laws_heldWordsS.l0])
  | succ k1 =>
   have H := HA.out; clear HA
   simp only [laws_heldWordsS.l0] at H
   by_cases c3 : x5_1 < (l0.length : Int)
   ·rw [if_pos c3] at H
    have c3b0 : decide (x5_1 < (l0.length : Int)) = true := decide_eq_true c3
    clear c3
    by_cases c4 : 0 ≤ x5_1
    ·rw [if_pos c4] at H
     have c4b0 : decide (0 ≤ x5_1) = true := decide_eq_true c4
     clear c4
     by_cases c5 : ((rd_T41 l0 x5_1).f0) = x1_1
     ·rw [if_pos c5] at H
      have c5b0 : (((rd_T41 l0 x5_1).f0) == x1_1) = true := beq_iff_eq.mpr c5
      have c5b1 : (((rd_T41 l0 x5_1).f0) != x1_1) = false := bne_eq_false_iff_eq.mpr c5
      clear c5
      replace H := Option.bind_eq_some_iff.mp H
      obtain ⟨t153, A60, H⟩ := H
      (try dsimp only at H)
      have A6 := Aside0.mk A60; clear A60
      by_cases c7 : t153 < 0
      ·rw [if_pos c7] at H
       have c7b0 : decide (t153 < 0) = true := decide_eq_true c7
       clear c7
       obtain rfl := Option.some.inj H
       have p151 : 0 ≤ (x5_1 : Int) := of_decide_eq_true (by first | (with_reducible assumption) | assumption)
       have q151 : x5_1 < (l0.length : Int) := of_decide_eq_true (by first | (with_reducible assumption) | assumption)
       obtain ⟨ad151, A151_1, c151_1, e151, hx151_0, hx151_1, hl151_1, hi151_1⟩ := at_T41 HR0.out x5_1 p151 q151
       cases e151
       have HR151_1 := Aside0.mk hi151_1; have HC151_1 := Aside0.mk hl151_1; clear hi151_1 hl151_1
       replace p151 := eq_true p151
       replace q151 := eq_true q151
       have p152 : 0 ≤ (x5_1 : Int) := of_decide_eq_true (by first | (with_reducible assumption) | assumption)
       have q152 : x5_1 < (l0.length : Int) := of_decide_eq_true (by first | (with_reducible assumption) | assumption)
       obtain ⟨ad152, A152_1, c152_1, e152, hx152_0, hx152_1, hl152_1, hi152_1⟩ := at_T41 HR0.out x5_1 p152 q152
       obtain rfl : ad151 = ad152 := (by injection e152)
       have HR152_1 := Aside0.mk hi152_1; have HC152_1 := Aside0.mk hl152_1; clear hi152_1 hl152_1
       replace p152 := eq_true p152
       replace q152 := eq_true q152
       have ea_ := Option.some.inj (hx151_1.symm.trans hx152_1)
       injection ea_ with ea_ en_ ec_
       subst ea_; subst ec_; clear en_
       go_wp2_with (first | ((with_reducible refine gate_callee (f := 35) rfl ?_); refine goesL_ (some 27) rfl rfl Try.func35 (by kernel_rfl) rfl #[.slice A151_1 ((rd_T41 l0 x5_1).f1).length c151_1, .int .i64 (wrap64 (x1_1 + 1))] rfl ar_ ?_; (with_reducible refine (laws_heldByteS.calls k1 _ _ ((rd_T41 l0 x5_1).f1) (wrap64 (x1_1 + 1)) t153 _ ?side1 ?side2 A6.out).mono ?_); (case side1 => exact kC_ HR152_1.out); (case side2 => exact HC152_1.out); rintro e w' ⟨rfl, ⟨nd, rfl⟩⟩; refine ⟨_, rfl, ?_⟩))
       go_ret
       exact ⟨by first | rfl | (simp; done) | (simp [*]; done), by repeat (first | exact Drawn0.refl _ | apply Drawn0.step)⟩
      ·rw [if_neg c7] at H
       have c7b0 : decide (t153 < 0) = false := decide_eq_false c7
       clear c7
       have H' := Aside0.mk H
       clear H
       have p151 : 0 ≤ (x5_1 : Int) := of_decide_eq_true (by first | (with_reducible assumption) | assumption)
       have q151 : x5_1 < (l0.length : Int) := of_decide_eq_true (by first | (with_reducible assumption) | assumption)
       obtain ⟨ad151, A151_1, c151_1, e151, hx151_0, hx151_1, hl151_1, hi151_1⟩ := at_T41 HR0.out x5_1 p151 q151
       cases e151
       have HR151_1 := Aside0.mk hi151_1; have HC151_1 := Aside0.mk hl151_1; clear hi151_1 hl151_1
       replace p151 := eq_true p151
       replace q151 := eq_true q151
       have p152 : 0 ≤ (x5_1 : Int) := of_decide_eq_true (by first | (with_reducible assumption) | assumption)
       have q152 : x5_1 < (l0.length : Int) := of_decide_eq_true (by first | (with_reducible assumption) | assumption)
       obtain ⟨ad152, A152_1, c152_1, e152, hx152_0, hx152_1, hl152_1, hi152_1⟩ := at_T41 HR0.out x5_1 p152 q152
       obtain rfl : ad151 = ad152 := (by injection e152)
       have HR152_1 := Aside0.mk hi152_1; have HC152_1 := Aside0.mk hl152_1; clear hi152_1 hl152_1
       replace p152 := eq_true p152
       replace q152 := eq_true q152
       have ea_ := Option.some.inj (hx151_1.symm.trans hx152_1)
       injection ea_ with ea_ en_ ec_
       subst ea_; subst ec_; clear en_
       go_wp2_with (first | ((with_reducible refine gate_callee (f := 35) rfl ?_); refine goesL_ (some 27) rfl rfl Try.func35 (by kernel_rfl) rfl #[.slice A151_1 ((rd_T41 l0 x5_1).f1).length c151_1, .int .i64 (wrap64 (x1_1 + 1))] rfl ar_ ?_; (with_reducible refine (laws_heldByteS.calls k1 _ _ ((rd_T41 l0 x5_1).f1) (wrap64 (x1_1 + 1)) t153 _ ?side1 ?side2 A6.out).mono ?_); (case side1 => exact kC_ HR152_1.out); (case side2 => exact HC152_1.out); rintro e w' ⟨rfl, ⟨nd, rfl⟩⟩; refine ⟨_, rfl, ?_⟩))
       go_roundg k1
       case measure => have := HK1.out; omega
       case rel => exact ⟨(t153), (wrap64 (x5_1 + 1)), (by first | rfl | (simp; done) | (simp [*]; done)), (by first | rfl | (simp; done) | (simp [*]; done)), H', ⟨by have := HK1.out; omega⟩, by repeat (first | exact Drawn0.refl _ | apply Drawn0.step)⟩
     ·rw [if_neg c5] at H
      have c5b0 : (((rd_T41 l0 x5_1).f0) == x1_1) = false := beq_eq_false_iff_ne.mpr c5
      have c5b1 : (((rd_T41 l0 x5_1).f0) != x1_1) = true := bne_iff_ne.mpr c5
      obtain rfl := Option.some.inj H
      have p151 : 0 ≤ (x5_1 : Int) := of_decide_eq_true (by first | (with_reducible assumption) | assumption)
      have q151 : x5_1 < (l0.length : Int) := of_decide_eq_true (by first | (with_reducible assumption) | assumption)
      obtain ⟨ad151, A151_1, c151_1, e151, hx151_0, hx151_1, hl151_1, hi151_1⟩ := at_T41 HR0.out x5_1 p151 q151
      cases e151
      have HR151_1 := Aside0.mk hi151_1; have HC151_1 := Aside0.mk hl151_1; clear hi151_1 hl151_1
      replace p151 := eq_true p151
      replace q151 := eq_true q151
      go_wp2
      go_ret
      exact ⟨by first | rfl | (simp; done) | (simp [*]; done), by repeat (first | exact Drawn0.refl _ | apply Drawn0.step)⟩
    ·rw [if_neg c4] at H
     exact absurd H (by simp)
   ·rw [if_neg c3] at H
    have c3b0 : decide (x5_1 < (l0.length : Int)) = false := decide_eq_false c3
    clear c3
    obtain rfl := Option.some.inj H
    go_wp2
    go_ret
    exact ⟨by first | rfl | (simp; done) | (simp [*]; done), by repeat (first | exact Drawn0.refl _ | apply Drawn0.step)⟩
def laws_FnExactWordsFrom.f (k : Nat) (l0 : List Int) : Option (Bool) := if (l0.length : Int) > 1048576 then (some true) else ((laws_toByteS.f k l0).bind fun t154 => ((spec_WordsFrom.f k t154).bind fun bt157 => ((laws_toByteS.f k l0).bind fun t162 => ((impl_WordsFrom.f k t162).bind fun bt165 => ((laws_eqWordsS.f k bt165.1 bt157.1).bind fun t170 => (if t170 = true then (if bt165.2.1 = bt157.2.1 then (if (bt165.2.2 != bt157.2.2) = true then (some false) else ((laws_toByteS.f k l0).bind fun t171 => ((laws_eqByteS.f k t162 t171).bind fun t174 => (if t174 = true then ((laws_markByteS.f k t162 1).bind fun bt175 => (if bt175.1 < 0 then (some false) else ((laws_eqWordsS.f k bt165.1 bt157.1).bind fun t177 => (if t177 = true then ((laws_markWordsS.f k bt165.1 1).bind fun bt178 => ((laws_heldWordsS.f k bt178.2 1).bind fun t180 => (if t180 < 0 then (some false) else (if t180 = bt178.1 then ((laws_toByteS.f k l0).bind fun t181 => ((impl_WordsFrom.f k t181).bind fun bt184 => ((laws_eqWordsS.f k bt184.1 bt157.1).bind fun t189 => (if t189 = true then (if bt184.2.1 = bt157.2.1 then (if (bt184.2.2 != bt157.2.2) = true then (some false) else ((laws_heldWordsS.f k bt178.2 1).bind fun t190 => (if t190 < 0 then (some false) else (if t190 = bt178.1 then (some true) else (some false))))) else (some false)) else (some false))))) else (some false))))) else (some false))))) else (some false))))) else (some false)) else (some false)))))))
theorem laws_FnExactWordsFrom.mono : ∀ a0 k, LeO (laws_FnExactWordsFrom.f k a0) (laws_FnExactWordsFrom.f (k + 1) a0) := by
 intro a0 k
 unfold laws_FnExactWordsFrom.f
 repeat' first | (with_reducible first | apply impl_WordsFrom.mono | apply laws_eqByteS.mono | apply laws_eqWordsS.mono | apply laws_heldWordsS.mono | apply laws_markByteS.mono | apply laws_markWordsS.mono | apply laws_toByteS.mono | apply spec_WordsFrom.mono | exact LeO.refl _ | exact LeO.none _ | refine LeO.ite ?_ ?_ | refine LeO.bind ?_ fun _ => ?_) | apply impl_WordsFrom.mono | apply laws_eqByteS.mono | apply laws_eqWordsS.mono | apply laws_heldWordsS.mono | apply laws_markByteS.mono | apply laws_markWordsS.mono | apply laws_toByteS.mono | apply spec_WordsFrom.mono | exact LeO.none _ | refine LeO.ite ?_ ?_ | refine LeO.bind ?_ fun _ => ?_
set_option maxHeartbeats 8000000 in
set_option maxRecDepth 100000 in
theorem laws_FnExactWordsFrom.calls (k : Nat) (A0 : Option Addr) (c0 : Nat) (l0 : List Int) (r : Bool) (w : World) (hr0 : Kd.C (Kd.int .u8) w A0 l0.length l0) (hc0 : l0.length ≤ c0) (h : laws_FnExactWordsFrom.f k l0 = some r) (hlw : r = true) :
  Calls Try.prog 10 #[.slice A0 l0.length c0] w fun e w' => e = .returned (.bool r) ∧ Below w.heap.size w w' := by
 have HLW := Aside0.mk hlw; clear hlw
 have HZ := Aside0.mk (Nat.le_refl w.heap.size)
 have HR0 := Aside0.mk hr0; have HC0 := Aside0.mk hc0; clear hr0 hc0
 have HB := Aside0.mk (Below.refl w.heap.size w)
 have H : (if (l0.length : Int) > 1048576 then (some true) else ((laws_toByteS.f k l0).bind fun t154 => ((spec_WordsFrom.f k t154).bind fun bt157 => ((laws_toByteS.f k l0).bind fun t162 => ((impl_WordsFrom.f k t162).bind fun bt165 => ((laws_eqWordsS.f k bt165.1 bt157.1).bind fun t170 => (if t170 = true then (if bt165.2.1 = bt157.2.1 then (if (bt165.2.2 != bt157.2.2) = true then (some false) else ((laws_toByteS.f k l0).bind fun t171 => ((laws_eqByteS.f k t162 t171).bind fun t174 => (if t174 = true then ((laws_markByteS.f k t162 1).bind fun bt175 => (if bt175.1 < 0 then (some false) else ((laws_eqWordsS.f k bt165.1 bt157.1).bind fun t177 => (if t177 = true then ((laws_markWordsS.f k bt165.1 1).bind fun bt178 => ((laws_heldWordsS.f k bt178.2 1).bind fun t180 => (if t180 < 0 then (some false) else (if t180 = bt178.1 then ((laws_toByteS.f k l0).bind fun t181 => ((impl_WordsFrom.f k t181).bind fun bt184 => ((laws_eqWordsS.f k bt184.1 bt157.1).bind fun t189 => (if t189 = true then (if bt184.2.1 = bt157.2.1 then (if (bt184.2.2 != bt157.2.2) = true then (some false) else ((laws_heldWordsS.f k bt178.2 1).bind fun t190 => (if t190 < 0 then (some false) else (if t190 = bt178.1 then (some true) else (some false))))) else (some false)) else (some false))))) else (some false))))) else (some false))))) else (some false))))) else (some false)) else (some false)))))))) = some r := h
 clear h
 by_cases c2 : (l0.length : Int) > 1048576
 ·rw [if_pos c2] at H
  have c2b0 : decide (1048576 < (l0.length : Int)) = true := decide_eq_true c2
  have c2b1 : decide (1048576 < l0.length) = true := decide_eq_true (by omega)
  clear c2
  obtain rfl := Option.some.inj H
  go_enter Try.func10, Try.ntmps10
  go_wp2
  go_ret
  exact ⟨by first | rfl | (simp [errW_none, errW_some] <;> rfl) | (simp [*, errW_none, errW_some] <;> rfl), hbA_ HB.out⟩
 ·rw [if_neg c2] at H
  have c2b0 : decide (1048576 < (l0.length : Int)) = false := decide_eq_false c2
  have c2b1 : decide (1048576 < l0.length) = false := decide_eq_false (by omega)
  clear c2
  replace H := Option.bind_eq_some_iff.mp H
  obtain ⟨t154, A30, H⟩ := H
  (try dsimp only at H)
  have A3 := Aside0.mk A30; clear A30
  replace H := Option.bind_eq_some_iff.mp H
  obtain ⟨⟨t157, t158, t159⟩, A40, H⟩ := H
  (try dsimp only at H)
  have A4 := Aside0.mk A40; clear A40
  replace H := Option.bind_eq_some_iff.mp H
  obtain ⟨t162, A50, H⟩ := H
  (try dsimp only at H)
  have A5 := Aside0.mk A50; clear A50
  replace H := Option.bind_eq_some_iff.mp H
  obtain ⟨⟨t165, t166, t167⟩, A60, H⟩ := H
  (try dsimp only at H)
  have A6 := Aside0.mk A60; clear A60
  replace H := Option.bind_eq_some_iff.mp H
  obtain ⟨t170, A70, H⟩ := H
  (try dsimp only at H)
  have A7 := Aside0.mk A70; clear A70
  by_cases c8 : t170 = true
  ·subst c8
   rw [if_pos rfl] at H
   by_cases c9 : t166 = t158
   ·rw [if_pos c9] at H
    have c9b0 : (t166 == t158) = true := beq_iff_eq.mpr c9
    have c9b1 : (t166 != t158) = false := bne_eq_false_iff_eq.mpr c9
    clear c9
    by_cases c10 : (t167 != t159) = true
    ·rw [if_pos c10] at H
     have c10b0 : (t167 != t159) = true := c10
     (try (have c10b1 : decide (t167 = t159) = false := by simpa using c10))
     (try (have c10b2 : (t167 == t159) = false := by simpa using c10))
     (try (have c10b3 : ¬ (t167 = t159) := by simpa using c10))
     clear c10
     exact absurd (Option.some.inj H) (by rw [HLW.out]; exact Bool.false_ne_true)
    ·rw [if_neg c10] at H
     have c10b0 : (t167 != t159) = false := by simpa using c10
     (try (have c10b1 : decide (t167 = t159) = true := by simpa using c10))
     (try (have c10b2 : (t167 == t159) = true := by simpa using c10))
     clear c10
     replace H := Option.bind_eq_some_iff.mp H
     obtain ⟨t171, A110, H⟩ := H
     (try dsimp only at H)
     have A11 := Aside0.mk A110; clear A110
     replace H := Option.bind_eq_some_iff.mp H
     obtain ⟨t174, A120, H⟩ := H
     (try dsimp only at H)
     have A12 := Aside0.mk A120; clear A120
     by_cases c13 : t174 = true
     ·subst c13
      rw [if_pos rfl] at H
      replace H := Option.bind_eq_some_iff.mp H
      obtain ⟨⟨t175, t176⟩, A140, H⟩ := H
      (try dsimp only at H)
      have A14 := Aside0.mk A140; clear A140
      by_cases c15 : t175 < 0
      ·rw [if_pos c15] at H
       have c15b0 : decide (t175 < 0) = true := decide_eq_true c15
       clear c15
       exact absurd (Option.some.inj H) (by rw [HLW.out]; exact Bool.false_ne_true)
      ·rw [if_neg c15] at H
       have c15b0 : decide (t175 < 0) = false := decide_eq_false c15
       clear c15
       replace H := Option.bind_eq_some_iff.mp H
       obtain ⟨t177, A160, H⟩ := H
       (try dsimp only at H)
       have A16 := Aside0.mk A160; clear A160
       by_cases c17 : t177 = true
       ·subst c17
        rw [if_pos rfl] at H
        replace H := Option.bind_eq_some_iff.mp H
        obtain ⟨⟨t178, t179⟩, A180, H⟩ := H
        (try dsimp only at H)
        have A18 := Aside0.mk A180; clear A180
        replace H := Option.bind_eq_some_iff.mp H
        obtain ⟨t180, A190, H⟩ := H
        (try dsimp only at H)
        have A19 := Aside0.mk A190; clear A190
        by_cases c20 : t180 < 0
        ·rw [if_pos c20] at H
         have c20b0 : decide (t180 < 0) = true := decide_eq_true c20
         clear c20
         exact absurd (Option.some.inj H) (by rw [HLW.out]; exact Bool.false_ne_true)
        ·rw [if_neg c20] at H
         have c20b0 : decide (t180 < 0) = false := decide_eq_false c20
         clear c20
         by_cases c21 : t180 = t178
         ·rw [if_pos c21] at H
          have c21b0 : (t180 == t178) = true := beq_iff_eq.mpr c21
          have c21b1 : (t180 != t178) = false := bne_eq_false_iff_eq.mpr c21
          clear c21
          replace H := Option.bind_eq_some_iff.mp H
          obtain ⟨t181, A220, H⟩ := H
          (try dsimp only at H)
          have A22 := Aside0.mk A220; clear A220
          replace H := Option.bind_eq_some_iff.mp H
          obtain ⟨⟨t184, t185, t186⟩, A230, H⟩ := H
          (try dsimp only at H)
          have A23 := Aside0.mk A230; clear A230
          replace H := Option.bind_eq_some_iff.mp H
          obtain ⟨t189, A240, H⟩ := H
          (try dsimp only at H)
          have A24 := Aside0.mk A240; clear A240
          by_cases c25 : t189 = true
          ·subst c25
           rw [if_pos rfl] at H
           by_cases c26 : t185 = t158
           ·rw [if_pos c26] at H
            have c26b0 : (t185 == t158) = true := beq_iff_eq.mpr c26
            have c26b1 : (t185 != t158) = false := bne_eq_false_iff_eq.mpr c26
            clear c26
            by_cases c27 : (t186 != t159) = true
            ·rw [if_pos c27] at H
             have c27b0 : (t186 != t159) = true := c27
             (try (have c27b1 : decide (t186 = t159) = false := by simpa using c27))
             (try (have c27b2 : (t186 == t159) = false := by simpa using c27))
             (try (have c27b3 : ¬ (t186 = t159) := by simpa using c27))
             clear c27
             exact absurd (Option.some.inj H) (by rw [HLW.out]; exact Bool.false_ne_true)
            ·rw [if_neg c27] at H
             have c27b0 : (t186 != t159) = false := by simpa using c27
             (try (have c27b1 : decide (t186 = t159) = true := by simpa using c27))
             (try (have c27b2 : (t186 == t159) = true := by simpa using c27))
             clear c27
             replace H := Option.bind_eq_some_iff.mp H
             obtain ⟨t190, A280, H⟩ := H
             (try dsimp only at H)
             have A28 := Aside0.mk A280; clear A280
             by_cases c29 : t190 < 0
             ·rw [if_pos c29] at H
              have c29b0 : decide (t190 < 0) = true := decide_eq_true c29
              clear c29
              exact absurd (Option.some.inj H) (by rw [HLW.out]; exact Bool.false_ne_true)
             ·rw [if_neg c29] at H
              have c29b0 : decide (t190 < 0) = false := decide_eq_false c29
              clear c29
              by_cases c30 : t190 = t178
              ·rw [if_pos c30] at H
               have c30b0 : (t190 == t178) = true := beq_iff_eq.mpr c30
               have c30b1 : (t190 != t178) = false := bne_eq_false_iff_eq.mpr c30
               clear c30
               obtain rfl := Option.some.inj H
               go_enter Try.func10, Try.ntmps10
               go_wp2_with (first | ((with_reducible refine gate_callee (f := 32) rfl ?_); refine goesL_ (some 21) rfl rfl Try.func32 (by kernel_rfl) rfl #[.slice A0 l0.length c0] rfl ar_ ?_; (with_reducible refine (laws_toByteS.calls k _ _ l0 t154 _ ?side1 ?side2 A3.out).mono ?_); (case side1 => exact kC_ HR0.out); (case side2 => exact HC0.out); rintro e w31 ⟨v155, rfl, ho0, hb⟩; refine ⟨_, rfl, ?_⟩; obtain ⟨lo191, hi191, elo191, ehi191⟩ := gr_open hb; have HO156 := Aside0.mk (Kd.R_lower (gr_R elo191 ehi191 ho0) (below_size (hbA_ HB.out))); have LT191 := Aside0.mk (zl_ HZ elo191); have LE191 := Aside0.mk (zle_ elo191 ehi191 hb); replace HZ := Aside0.mk (Nat.le_of_eq ehi191.out); replace HB := (bs_ HB hb); (try clear hb); (try clear hb2); (try clear hk); (try clear hi); (try clear ho0); obtain ⟨Ao32, co32, eo32⟩ := Kd.R_slice HO156.out; subst eo32) | ((with_reducible refine gate_callee (f := 40) rfl ?_); refine goesL_ (some 22) rfl rfl Try.func40 (by kernel_rfl) rfl #[.slice Ao32 t154.length co32] rfl ar_ ?_; (with_reducible refine (spec_WordsFrom.calls k _ _ t154 t157 t158 t159 _ ?side1 ?side2 A4.out).mono ?_); (case side1 => exact kC_ (Kd.R_reads' HO156.out).2.2); (case side2 => exact (Kd.R_reads' HO156.out).2.1); rintro e w33 ⟨v160, rfl, ho0, hb⟩; refine ⟨_, rfl, ?_⟩; obtain ⟨lo192, hi192, elo192, ehi192⟩ := gr_open hb; replace HO156 := Aside0.mk (Kd.R_below (kR_ HO156.out) hb); have HO161 := Aside0.mk (Kd.S_lower (gr_S elo192 ehi192 ho0) (below_size (hbA_ HB.out))); have LT192 := Aside0.mk (zl_ HZ elo192); have LE192 := Aside0.mk (zle_ elo192 ehi192 hb); replace HZ := Aside0.mk (Nat.le_of_eq ehi192.out); replace HB := (bs_ HB hb); (try clear hb); (try clear hb2); (try clear hk); (try clear hi); (try clear ho0)) | ((with_reducible refine gate_callee (f := 32) rfl ?_); refine goesL_ (some 27) rfl rfl Try.func32 (by kernel_rfl) rfl #[.slice A0 l0.length c0] rfl ar_ ?_; (with_reducible refine (laws_toByteS.calls k _ _ l0 t162 _ ?side1 ?side2 A5.out).mono ?_); (case side1 => exact kC_ (Kd.C_below HR0.out HB.out)); (case side2 => exact HC0.out); rintro e w34 ⟨v163, rfl, ho0, hb⟩; refine ⟨_, rfl, ?_⟩; obtain ⟨lo193, hi193, elo193, ehi193⟩ := gr_open hb; replace HO156 := Aside0.mk (Kd.R_below (kR_ HO156.out) hb); replace HO161 := Aside0.mk (Kd.S_below (kS_ HO161.out) hb); have HO164 := Aside0.mk (Kd.R_lower (gr_R elo193 ehi193 ho0) (below_size (hbA_ HB.out))); have LT193 := Aside0.mk (zl_ HZ elo193); have LE193 := Aside0.mk (zle_ elo193 ehi193 hb); replace HZ := Aside0.mk (Nat.le_of_eq ehi193.out); replace HB := (bs_ HB hb); (try clear hb); (try clear hb2); (try clear hk); (try clear hi); (try clear ho0); obtain ⟨Ao35, co35, eo35⟩ := Kd.R_slice HO164.out; subst eo35) | ((with_reducible refine gate_callee (f := 29) rfl ?_); refine goesL_ (some 30) rfl rfl Try.func29 (by kernel_rfl) rfl #[.slice Ao35 t162.length co35] rfl ar_ ?_; (with_reducible refine (impl_WordsFrom.calls k _ _ t162 t165 t166 t167 _ ?side1 ?side2 A6.out).mono ?_); (case side1 => exact kC_ (Kd.R_reads' HO164.out).2.2); (case side2 => exact (Kd.R_reads' HO164.out).2.1); rintro e w36 ⟨v168, rfl, ho0, hb⟩; refine ⟨_, rfl, ?_⟩; obtain ⟨lo194, hi194, elo194, ehi194⟩ := gr_open hb; replace HO156 := Aside0.mk (Kd.R_below (kR_ HO156.out) hb); replace HO161 := Aside0.mk (Kd.S_below (kS_ HO161.out) hb); replace HO164 := Aside0.mk (Kd.R_below (kR_ HO164.out) hb); have HO169 := Aside0.mk (Kd.S_lower (gr_S elo194 ehi194 ho0) (below_size (hbA_ HB.out))); have LT194 := Aside0.mk (zl_ HZ elo194); have LE194 := Aside0.mk (zle_ elo194 ehi194 hb); replace HZ := Aside0.mk (Nat.le_of_eq ehi194.out); replace HB := (bs_ HB hb); (try clear hb); (try clear hb2); (try clear hk); (try clear hi); (try clear ho0); obtain ⟨Ao37, co37, eo37⟩ := Kd.S_slice HO169.out; subst eo37; obtain ⟨Ao38, co38, eo38⟩ := Kd.S_slice HO161.out; subst eo38) | ((with_reducible refine gate_callee (f := 41) rfl ?_); refine goesL_ (some 36) rfl rfl Try.func41 (by kernel_rfl) rfl #[.slice Ao37 t165.length co37, .slice Ao38 t157.length co38] rfl ar_ ?_; (with_reducible refine (laws_eqWordsS.calls k _ _ t165 _ _ t157 true _ ?side1 ?side2 ?side3 ?side4 A7.out).mono ?_); (case side1 => exact kC_ (Kd.S_reads' HO169.out).2.2); (case side2 => exact (Kd.S_reads' HO169.out).2.1); (case side3 => exact kC_ (Kd.S_reads' HO161.out).2.2); (case side4 => exact (Kd.S_reads' HO161.out).2.1); rintro e w39 ⟨rfl, hb⟩; refine ⟨_, rfl, ?_⟩; replace HO156 := Aside0.mk (Kd.R_below (kR_ HO156.out) hb); replace HO161 := Aside0.mk (Kd.S_below (kS_ HO161.out) hb); replace HO164 := Aside0.mk (Kd.R_below (kR_ HO164.out) hb); replace HO169 := Aside0.mk (Kd.S_below (kS_ HO169.out) hb); replace HB := (bs_ HB hb); replace HZ := Aside0.mk (zs_ HZ hb); (try clear hb); (try clear hb2); (try clear hk); (try clear hi)) | ((with_reducible refine gate_callee (f := 32) rfl ?_); refine goesL_ (some 50) rfl rfl Try.func32 (by kernel_rfl) rfl #[.slice A0 l0.length c0] rfl ar_ ?_; (with_reducible refine (laws_toByteS.calls k _ _ l0 t171 _ ?side1 ?side2 A11.out).mono ?_); (case side1 => exact kC_ (Kd.C_below HR0.out HB.out)); (case side2 => exact HC0.out); rintro e w40 ⟨v172, rfl, ho0, hb⟩; refine ⟨_, rfl, ?_⟩; obtain ⟨lo195, hi195, elo195, ehi195⟩ := gr_open hb; replace HO156 := Aside0.mk (Kd.R_below (kR_ HO156.out) hb); replace HO161 := Aside0.mk (Kd.S_below (kS_ HO161.out) hb); replace HO164 := Aside0.mk (Kd.R_below (kR_ HO164.out) hb); replace HO169 := Aside0.mk (Kd.S_below (kS_ HO169.out) hb); have HO173 := Aside0.mk (Kd.R_lower (gr_R elo195 ehi195 ho0) (below_size (hbA_ HB.out))); have LT195 := Aside0.mk (zl_ HZ elo195); have LE195 := Aside0.mk (zle_ elo195 ehi195 hb); replace HZ := Aside0.mk (Nat.le_of_eq ehi195.out); replace HB := (bs_ HB hb); (try clear hb); (try clear hb2); (try clear hk); (try clear hi); (try clear ho0); obtain ⟨Ao41, co41, eo41⟩ := Kd.R_slice HO173.out; subst eo41) | ((with_reducible refine gate_callee (f := 33) rfl ?_); refine goesL_ (some 51) rfl rfl Try.func33 (by kernel_rfl) rfl #[.slice Ao35 t162.length co35, .slice Ao41 t171.length co41] rfl ar_ ?_; (with_reducible refine (laws_eqByteS.calls k _ _ t162 _ _ t171 true _ ?side1 ?side2 ?side3 ?side4 A12.out).mono ?_); (case side1 => exact kC_ (Kd.R_reads' HO164.out).2.2); (case side2 => exact (Kd.R_reads' HO164.out).2.1); (case side3 => exact kC_ (Kd.R_reads' HO173.out).2.2); (case side4 => exact (Kd.R_reads' HO173.out).2.1); rintro e w' ⟨rfl, ⟨nd, rfl⟩⟩; refine ⟨_, rfl, ?_⟩) | ((with_reducible refine gate_callee (f := 34) rfl ?_); refine goesL_ (some 55) rfl rfl Try.func34 (by kernel_rfl) rfl #[.slice Ao35 t162.length co35, .int .i64 1] rfl ar_ ?_; (with_reducible refine (laws_markByteS.calls k (fun k_ => some k_ = (.slice Ao35 t162.length co35 : Value).ownBlock) (.slice Ao35 t162.length co35) t162 1 t175 t176 w _ ?side1 ?side2 A14.out).mono ?_); (case side1 => exact hbA_ HB.out); (case side2 => exact Kd.R_tight rfl (kR_ HO164.out)); rintro e w42 ⟨rfl, hy0, hb, hkp⟩; refine ⟨_, rfl, ?_⟩; have hkr := gk_mono (lo := lo193) (hi := hi193) hkp (fun k_ hs_ => (HO164.out.1 _ hs_.symm).2); replace HO156 := Aside0.mk (gkR_ HO156 hkr (fun k_ hk_ => rng_ne hk_.2 (Or.inl (Nat.le_trans LT192.out (Nat.le_trans LE192.out LT193.out))))); replace HO161 := Aside0.mk (gkS_ HO161 hkr (fun k_ hk_ => rng_ne hk_.2 (Or.inl LT193.out))); replace HO164 := Aside0.mk (Kd.R_reok rfl hy0 (fun k_ e_ => HO164.out.1 k_ e_)); replace HO169 := Aside0.mk (gkS_ HO169 hkr (fun k_ hk_ => rng_ne hk_.2 (Or.inr LT194.out))); replace HO173 := Aside0.mk (gkR_ HO173 hkr (fun k_ hk_ => rng_ne hk_.2 (Or.inr (Nat.le_trans LT194.out (Nat.le_trans LE194.out LT195.out))))); replace HB := Aside0.mk (hb); replace HZ := Aside0.mk (zk_ HZ hkr); (try clear hb); (try clear hkp); (try clear hkr); (try clear hy0)) | (go_at_call 41; (with_reducible refine (laws_eqWordsS.calls k _ _ t165 _ _ t157 true _ ?side1 ?side2 ?side3 ?side4 A16.out).mono ?_); (case side1 => exact kC_ (Kd.S_reads' HO169.out).2.2); (case side2 => exact (Kd.S_reads' HO169.out).2.1); (case side3 => exact kC_ (Kd.S_reads' HO161.out).2.2); (case side4 => exact (Kd.S_reads' HO161.out).2.1); rintro e w43 ⟨rfl, hb⟩; replace HO156 := Aside0.mk (Kd.R_below (kR_ HO156.out) hb); replace HO161 := Aside0.mk (Kd.S_below (kS_ HO161.out) hb); replace HO164 := Aside0.mk (Kd.R_below (kR_ HO164.out) hb); replace HO169 := Aside0.mk (Kd.S_below (kS_ HO169.out) hb); replace HO173 := Aside0.mk (Kd.R_below (kR_ HO173.out) hb); replace HB := (bs_ HB hb); replace HZ := Aside0.mk (zs_ HZ hb); (try clear hb); (try clear hb2); (try clear hk); (try clear hi)) | ((with_reducible refine gate_callee (f := 42) rfl ?_); refine goesL_ (some 76) rfl rfl Try.func42 (by kernel_rfl) rfl #[.slice Ao37 t165.length co37, .int .i64 1] rfl ar_ ?_; (with_reducible refine (laws_markWordsS.calls k (fun k_ => (True) ∧ lo194 ≤ k_ ∧ k_ < hi194) (.slice Ao37 t165.length co37) t165 1 t178 t179 w _ ?side1 ?side2 A18.out).mono ?_); (case side1 => exact hbA_ HB.out); (case side2 => exact (kS_ HO169.out)); rintro e w44 ⟨rfl, hy0, hb, hkp⟩; refine ⟨_, rfl, ?_⟩; have hkr := gk_mono (lo := lo194) (hi := hi194) hkp (fun k_ hs_ => hs_.2); replace HO156 := Aside0.mk (gkR_ HO156 hkr (fun k_ hk_ => rng_ne hk_.2 (Or.inl (Nat.le_trans (Nat.le_trans LT192.out (Nat.le_trans LE192.out LT193.out)) (Nat.le_trans LE193.out LT194.out))))); replace HO161 := Aside0.mk (gkS_ HO161 hkr (fun k_ hk_ => rng_ne hk_.2 (Or.inl (Nat.le_trans LT193.out (Nat.le_trans LE193.out LT194.out))))); replace HO164 := Aside0.mk (gkR_ HO164 hkr (fun k_ hk_ => rng_ne hk_.2 (Or.inl LT194.out))); replace HO169 := Aside0.mk (hy0); replace HO173 := Aside0.mk (gkR_ HO173 hkr (fun k_ hk_ => rng_ne hk_.2 (Or.inr LT195.out))); replace HB := Aside0.mk (hb); replace HZ := Aside0.mk (zk_ HZ hkr); (try clear hb); (try clear hkp); (try clear hkr); (try clear hy0)) | ((with_reducible refine gate_callee (f := 43) rfl ?_); refine goesL_ (some 79) rfl rfl Try.func43 (by kernel_rfl) rfl #[.slice Ao37 t179.length co37, .int .i64 1] rfl (by (try simp only [List.map_toArray, List.map_cons, List.map_nil]); first | done | (rw [show t179.length = t165.length from (Kd.S_reads' HO169.out).1.symm] <;> rfl) | rfl | (simp only [List.length_drop, List.length_take]; rfl)) ?_; (with_reducible refine (laws_heldWordsS.calls k _ _ t179 1 t180 _ ?side1 ?side2 A19.out).mono ?_); (case side1 => exact kC_ (Kd.S_reads' HO169.out).2.2); (case side2 => rw [show t179.length = t165.length from (Kd.S_reads' HO169.out).1.symm]; exact (Kd.S_reads' HO169.out).2.1); rintro e w' ⟨rfl, ⟨nd, rfl⟩⟩; refine ⟨_, rfl, ?_⟩) | ((with_reducible refine gate_callee (f := 32) rfl ?_); refine goesL_ (some 87) rfl rfl Try.func32 (by kernel_rfl) rfl #[.slice A0 l0.length c0] rfl ar_ ?_; (with_reducible refine (laws_toByteS.calls k _ _ l0 t181 _ ?side1 ?side2 A22.out).mono ?_); (case side1 => exact kC_ (Kd.C_below HR0.out (hbA_ HB.out))); (case side2 => exact HC0.out); rintro e w45 ⟨v182, rfl, ho0, hb⟩; refine ⟨_, rfl, ?_⟩; obtain ⟨lo196, hi196, elo196, ehi196⟩ := gr_open hb; replace HO156 := Aside0.mk (Kd.R_below (kR_ HO156.out) hb); replace HO161 := Aside0.mk (Kd.S_below (kS_ HO161.out) hb); replace HO164 := Aside0.mk (Kd.R_below (kR_ HO164.out) hb); replace HO169 := Aside0.mk (Kd.S_below (kS_ HO169.out) hb); replace HO173 := Aside0.mk (Kd.R_below (kR_ HO173.out) hb); have HO183 := Aside0.mk (Kd.R_lower (gr_R elo196 ehi196 ho0) (below_size (hbA_ HB.out))); have LT196 := Aside0.mk (zl_ HZ elo196); have LE196 := Aside0.mk (zle_ elo196 ehi196 hb); replace HZ := Aside0.mk (Nat.le_of_eq ehi196.out); replace HB := (bs_ HB hb); (try clear hb); (try clear hb2); (try clear hk); (try clear hi); (try clear ho0); obtain ⟨Ao46, co46, eo46⟩ := Kd.R_slice HO183.out; subst eo46) | ((with_reducible refine gate_callee (f := 29) rfl ?_); refine goesL_ (some 88) rfl rfl Try.func29 (by kernel_rfl) rfl #[.slice Ao46 t181.length co46] rfl ar_ ?_; (with_reducible refine (impl_WordsFrom.calls k _ _ t181 t184 t185 t186 _ ?side1 ?side2 A23.out).mono ?_); (case side1 => exact kC_ (Kd.R_reads' HO183.out).2.2); (case side2 => exact (Kd.R_reads' HO183.out).2.1); rintro e w47 ⟨v187, rfl, ho0, hb⟩; refine ⟨_, rfl, ?_⟩; obtain ⟨lo197, hi197, elo197, ehi197⟩ := gr_open hb; replace HO156 := Aside0.mk (Kd.R_below (kR_ HO156.out) hb); replace HO161 := Aside0.mk (Kd.S_below (kS_ HO161.out) hb); replace HO164 := Aside0.mk (Kd.R_below (kR_ HO164.out) hb); replace HO169 := Aside0.mk (Kd.S_below (kS_ HO169.out) hb); replace HO173 := Aside0.mk (Kd.R_below (kR_ HO173.out) hb); replace HO183 := Aside0.mk (Kd.R_below (kR_ HO183.out) hb); have HO188 := Aside0.mk (Kd.S_lower (gr_S elo197 ehi197 ho0) (below_size (hbA_ HB.out))); have LT197 := Aside0.mk (zl_ HZ elo197); have LE197 := Aside0.mk (zle_ elo197 ehi197 hb); replace HZ := Aside0.mk (Nat.le_of_eq ehi197.out); replace HB := (bs_ HB hb); (try clear hb); (try clear hb2); (try clear hk); (try clear hi); (try clear ho0); obtain ⟨Ao48, co48, eo48⟩ := Kd.S_slice HO188.out; subst eo48) | ((with_reducible refine gate_callee (f := 41) rfl ?_); refine goesL_ (some 94) rfl rfl Try.func41 (by kernel_rfl) rfl #[.slice Ao48 t184.length co48, .slice Ao38 t157.length co38] rfl ar_ ?_; (with_reducible refine (laws_eqWordsS.calls k _ _ t184 _ _ t157 true _ ?side1 ?side2 ?side3 ?side4 A24.out).mono ?_); (case side1 => exact kC_ (Kd.S_reads' HO188.out).2.2); (case side2 => exact (Kd.S_reads' HO188.out).2.1); (case side3 => exact kC_ (Kd.S_reads' HO161.out).2.2); (case side4 => exact (Kd.S_reads' HO161.out).2.1); rintro e w49 ⟨rfl, hb⟩; refine ⟨_, rfl, ?_⟩; replace HO156 := Aside0.mk (Kd.R_below (kR_ HO156.out) hb); replace HO161 := Aside0.mk (Kd.S_below (kS_ HO161.out) hb); replace HO164 := Aside0.mk (Kd.R_below (kR_ HO164.out) hb); replace HO169 := Aside0.mk (Kd.S_below (kS_ HO169.out) hb); replace HO173 := Aside0.mk (Kd.R_below (kR_ HO173.out) hb); replace HO183 := Aside0.mk (Kd.R_below (kR_ HO183.out) hb); replace HO188 := Aside0.mk (Kd.S_below (kS_ HO188.out) hb); replace HB := (bs_ HB hb); replace HZ := Aside0.mk (zs_ HZ hb); (try clear hb); (try clear hb2); (try clear hk); (try clear hi)) | ((with_reducible refine gate_callee (f := 43) rfl ?_); refine goesL_ (some 108) rfl rfl Try.func43 (by kernel_rfl) rfl #[.slice Ao37 t179.length co37, .int .i64 1] rfl (by (try simp only [List.map_toArray, List.map_cons, List.map_nil]); first | done | (rw [show t179.length = t165.length from (Kd.S_reads' HO169.out).1.symm] <;> rfl) | rfl | (simp only [List.length_drop, List.length_take]; rfl)) ?_; (with_reducible refine (laws_heldWordsS.calls k _ _ t179 1 t190 _ ?side1 ?side2 A28.out).mono ?_); (case side1 => exact kC_ (Kd.S_reads' HO169.out).2.2); (case side2 => rw [show t179.length = t165.length from (Kd.S_reads' HO169.out).1.symm]; exact (Kd.S_reads' HO169.out).2.1); rintro e w' ⟨rfl, ⟨nd, rfl⟩⟩; refine ⟨_, rfl, ?_⟩))
               go_ret
               exact ⟨by first | rfl | (simp [errW_none, errW_some] <;> rfl) | (simp [*, errW_none, errW_some] <;> rfl), hbA_ HB.out⟩
              ·rw [if_neg c30] at H
               have c30b0 : (t190 == t178) = false := beq_eq_false_iff_ne.mpr c30
               have c30b1 : (t190 != t178) = true := bne_iff_ne.mpr c30
               exact absurd (Option.some.inj H) (by rw [HLW.out]; exact Bool.false_ne_true)
           ·rw [if_neg c26] at H
            have c26b0 : (t185 == t158) = false := beq_eq_false_iff_ne.mpr c26
            have c26b1 : (t185 != t158) = true := bne_iff_ne.mpr c26
            exact absurd (Option.some.inj H) (by rw [HLW.out]; exact Bool.false_ne_true)
          ·replace c25 := Bool.eq_false_iff.mpr c25
           subst c25
           rw [if_neg (show ¬ (false = true) by decide)] at H
           exact absurd (Option.some.inj H) (by rw [HLW.out]; exact Bool.false_ne_true)
         ·rw [if_neg c21] at H
          have c21b0 : (t180 == t178) = false := beq_eq_false_iff_ne.mpr c21
          have c21b1 : (t180 != t178) = true := bne_iff_ne.mpr c21
          exact absurd (Option.some.inj H) (by rw [HLW.out]; exact Bool.false_ne_true)
       ·replace c17 := Bool.eq_false_iff.mpr c17
        subst c17
        rw [if_neg (show ¬ (false = true) by decide)] at H
        exact absurd (Option.some.inj H) (by rw [HLW.out]; exact Bool.false_ne_true)
     ·replace c13 := Bool.eq_false_iff.mpr c13
      subst c13
      rw [if_neg (show ¬ (false = true) by decide)] at H
      exact absurd (Option.some.inj H) (by rw [HLW.out]; exact Bool.false_ne_true)
   ·rw [if_neg c9] at H
    have c9b0 : (t166 == t158) = false := beq_eq_false_iff_ne.mpr c9
    have c9b1 : (t166 != t158) = true := bne_iff_ne.mpr c9
    exact absurd (Option.some.inj H) (by rw [HLW.out]; exact Bool.false_ne_true)
  ·replace c8 := Bool.eq_false_iff.mpr c8
   subst c8
   rw [if_neg (show ¬ (false = true) by decide)] at H
   exact absurd (Option.some.inj H) (by rw [HLW.out]; exact Bool.false_ne_true)
def laws_FnExactWordsFrom.Pure : Prop := ∀ (l0 : List Int), l0.length ≤ maxLen → l0.length * 1 ≤ 140737488351232 → (∀ x ∈ l0, (Lit.int .u8 x).wf = true) → ∃ k, laws_FnExactWordsFrom.f k l0 = some true
theorem laws_FnExactWordsFrom.walk (P : laws_FnExactWordsFrom.Pure) (a0 : Option Addr) (len0 cap0 : Nat) (z0 : List Int) (w : World) (w0 : (a0 = none ∧ len0 = 0 ∧ cap0 = 0 ∧ z0 = []) ∨ ∃ x, a0 = some x ∧ len0 ≤ cap0 ∧ cap0 ≤ maxLen ∧ z0.length = cap0 ∧ (∀ i, i < z0.length → w.cell? (x.add i) = some (.int .u8 (z0.getD i 0))) ∧ ∀ n ∈ z0, (Lit.int .u8 n).wf = true) (y0 : len0 * 1 ≤ 140737488351232) :
  Calls Try.prog 10 #[.slice a0 len0 cap0] w fun e w' => e = .returned (.bool true) ∧ Below w.heap.size w w' := by
 obtain ⟨l0, rfl, hr0, hm0, hw0, hc0⟩ := ReadsInt.ofRowC w0
 obtain ⟨k, h⟩ := P l0 hm0 y0 hw0
 refine (laws_FnExactWordsFrom.calls k _ _ l0 true w (Kd.C_of_reads (d := (0 : Int)) (h1 := fun _ => rfl) hr0) hc0 h rfl).mono ?_
 rintro e w' ⟨rfl, hd⟩
 exact ⟨rfl, hd⟩
end Go.Proofs.Ytegchbdjbefdbaa.PFnExactWordsFrom
