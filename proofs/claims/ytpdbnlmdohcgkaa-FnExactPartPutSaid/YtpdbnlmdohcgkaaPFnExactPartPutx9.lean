/- Printed by wip/xp/xprint.sh out of the translation, for this claim: what each function answers, as a plain function, and that the machine does just that. No condition. -/
import Derived.Test.YtpdbnlmdohcgkaaPFnExactPartPutx0
import Derived.Test.YtpdbnlmdohcgkaaPFnExactPartPutx8
namespace Go.Proofs.Ytpdbnlmdohcgkaa.PFnExactPartPut
open Go.RowKit Go.Proofs.YtpdbnlmdohcgkaaW.PrintWords Go.Proofs.YtpdbnlmdohcgkaaW.PrintLast Go.Proofs.YtpdbnlmdohcgkaaW.PrintMore
attribute [local go_sem] max2_int min2_int max_two min_two max_three min_three max_four min_four   -- for this text's walks alone
set_option linter.unusedVariables false
set_option linter.unusedSimpArgs false
def laws_heldPacketS.l0 : Nat → List (S36) → Int → Int → Option (Int)
 | 0, _, _, _ => none
 | k + 1, x0, x1, x5 => if x5 < (x0.length : Int) then (if 0 ≤ x5 then (if ((rd_T36 x0 x5).f0) = x1 then (if ((rd_T36 x0 x5).f1) = (wrap64 (x1 + 1)) then (if ((rd_T36 x0 x5).f2) = (wrap64 ((wrap64 (x1 + 1)) + 1)) then (if ((rd_T36 x0 x5).f3) = (wrap64 ((wrap64 ((wrap64 (x1 + 1)) + 1)) + 1)) then (if ((rd_T36 x0 x5).f4) = (wrap64 ((wrap64 ((wrap64 ((wrap64 (x1 + 1)) + 1)) + 1)) + 1)) then (if ((rd_T36 x0 x5).f5) = (wrap64 ((wrap64 ((wrap64 ((wrap64 ((wrap64 (x1 + 1)) + 1)) + 1)) + 1)) + 1)) then (if (((rd_T36 x0 x5).f6) != ((Int.tmod (wrap64 ((wrap64 ((wrap64 ((wrap64 ((wrap64 ((wrap64 (x1 + 1)) + 1)) + 1)) + 1)) + 1)) + 1)) 3) == 0)) = true then (some (-1)) else (if (((rd_T36 x0 x5).f7) != ((Int.tmod (wrap64 ((wrap64 ((wrap64 ((wrap64 ((wrap64 ((wrap64 ((wrap64 (x1 + 1)) + 1)) + 1)) + 1)) + 1)) + 1)) + 1)) 3) == 0)) = true then (some (-1)) else ((laws_heldByteS.f k ((rd_T36 x0 x5).f8) (wrap64 ((wrap64 ((wrap64 ((wrap64 ((wrap64 ((wrap64 ((wrap64 ((wrap64 (x1 + 1)) + 1)) + 1)) + 1)) + 1)) + 1)) + 1)) + 1))).bind fun t323 => (if t323 < 0 then (some (-1)) else (laws_heldPacketS.l0 k x0 t323 (wrap64 (x5 + 1))))))) else (some (-1))) else (some (-1))) else (some (-1))) else (some (-1))) else (some (-1))) else (some (-1))) else (none)) else (some x1)
def laws_heldPacketS.f (k : Nat) (l0 : List (S36)) (a1 : Int) : Option (Int) := laws_heldPacketS.l0 k l0 a1 0
theorem laws_heldPacketS.mono_l : ∀ k, (∀ y0 y1 y2, LeO (laws_heldPacketS.l0 k y0 y1 y2) (laws_heldPacketS.l0 (k + 1) y0 y1 y2))
 | 0 => fun _ _ _ r h => by simp [laws_heldPacketS.l0] at h
 | k + 1 => by
  have ih0 := laws_heldPacketS.mono_l k
  ·intro y0 y1 y2
   unfold laws_heldPacketS.l0
   repeat' first | (with_reducible first | apply ih0 | apply laws_heldByteS.mono | exact LeO.refl _ | exact LeO.none _ | refine LeO.ite ?_ ?_ | refine LeO.bind ?_ fun _ => ?_) | apply ih0 | apply laws_heldByteS.mono | exact LeO.none _ | refine LeO.ite ?_ ?_ | refine LeO.bind ?_ fun _ => ?_
theorem laws_heldPacketS.mono : ∀ a0 a1 k, LeO (laws_heldPacketS.f k a0 a1) (laws_heldPacketS.f (k + 1) a0 a1) := by
 intro a0 a1 k
 have ih0 := laws_heldPacketS.mono_l k
 unfold laws_heldPacketS.f
 repeat' first | (with_reducible first | apply ih0 | apply laws_heldByteS.mono | exact LeO.refl _ | exact LeO.none _ | refine LeO.ite ?_ ?_ | refine LeO.bind ?_ fun _ => ?_) | apply ih0 | apply laws_heldByteS.mono | exact LeO.none _ | refine LeO.ite ?_ ?_ | refine LeO.bind ?_ fun _ => ?_
set_option maxHeartbeats 8000000 in
set_option maxRecDepth 100000 in
theorem laws_heldPacketS.calls (k : Nat) (A0 : Option Addr) (c0 : Nat) (l0 : List (S36)) (a1 : Int) (r : Int) (w : World) (hr0 : Kd.C k36 w A0 l0.length l0) (hc0 : l0.length ≤ c0) (h : laws_heldPacketS.f k l0 a1 = some r) :
  Calls Try.prog 57 #[.slice A0 l0.length c0, .int .i64 a1] w fun e w' => e = .returned (.int .i64 r) ∧ Drawn0 w w' := by
 have HR0 := Aside0.mk hr0; have HC0 := Aside0.mk hc0; clear hr0 hc0
 have H : (laws_heldPacketS.l0 k l0 a1 0) = some r := h
 clear h
 have H' := Aside0.mk H
 clear H
 go_enter Try.func57, Try.ntmps57
 go_wp2
 go_loopg [1, 5] k (fun kq v1 v5 w' => ∃ (x1_1 : Int) (x5_1 : Int), v1 = .int .i64 x1_1 ∧ v5 = .int .i64 x5_1 ∧ Aside0 (laws_heldPacketS.l0 kq l0 x1_1 x5_1 = some r) ∧ Aside0 (kq ≤ k) ∧ Drawn0 w w')
 case atStart => exact ⟨(a1), (0), (by first | rfl | (simp; done) | (simp [*]; done)), (by first | rfl | (simp; done) | (simp [*]; done)), H', ⟨Nat.le_refl _⟩, by repeat (first | exact Drawn0.refl _ | apply Drawn0.step)⟩
 case round =>
  clear H'; (try clear p2)
  obtain ⟨x1_1, x5_1, rfl, rfl, HA, HK1, ⟨m1, rfl⟩⟩ := hrel
  cases gk with
  | zero => exact absurd HA.out (by simp [laws_heldPacketS.l0])
  | succ k1 =>
   have H := HA.out; clear HA
   simp only [laws_heldPacketS.l0] at H
   by_cases c3 : x5_1 < (l0.length : Int)
   ·rw [if_pos c3] at H
    have c3b0 : decide (x5_1 < (l0.length : Int)) = true := decide_eq_true c3
    clear c3
    by_cases c4 : 0 ≤ x5_1
    ·rw [if_pos c4] at H
     have c4b0 : decide (0 ≤ x5_1) = true := decide_eq_true c4
     clear c4
     by_cases c5 : ((rd_T36 l0 x5_1).f0) = x1_1
     ·rw [if_pos c5] at H
      have c5b0 : (((rd_T36 l0 x5_1).f0) == x1_1) = true := beq_iff_eq.mpr c5
      have c5b1 : (((rd_T36 l0 x5_1).f0) != x1_1) = false := bne_eq_false_iff_eq.mpr c5
      clear c5
      by_cases c6 : ((rd_T36 l0 x5_1).f1) = (wrap64 (x1_1 + 1))
      ·rw [if_pos c6] at H
       have c6b0 : (((rd_T36 l0 x5_1).f1) == (wrap64 (x1_1 + 1))) = true := beq_iff_eq.mpr c6
       have c6b1 : (((rd_T36 l0 x5_1).f1) != (wrap64 (x1_1 + 1))) = false := bne_eq_false_iff_eq.mpr c6
       clear c6
       by_cases c7 : ((rd_T36 l0 x5_1).f2) = (wrap64 ((wrap64 (x1_1 + 1)) + 1))
       ·rw [if_pos c7] at H
        have c7b0 : (((rd_T36 l0 x5_1).f2) == (wrap64 ((wrap64 (x1_1 + 1)) + 1))) = true := beq_iff_eq.mpr c7
        have c7b1 : (((rd_T36 l0 x5_1).f2) != (wrap64 ((wrap64 (x1_1 + 1)) + 1))) = false := bne_eq_false_iff_eq.mpr c7
        clear c7
        by_cases c8 : ((rd_T36 l0 x5_1).f3) = (wrap64 ((wrap64 ((wrap64 (x1_1 + 1)) + 1)) + 1))
        ·rw [if_pos c8] at H
         have c8b0 : (((rd_T36 l0 x5_1).f3) == (wrap64 ((wrap64 ((wrap64 (x1_1 + 1)) + 1)) + 1))) = true := beq_iff_eq.mpr c8
         have c8b1 : (((rd_T36 l0 x5_1).f3) != (wrap64 ((wrap64 ((wrap64 (x1_1 + 1)) + 1)) + 1))) = false := bne_eq_false_iff_eq.mpr c8
         clear c8
         by_cases c9 : ((rd_T36 l0 x5_1).f4) = (wrap64 ((wrap64 ((wrap64 ((wrap64 (x1_1 + 1)) + 1)) + 1)) + 1))
         ·rw [if_pos c9] at H
          have c9b0 : (((rd_T36 l0 x5_1).f4) == (wrap64 ((wrap64 ((wrap64 ((wrap64 (x1_1 + 1)) + 1)) + 1)) + 1))) = true := beq_iff_eq.mpr c9
          have c9b1 : (((rd_T36 l0 x5_1).f4) != (wrap64 ((wrap64 ((wrap64 ((wrap64 (x1_1 + 1)) + 1)) + 1)) + 1))) = false := bne_eq_false_iff_eq.mpr c9
          clear c9
          by_cases c10 : ((rd_T36 l0 x5_1).f5) = (wrap64 ((wrap64 ((wrap64 ((wrap64 ((wrap64 (x1_1 + 1)) + 1)) + 1)) + 1)) + 1))
          ·rw [if_pos c10] at H
           have c10b0 : (((rd_T36 l0 x5_1).f5) == (wrap64 ((wrap64 ((wrap64 ((wrap64 ((wrap64 (x1_1 + 1)) + 1)) + 1)) + 1)) + 1))) = true := beq_iff_eq.mpr c10
           have c10b1 : (((rd_T36 l0 x5_1).f5) != (wrap64 ((wrap64 ((wrap64 ((wrap64 ((wrap64 (x1_1 + 1)) + 1)) + 1)) + 1)) + 1))) = false := bne_eq_false_iff_eq.mpr c10
           clear c10
           by_cases c11 : (((rd_T36 l0 x5_1).f6) != ((Int.tmod (wrap64 ((wrap64 ((wrap64 ((wrap64 ((wrap64 ((wrap64 (x1_1 + 1)) + 1)) + 1)) + 1)) + 1)) + 1)) 3) == 0)) = true
           ·rw [if_pos c11] at H
            have c11b0 : (((rd_T36 l0 x5_1).f6) != ((Int.tmod (wrap64 ((wrap64 ((wrap64 ((wrap64 ((wrap64 ((wrap64 (x1_1 + 1)) + 1)) + 1)) + 1)) + 1)) + 1)) 3) == 0)) = true := c11
            (try (have c11b1 : decide (((rd_T36 l0 x5_1).f6) = ((Int.tmod (wrap64 ((wrap64 ((wrap64 ((wrap64 ((wrap64 ((wrap64 (x1_1 + 1)) + 1)) + 1)) + 1)) + 1)) + 1)) 3) == 0)) = false := by simpa using c11))
            (try (have c11b2 : (((rd_T36 l0 x5_1).f6) == ((Int.tmod (wrap64 ((wrap64 ((wrap64 ((wrap64 ((wrap64 ((wrap64 (x1_1 + 1)) + 1)) + 1)) + 1)) + 1)) + 1)) 3) == 0)) = false := by simpa using c11))
            (try (have c11b3 : ¬ (((rd_T36 l0 x5_1).f6) = ((Int.tmod (wrap64 ((wrap64 ((wrap64 ((wrap64 ((wrap64 ((wrap64 (x1_1 + 1)) + 1)) + 1)) + 1)) + 1)) + 1)) 3) == 0)) := by simpa using c11))
            clear c11
            obtain rfl := Option.some.inj H
            have p314 : 0 ≤ (x5_1 : Int) := of_decide_eq_true (by first | (with_reducible assumption) | assumption)
            have q314 : x5_1 < (l0.length : Int) := of_decide_eq_true (by first | (with_reducible assumption) | assumption)
            obtain ⟨ad314, A314_8, c314_8, e314, hx314_0, hx314_1, hx314_2, hx314_3, hx314_4, hx314_5, hx314_6, hx314_7, hx314_8, hl314_8, hi314_8⟩ := at_T36 HR0.out x5_1 p314 q314
            cases e314
            have HR314_8 := Aside0.mk hi314_8; have HC314_8 := Aside0.mk hl314_8; clear hi314_8 hl314_8
            replace p314 := eq_true p314
            replace q314 := eq_true q314
            have p315 : 0 ≤ (x5_1 : Int) := of_decide_eq_true (by first | (with_reducible assumption) | assumption)
            have q315 : x5_1 < (l0.length : Int) := of_decide_eq_true (by first | (with_reducible assumption) | assumption)
            obtain ⟨ad315, A315_8, c315_8, e315, hx315_0, hx315_1, hx315_2, hx315_3, hx315_4, hx315_5, hx315_6, hx315_7, hx315_8, hl315_8, hi315_8⟩ := at_T36 HR0.out x5_1 p315 q315
            obtain rfl : ad314 = ad315 := (by injection e315)
            have HR315_8 := Aside0.mk hi315_8; have HC315_8 := Aside0.mk hl315_8; clear hi315_8 hl315_8
            replace p315 := eq_true p315
            replace q315 := eq_true q315
            have ea_ := Option.some.inj (hx314_8.symm.trans hx315_8)
            injection ea_ with ea_ en_ ec_
            subst ea_; subst ec_; clear en_
            have p316 : 0 ≤ (x5_1 : Int) := of_decide_eq_true (by first | (with_reducible assumption) | assumption)
            have q316 : x5_1 < (l0.length : Int) := of_decide_eq_true (by first | (with_reducible assumption) | assumption)
            obtain ⟨ad316, A316_8, c316_8, e316, hx316_0, hx316_1, hx316_2, hx316_3, hx316_4, hx316_5, hx316_6, hx316_7, hx316_8, hl316_8, hi316_8⟩ := at_T36 HR0.out x5_1 p316 q316
            obtain rfl : ad314 = ad316 := (by injection e316)
            have HR316_8 := Aside0.mk hi316_8; have HC316_8 := Aside0.mk hl316_8; clear hi316_8 hl316_8
            replace p316 := eq_true p316
            replace q316 := eq_true q316
            have ea_ := Option.some.inj (hx314_8.symm.trans hx316_8)
            injection ea_ with ea_ en_ ec_
            subst ea_; subst ec_; clear en_
            have p317 : 0 ≤ (x5_1 : Int) := of_decide_eq_true (by first | (with_reducible assumption) | assumption)
            have q317 : x5_1 < (l0.length : Int) := of_decide_eq_true (by first | (with_reducible assumption) | assumption)
            obtain ⟨ad317, A317_8, c317_8, e317, hx317_0, hx317_1, hx317_2, hx317_3, hx317_4, hx317_5, hx317_6, hx317_7, hx317_8, hl317_8, hi317_8⟩ := at_T36 HR0.out x5_1 p317 q317
            obtain rfl : ad314 = ad317 := (by injection e317)
            have HR317_8 := Aside0.mk hi317_8; have HC317_8 := Aside0.mk hl317_8; clear hi317_8 hl317_8
            replace p317 := eq_true p317
            replace q317 := eq_true q317
            have ea_ := Option.some.inj (hx314_8.symm.trans hx317_8)
            injection ea_ with ea_ en_ ec_
            subst ea_; subst ec_; clear en_
            have p318 : 0 ≤ (x5_1 : Int) := of_decide_eq_true (by first | (with_reducible assumption) | assumption)
            have q318 : x5_1 < (l0.length : Int) := of_decide_eq_true (by first | (with_reducible assumption) | assumption)
            obtain ⟨ad318, A318_8, c318_8, e318, hx318_0, hx318_1, hx318_2, hx318_3, hx318_4, hx318_5, hx318_6, hx318_7, hx318_8, hl318_8, hi318_8⟩ := at_T36 HR0.out x5_1 p318 q318
            obtain rfl : ad314 = ad318 := (by injection e318)
            have HR318_8 := Aside0.mk hi318_8; have HC318_8 := Aside0.mk hl318_8; clear hi318_8 hl318_8
            replace p318 := eq_true p318
            replace q318 := eq_true q318
            have ea_ := Option.some.inj (hx314_8.symm.trans hx318_8)
            injection ea_ with ea_ en_ ec_
            subst ea_; subst ec_; clear en_
            have p319 : 0 ≤ (x5_1 : Int) := of_decide_eq_true (by first | (with_reducible assumption) | assumption)
            have q319 : x5_1 < (l0.length : Int) := of_decide_eq_true (by first | (with_reducible assumption) | assumption)
            obtain ⟨ad319, A319_8, c319_8, e319, hx319_0, hx319_1, hx319_2, hx319_3, hx319_4, hx319_5, hx319_6, hx319_7, hx319_8, hl319_8, hi319_8⟩ := at_T36 HR0.out x5_1 p319 q319
            obtain rfl : ad314 = ad319 := (by injection e319)
            have HR319_8 := Aside0.mk hi319_8; have HC319_8 := Aside0.mk hl319_8; clear hi319_8 hl319_8
            replace p319 := eq_true p319
            replace q319 := eq_true q319
            have ea_ := Option.some.inj (hx314_8.symm.trans hx319_8)
            injection ea_ with ea_ en_ ec_
            subst ea_; subst ec_; clear en_
            have p320 : 0 ≤ (x5_1 : Int) := of_decide_eq_true (by first | (with_reducible assumption) | assumption)
            have q320 : x5_1 < (l0.length : Int) := of_decide_eq_true (by first | (with_reducible assumption) | assumption)
            obtain ⟨ad320, A320_8, c320_8, e320, hx320_0, hx320_1, hx320_2, hx320_3, hx320_4, hx320_5, hx320_6, hx320_7, hx320_8, hl320_8, hi320_8⟩ := at_T36 HR0.out x5_1 p320 q320
            obtain rfl : ad314 = ad320 := (by injection e320)
            have HR320_8 := Aside0.mk hi320_8; have HC320_8 := Aside0.mk hl320_8; clear hi320_8 hl320_8
            replace p320 := eq_true p320
            replace q320 := eq_true q320
            have ea_ := Option.some.inj (hx314_8.symm.trans hx320_8)
            injection ea_ with ea_ en_ ec_
            subst ea_; subst ec_; clear en_
            go_wp2
            go_ret
            exact ⟨by first | rfl | (simp; done) | (simp [*]; done), by repeat (first | exact Drawn0.refl _ | apply Drawn0.step)⟩
           ·rw [if_neg c11] at H
            have c11b0 : (((rd_T36 l0 x5_1).f6) != ((Int.tmod (wrap64 ((wrap64 ((wrap64 ((wrap64 ((wrap64 ((wrap64 (x1_1 + 1)) + 1)) + 1)) + 1)) + 1)) + 1)) 3) == 0)) = false := by simpa using c11
            (try (have c11b1 : decide (((rd_T36 l0 x5_1).f6) = ((Int.tmod (wrap64 ((wrap64 ((wrap64 ((wrap64 ((wrap64 ((wrap64 (x1_1 + 1)) + 1)) + 1)) + 1)) + 1)) + 1)) 3) == 0)) = true := by simpa using c11))
            (try (have c11b2 : (((rd_T36 l0 x5_1).f6) == ((Int.tmod (wrap64 ((wrap64 ((wrap64 ((wrap64 ((wrap64 ((wrap64 (x1_1 + 1)) + 1)) + 1)) + 1)) + 1)) + 1)) 3) == 0)) = true := by simpa using c11))
            clear c11
            by_cases c12 : (((rd_T36 l0 x5_1).f7) != ((Int.tmod (wrap64 ((wrap64 ((wrap64 ((wrap64 ((wrap64 ((wrap64 ((wrap64 (x1_1 + 1)) + 1)) + 1)) + 1)) + 1)) + 1)) + 1)) 3) == 0)) = true
            ·rw [if_pos c12] at H
             have c12b0 : (((rd_T36 l0 x5_1).f7) != ((Int.tmod (wrap64 ((wrap64 ((wrap64 ((wrap64 ((wrap64 ((wrap64 ((wrap64 (x1_1 + 1)) + 1)) + 1)) + 1)) + 1)) + 1)) + 1)) 3) == 0)) = true := c12
             (try (have c12b1 : decide (((rd_T36 l0 x5_1).f7) = ((Int.tmod (wrap64 ((wrap64 ((wrap64 ((wrap64 ((wrap64 ((wrap64 ((wrap64 (x1_1 + 1)) + 1)) + 1)) + 1)) + 1)) + 1)) + 1)) 3) == 0)) = false := by simpa using c12))
             (try (have c12b2 : (((rd_T36 l0 x5_1).f7) == ((Int.tmod (wrap64 ((wrap64 ((wrap64 ((wrap64 ((wrap64 ((wrap64 ((wrap64 (x1_1 + 1)) + 1)) + 1)) + 1)) + 1)) + 1)) + 1)) 3) == 0)) = false := by simpa using c12))
             (try (have c12b3 : ¬ (((rd_T36 l0 x5_1).f7) = ((Int.tmod (wrap64 ((wrap64 ((wrap64 ((wrap64 ((wrap64 ((wrap64 ((wrap64 (x1_1 + 1)) + 1)) + 1)) + 1)) + 1)) + 1)) + 1)) 3) == 0)) := by simpa using c12))
             clear c12
             obtain rfl := Option.some.inj H
             have p314 : 0 ≤ (x5_1 : Int) := of_decide_eq_true (by first | (with_reducible assumption) | assumption)
             have q314 : x5_1 < (l0.length : Int) := of_decide_eq_true (by first | (with_reducible assumption) | assumption)
             obtain ⟨ad314, A314_8, c314_8, e314, hx314_0, hx314_1, hx314_2, hx314_3, hx314_4, hx314_5, hx314_6, hx314_7, hx314_8, hl314_8, hi314_8⟩ := at_T36 HR0.out x5_1 p314 q314
             cases e314
             have HR314_8 := Aside0.mk hi314_8; have HC314_8 := Aside0.mk hl314_8; clear hi314_8 hl314_8
             replace p314 := eq_true p314
             replace q314 := eq_true q314
             have p315 : 0 ≤ (x5_1 : Int) := of_decide_eq_true (by first | (with_reducible assumption) | assumption)
             have q315 : x5_1 < (l0.length : Int) := of_decide_eq_true (by first | (with_reducible assumption) | assumption)
             obtain ⟨ad315, A315_8, c315_8, e315, hx315_0, hx315_1, hx315_2, hx315_3, hx315_4, hx315_5, hx315_6, hx315_7, hx315_8, hl315_8, hi315_8⟩ := at_T36 HR0.out x5_1 p315 q315
             obtain rfl : ad314 = ad315 := (by injection e315)
             have HR315_8 := Aside0.mk hi315_8; have HC315_8 := Aside0.mk hl315_8; clear hi315_8 hl315_8
             replace p315 := eq_true p315
             replace q315 := eq_true q315
             have ea_ := Option.some.inj (hx314_8.symm.trans hx315_8)
             injection ea_ with ea_ en_ ec_
             subst ea_; subst ec_; clear en_
             have p316 : 0 ≤ (x5_1 : Int) := of_decide_eq_true (by first | (with_reducible assumption) | assumption)
             have q316 : x5_1 < (l0.length : Int) := of_decide_eq_true (by first | (with_reducible assumption) | assumption)
             obtain ⟨ad316, A316_8, c316_8, e316, hx316_0, hx316_1, hx316_2, hx316_3, hx316_4, hx316_5, hx316_6, hx316_7, hx316_8, hl316_8, hi316_8⟩ := at_T36 HR0.out x5_1 p316 q316
             obtain rfl : ad314 = ad316 := (by injection e316)
             have HR316_8 := Aside0.mk hi316_8; have HC316_8 := Aside0.mk hl316_8; clear hi316_8 hl316_8
             replace p316 := eq_true p316
             replace q316 := eq_true q316
             have ea_ := Option.some.inj (hx314_8.symm.trans hx316_8)
             injection ea_ with ea_ en_ ec_
             subst ea_; subst ec_; clear en_
             have p317 : 0 ≤ (x5_1 : Int) := of_decide_eq_true (by first | (with_reducible assumption) | assumption)
             have q317 : x5_1 < (l0.length : Int) := of_decide_eq_true (by first | (with_reducible assumption) | assumption)
             obtain ⟨ad317, A317_8, c317_8, e317, hx317_0, hx317_1, hx317_2, hx317_3, hx317_4, hx317_5, hx317_6, hx317_7, hx317_8, hl317_8, hi317_8⟩ := at_T36 HR0.out x5_1 p317 q317
             obtain rfl : ad314 = ad317 := (by injection e317)
             have HR317_8 := Aside0.mk hi317_8; have HC317_8 := Aside0.mk hl317_8; clear hi317_8 hl317_8
             replace p317 := eq_true p317
             replace q317 := eq_true q317
             have ea_ := Option.some.inj (hx314_8.symm.trans hx317_8)
             injection ea_ with ea_ en_ ec_
             subst ea_; subst ec_; clear en_
             have p318 : 0 ≤ (x5_1 : Int) := of_decide_eq_true (by first | (with_reducible assumption) | assumption)
             have q318 : x5_1 < (l0.length : Int) := of_decide_eq_true (by first | (with_reducible assumption) | assumption)
             obtain ⟨ad318, A318_8, c318_8, e318, hx318_0, hx318_1, hx318_2, hx318_3, hx318_4, hx318_5, hx318_6, hx318_7, hx318_8, hl318_8, hi318_8⟩ := at_T36 HR0.out x5_1 p318 q318
             obtain rfl : ad314 = ad318 := (by injection e318)
             have HR318_8 := Aside0.mk hi318_8; have HC318_8 := Aside0.mk hl318_8; clear hi318_8 hl318_8
             replace p318 := eq_true p318
             replace q318 := eq_true q318
             have ea_ := Option.some.inj (hx314_8.symm.trans hx318_8)
             injection ea_ with ea_ en_ ec_
             subst ea_; subst ec_; clear en_
             have p319 : 0 ≤ (x5_1 : Int) := of_decide_eq_true (by first | (with_reducible assumption) | assumption)
             have q319 : x5_1 < (l0.length : Int) := of_decide_eq_true (by first | (with_reducible assumption) | assumption)
             obtain ⟨ad319, A319_8, c319_8, e319, hx319_0, hx319_1, hx319_2, hx319_3, hx319_4, hx319_5, hx319_6, hx319_7, hx319_8, hl319_8, hi319_8⟩ := at_T36 HR0.out x5_1 p319 q319
             obtain rfl : ad314 = ad319 := (by injection e319)
             have HR319_8 := Aside0.mk hi319_8; have HC319_8 := Aside0.mk hl319_8; clear hi319_8 hl319_8
             replace p319 := eq_true p319
             replace q319 := eq_true q319
             have ea_ := Option.some.inj (hx314_8.symm.trans hx319_8)
             injection ea_ with ea_ en_ ec_
             subst ea_; subst ec_; clear en_
             have p320 : 0 ≤ (x5_1 : Int) := of_decide_eq_true (by first | (with_reducible assumption) | assumption)
             have q320 : x5_1 < (l0.length : Int) := of_decide_eq_true (by first | (with_reducible assumption) | assumption)
             obtain ⟨ad320, A320_8, c320_8, e320, hx320_0, hx320_1, hx320_2, hx320_3, hx320_4, hx320_5, hx320_6, hx320_7, hx320_8, hl320_8, hi320_8⟩ := at_T36 HR0.out x5_1 p320 q320
             obtain rfl : ad314 = ad320 := (by injection e320)
             have HR320_8 := Aside0.mk hi320_8; have HC320_8 := Aside0.mk hl320_8; clear hi320_8 hl320_8
             replace p320 := eq_true p320
             replace q320 := eq_true q320
             have ea_ := Option.some.inj (hx314_8.symm.trans hx320_8)
             injection ea_ with ea_ en_ ec_
             subst ea_; subst ec_; clear en_
             have p321 : 0 ≤ (x5_1 : Int) := of_decide_eq_true (by first | (with_reducible assumption) | assumption)
             have q321 : x5_1 < (l0.length : Int) := of_decide_eq_true (by first | (with_reducible assumption) | assumption)
             obtain ⟨ad321, A321_8, c321_8, e321, hx321_0, hx321_1, hx321_2, hx321_3, hx321_4, hx321_5, hx321_6, hx321_7, hx321_8, hl321_8, hi321_8⟩ := at_T36 HR0.out x5_1 p321 q321
             obtain rfl : ad314 = ad321 := (by injection e321)
             have HR321_8 := Aside0.mk hi321_8; have HC321_8 := Aside0.mk hl321_8; clear hi321_8 hl321_8
             replace p321 := eq_true p321
             replace q321 := eq_true q321
             have ea_ := Option.some.inj (hx314_8.symm.trans hx321_8)
             injection ea_ with ea_ en_ ec_
             subst ea_; subst ec_; clear en_
             go_wp2
             go_ret
             exact ⟨by first | rfl | (simp; done) | (simp [*]; done), by repeat (first | exact Drawn0.refl _ | apply Drawn0.step)⟩
            ·rw [if_neg c12] at H
             have c12b0 : (((rd_T36 l0 x5_1).f7) != ((Int.tmod (wrap64 ((wrap64 ((wrap64 ((wrap64 ((wrap64 ((wrap64 ((wrap64 (x1_1 + 1)) + 1)) + 1)) + 1)) + 1)) + 1)) + 1)) 3) == 0)) = false := by simpa using c12
             (try (have c12b1 : decide (((rd_T36 l0 x5_1).f7) = ((Int.tmod (wrap64 ((wrap64 ((wrap64 ((wrap64 ((wrap64 ((wrap64 ((wrap64 (x1_1 + 1)) + 1)) + 1)) + 1)) + 1)) + 1)) + 1)) 3) == 0)) = true := by simpa using c12))
             (try (have c12b2 : (((rd_T36 l0 x5_1).f7) == ((Int.tmod (wrap64 ((wrap64 ((wrap64 ((wrap64 ((wrap64 ((wrap64 ((wrap64 (x1_1 + 1)) + 1)) + 1)) + 1)) + 1)) + 1)) + 1)) 3) == 0)) = true := by simpa using c12))
             clear c12
             replace H := Option.bind_eq_some_iff.mp H
             obtain ⟨t323, A130, H⟩ := H
             (try dsimp only at H)
             have A13 := Aside0.mk A130; clear A130
             by_cases c14 : t323 < 0
             ·rw [if_pos c14] at H
              have c14b0 : decide (t323 < 0) = true := decide_eq_true c14
              clear c14
              obtain rfl := Option.some.inj H
              have p314 : 0 ≤ (x5_1 : Int) := of_decide_eq_true (by first | (with_reducible assumption) | assumption)
              have q314 : x5_1 < (l0.length : Int) := of_decide_eq_true (by first | (with_reducible assumption) | assumption)
              obtain ⟨ad314, A314_8, c314_8, e314, hx314_0, hx314_1, hx314_2, hx314_3, hx314_4, hx314_5, hx314_6, hx314_7, hx314_8, hl314_8, hi314_8⟩ := at_T36 HR0.out x5_1 p314 q314
              cases e314
              have HR314_8 := Aside0.mk hi314_8; have HC314_8 := Aside0.mk hl314_8; clear hi314_8 hl314_8
              replace p314 := eq_true p314
              replace q314 := eq_true q314
              have p315 : 0 ≤ (x5_1 : Int) := of_decide_eq_true (by first | (with_reducible assumption) | assumption)
              have q315 : x5_1 < (l0.length : Int) := of_decide_eq_true (by first | (with_reducible assumption) | assumption)
              obtain ⟨ad315, A315_8, c315_8, e315, hx315_0, hx315_1, hx315_2, hx315_3, hx315_4, hx315_5, hx315_6, hx315_7, hx315_8, hl315_8, hi315_8⟩ := at_T36 HR0.out x5_1 p315 q315
              obtain rfl : ad314 = ad315 := (by injection e315)
              have HR315_8 := Aside0.mk hi315_8; have HC315_8 := Aside0.mk hl315_8; clear hi315_8 hl315_8
              replace p315 := eq_true p315
              replace q315 := eq_true q315
              have ea_ := Option.some.inj (hx314_8.symm.trans hx315_8)
              injection ea_ with ea_ en_ ec_
              subst ea_; subst ec_; clear en_
              have p316 : 0 ≤ (x5_1 : Int) := of_decide_eq_true (by first | (with_reducible assumption) | assumption)
              have q316 : x5_1 < (l0.length : Int) := of_decide_eq_true (by first | (with_reducible assumption) | assumption)
              obtain ⟨ad316, A316_8, c316_8, e316, hx316_0, hx316_1, hx316_2, hx316_3, hx316_4, hx316_5, hx316_6, hx316_7, hx316_8, hl316_8, hi316_8⟩ := at_T36 HR0.out x5_1 p316 q316
              obtain rfl : ad314 = ad316 := (by injection e316)
              have HR316_8 := Aside0.mk hi316_8; have HC316_8 := Aside0.mk hl316_8; clear hi316_8 hl316_8
              replace p316 := eq_true p316
              replace q316 := eq_true q316
              have ea_ := Option.some.inj (hx314_8.symm.trans hx316_8)
              injection ea_ with ea_ en_ ec_
              subst ea_; subst ec_; clear en_
              have p317 : 0 ≤ (x5_1 : Int) := of_decide_eq_true (by first | (with_reducible assumption) | assumption)
              have q317 : x5_1 < (l0.length : Int) := of_decide_eq_true (by first | (with_reducible assumption) | assumption)
              obtain ⟨ad317, A317_8, c317_8, e317, hx317_0, hx317_1, hx317_2, hx317_3, hx317_4, hx317_5, hx317_6, hx317_7, hx317_8, hl317_8, hi317_8⟩ := at_T36 HR0.out x5_1 p317 q317
              obtain rfl : ad314 = ad317 := (by injection e317)
              have HR317_8 := Aside0.mk hi317_8; have HC317_8 := Aside0.mk hl317_8; clear hi317_8 hl317_8
              replace p317 := eq_true p317
              replace q317 := eq_true q317
              have ea_ := Option.some.inj (hx314_8.symm.trans hx317_8)
              injection ea_ with ea_ en_ ec_
              subst ea_; subst ec_; clear en_
              have p318 : 0 ≤ (x5_1 : Int) := of_decide_eq_true (by first | (with_reducible assumption) | assumption)
              have q318 : x5_1 < (l0.length : Int) := of_decide_eq_true (by first | (with_reducible assumption) | assumption)
              obtain ⟨ad318, A318_8, c318_8, e318, hx318_0, hx318_1, hx318_2, hx318_3, hx318_4, hx318_5, hx318_6, hx318_7, hx318_8, hl318_8, hi318_8⟩ := at_T36 HR0.out x5_1 p318 q318
              obtain rfl : ad314 = ad318 := (by injection e318)
              have HR318_8 := Aside0.mk hi318_8; have HC318_8 := Aside0.mk hl318_8; clear hi318_8 hl318_8
              replace p318 := eq_true p318
              replace q318 := eq_true q318
              have ea_ := Option.some.inj (hx314_8.symm.trans hx318_8)
              injection ea_ with ea_ en_ ec_
              subst ea_; subst ec_; clear en_
              have p319 : 0 ≤ (x5_1 : Int) := of_decide_eq_true (by first | (with_reducible assumption) | assumption)
              have q319 : x5_1 < (l0.length : Int) := of_decide_eq_true (by first | (with_reducible assumption) | assumption)
              obtain ⟨ad319, A319_8, c319_8, e319, hx319_0, hx319_1, hx319_2, hx319_3, hx319_4, hx319_5, hx319_6, hx319_7, hx319_8, hl319_8, hi319_8⟩ := at_T36 HR0.out x5_1 p319 q319
              obtain rfl : ad314 = ad319 := (by injection e319)
              have HR319_8 := Aside0.mk hi319_8; have HC319_8 := Aside0.mk hl319_8; clear hi319_8 hl319_8
              replace p319 := eq_true p319
              replace q319 := eq_true q319
              have ea_ := Option.some.inj (hx314_8.symm.trans hx319_8)
              injection ea_ with ea_ en_ ec_
              subst ea_; subst ec_; clear en_
              have p320 : 0 ≤ (x5_1 : Int) := of_decide_eq_true (by first | (with_reducible assumption) | assumption)
              have q320 : x5_1 < (l0.length : Int) := of_decide_eq_true (by first | (with_reducible assumption) | assumption)
              obtain ⟨ad320, A320_8, c320_8, e320, hx320_0, hx320_1, hx320_2, hx320_3, hx320_4, hx320_5, hx320_6, hx320_7, hx320_8, hl320_8, hi320_8⟩ := at_T36 HR0.out x5_1 p320 q320
              obtain rfl : ad314 = ad320 := (by injection e320)
              have HR320_8 := Aside0.mk hi320_8; have HC320_8 := Aside0.mk hl320_8; clear hi320_8 hl320_8
              replace p320 := eq_true p320
              replace q320 := eq_true q320
              have ea_ := Option.some.inj (hx314_8.symm.trans hx320_8)
              injection ea_ with ea_ en_ ec_
              subst ea_; subst ec_; clear en_
              have p321 : 0 ≤ (x5_1 : Int) := of_decide_eq_true (by first | (with_reducible assumption) | assumption)
              have q321 : x5_1 < (l0.length : Int) := of_decide_eq_true (by first | (with_reducible assumption) | assumption)
              obtain ⟨ad321, A321_8, c321_8, e321, hx321_0, hx321_1, hx321_2, hx321_3, hx321_4, hx321_5, hx321_6, hx321_7, hx321_8, hl321_8, hi321_8⟩ := at_T36 HR0.out x5_1 p321 q321
              obtain rfl : ad314 = ad321 := (by injection e321)
              have HR321_8 := Aside0.mk hi321_8; have HC321_8 := Aside0.mk hl321_8; clear hi321_8 hl321_8
              replace p321 := eq_true p321
              replace q321 := eq_true q321
              have ea_ := Option.some.inj (hx314_8.symm.trans hx321_8)
              injection ea_ with ea_ en_ ec_
              subst ea_; subst ec_; clear en_
              have p322 : 0 ≤ (x5_1 : Int) := of_decide_eq_true (by first | (with_reducible assumption) | assumption)
              have q322 : x5_1 < (l0.length : Int) := of_decide_eq_true (by first | (with_reducible assumption) | assumption)
              obtain ⟨ad322, A322_8, c322_8, e322, hx322_0, hx322_1, hx322_2, hx322_3, hx322_4, hx322_5, hx322_6, hx322_7, hx322_8, hl322_8, hi322_8⟩ := at_T36 HR0.out x5_1 p322 q322
              obtain rfl : ad314 = ad322 := (by injection e322)
              have HR322_8 := Aside0.mk hi322_8; have HC322_8 := Aside0.mk hl322_8; clear hi322_8 hl322_8
              replace p322 := eq_true p322
              replace q322 := eq_true q322
              have ea_ := Option.some.inj (hx314_8.symm.trans hx322_8)
              injection ea_ with ea_ en_ ec_
              subst ea_; subst ec_; clear en_
              go_wp2_with (first | ((with_reducible refine gate_callee (f := 78) rfl ?_); refine goesL_ (some 94) rfl rfl Try.func78 (by kernel_rfl) rfl #[.slice A314_8 ((rd_T36 l0 x5_1).f8).length c314_8, .int .i64 (wrap64 ((wrap64 ((wrap64 ((wrap64 ((wrap64 ((wrap64 ((wrap64 ((wrap64 (x1_1 + 1)) + 1)) + 1)) + 1)) + 1)) + 1)) + 1)) + 1))] rfl ar_ ?_; (with_reducible refine (laws_heldByteS.calls k1 _ _ ((rd_T36 l0 x5_1).f8) (wrap64 ((wrap64 ((wrap64 ((wrap64 ((wrap64 ((wrap64 ((wrap64 ((wrap64 (x1_1 + 1)) + 1)) + 1)) + 1)) + 1)) + 1)) + 1)) + 1)) t323 _ ?side1 ?side2 A13.out).mono ?_); (case side1 => exact kC_ HR322_8.out); (case side2 => exact HC322_8.out); rintro e w' ⟨rfl, ⟨nd, rfl⟩⟩; refine ⟨_, rfl, ?_⟩))
              go_ret
              exact ⟨by first | rfl | (simp; done) | (simp [*]; done), by repeat (first | exact Drawn0.refl _ | apply Drawn0.step)⟩
             ·rw [if_neg c14] at H
              have c14b0 : decide (t323 < 0) = false := decide_eq_false c14
              clear c14
              have H' := Aside0.mk H
              clear H
              have p314 : 0 ≤ (x5_1 : Int) := of_decide_eq_true (by first | (with_reducible assumption) | assumption)
              have q314 : x5_1 < (l0.length : Int) := of_decide_eq_true (by first | (with_reducible assumption) | assumption)
              obtain ⟨ad314, A314_8, c314_8, e314, hx314_0, hx314_1, hx314_2, hx314_3, hx314_4, hx314_5, hx314_6, hx314_7, hx314_8, hl314_8, hi314_8⟩ := at_T36 HR0.out x5_1 p314 q314
              cases e314
              have HR314_8 := Aside0.mk hi314_8; have HC314_8 := Aside0.mk hl314_8; clear hi314_8 hl314_8
              replace p314 := eq_true p314
              replace q314 := eq_true q314
              have p315 : 0 ≤ (x5_1 : Int) := of_decide_eq_true (by first | (with_reducible assumption) | assumption)
              have q315 : x5_1 < (l0.length : Int) := of_decide_eq_true (by first | (with_reducible assumption) | assumption)
              obtain ⟨ad315, A315_8, c315_8, e315, hx315_0, hx315_1, hx315_2, hx315_3, hx315_4, hx315_5, hx315_6, hx315_7, hx315_8, hl315_8, hi315_8⟩ := at_T36 HR0.out x5_1 p315 q315
              obtain rfl : ad314 = ad315 := (by injection e315)
              have HR315_8 := Aside0.mk hi315_8; have HC315_8 := Aside0.mk hl315_8; clear hi315_8 hl315_8
              replace p315 := eq_true p315
              replace q315 := eq_true q315
              have ea_ := Option.some.inj (hx314_8.symm.trans hx315_8)
              injection ea_ with ea_ en_ ec_
              subst ea_; subst ec_; clear en_
              have p316 : 0 ≤ (x5_1 : Int) := of_decide_eq_true (by first | (with_reducible assumption) | assumption)
              have q316 : x5_1 < (l0.length : Int) := of_decide_eq_true (by first | (with_reducible assumption) | assumption)
              obtain ⟨ad316, A316_8, c316_8, e316, hx316_0, hx316_1, hx316_2, hx316_3, hx316_4, hx316_5, hx316_6, hx316_7, hx316_8, hl316_8, hi316_8⟩ := at_T36 HR0.out x5_1 p316 q316
              obtain rfl : ad314 = ad316 := (by injection e316)
              have HR316_8 := Aside0.mk hi316_8; have HC316_8 := Aside0.mk hl316_8; clear hi316_8 hl316_8
              replace p316 := eq_true p316
              replace q316 := eq_true q316
              have ea_ := Option.some.inj (hx314_8.symm.trans hx316_8)
              injection ea_ with ea_ en_ ec_
              subst ea_; subst ec_; clear en_
              have p317 : 0 ≤ (x5_1 : Int) := of_decide_eq_true (by first | (with_reducible assumption) | assumption)
              have q317 : x5_1 < (l0.length : Int) := of_decide_eq_true (by first | (with_reducible assumption) | assumption)
              obtain ⟨ad317, A317_8, c317_8, e317, hx317_0, hx317_1, hx317_2, hx317_3, hx317_4, hx317_5, hx317_6, hx317_7, hx317_8, hl317_8, hi317_8⟩ := at_T36 HR0.out x5_1 p317 q317
              obtain rfl : ad314 = ad317 := (by injection e317)
              have HR317_8 := Aside0.mk hi317_8; have HC317_8 := Aside0.mk hl317_8; clear hi317_8 hl317_8
              replace p317 := eq_true p317
              replace q317 := eq_true q317
              have ea_ := Option.some.inj (hx314_8.symm.trans hx317_8)
              injection ea_ with ea_ en_ ec_
              subst ea_; subst ec_; clear en_
              have p318 : 0 ≤ (x5_1 : Int) := of_decide_eq_true (by first | (with_reducible assumption) | assumption)
              have q318 : x5_1 < (l0.length : Int) := of_decide_eq_true (by first | (with_reducible assumption) | assumption)
              obtain ⟨ad318, A318_8, c318_8, e318, hx318_0, hx318_1, hx318_2, hx318_3, hx318_4, hx318_5, hx318_6, hx318_7, hx318_8, hl318_8, hi318_8⟩ := at_T36 HR0.out x5_1 p318 q318
              obtain rfl : ad314 = ad318 := (by injection e318)
              have HR318_8 := Aside0.mk hi318_8; have HC318_8 := Aside0.mk hl318_8; clear hi318_8 hl318_8
              replace p318 := eq_true p318
              replace q318 := eq_true q318
              have ea_ := Option.some.inj (hx314_8.symm.trans hx318_8)
              injection ea_ with ea_ en_ ec_
              subst ea_; subst ec_; clear en_
              have p319 : 0 ≤ (x5_1 : Int) := of_decide_eq_true (by first | (with_reducible assumption) | assumption)
              have q319 : x5_1 < (l0.length : Int) := of_decide_eq_true (by first | (with_reducible assumption) | assumption)
              obtain ⟨ad319, A319_8, c319_8, e319, hx319_0, hx319_1, hx319_2, hx319_3, hx319_4, hx319_5, hx319_6, hx319_7, hx319_8, hl319_8, hi319_8⟩ := at_T36 HR0.out x5_1 p319 q319
              obtain rfl : ad314 = ad319 := (by injection e319)
              have HR319_8 := Aside0.mk hi319_8; have HC319_8 := Aside0.mk hl319_8; clear hi319_8 hl319_8
              replace p319 := eq_true p319
              replace q319 := eq_true q319
              have ea_ := Option.some.inj (hx314_8.symm.trans hx319_8)
              injection ea_ with ea_ en_ ec_
              subst ea_; subst ec_; clear en_
              have p320 : 0 ≤ (x5_1 : Int) := of_decide_eq_true (by first | (with_reducible assumption) | assumption)
              have q320 : x5_1 < (l0.length : Int) := of_decide_eq_true (by first | (with_reducible assumption) | assumption)
              obtain ⟨ad320, A320_8, c320_8, e320, hx320_0, hx320_1, hx320_2, hx320_3, hx320_4, hx320_5, hx320_6, hx320_7, hx320_8, hl320_8, hi320_8⟩ := at_T36 HR0.out x5_1 p320 q320
              obtain rfl : ad314 = ad320 := (by injection e320)
              have HR320_8 := Aside0.mk hi320_8; have HC320_8 := Aside0.mk hl320_8; clear hi320_8 hl320_8
              replace p320 := eq_true p320
              replace q320 := eq_true q320
              have ea_ := Option.some.inj (hx314_8.symm.trans hx320_8)
              injection ea_ with ea_ en_ ec_
              subst ea_; subst ec_; clear en_
              have p321 : 0 ≤ (x5_1 : Int) := of_decide_eq_true (by first | (with_reducible assumption) | assumption)
              have q321 : x5_1 < (l0.length : Int) := of_decide_eq_true (by first | (with_reducible assumption) | assumption)
              obtain ⟨ad321, A321_8, c321_8, e321, hx321_0, hx321_1, hx321_2, hx321_3, hx321_4, hx321_5, hx321_6, hx321_7, hx321_8, hl321_8, hi321_8⟩ := at_T36 HR0.out x5_1 p321 q321
              obtain rfl : ad314 = ad321 := (by injection e321)
              have HR321_8 := Aside0.mk hi321_8; have HC321_8 := Aside0.mk hl321_8; clear hi321_8 hl321_8
              replace p321 := eq_true p321
              replace q321 := eq_true q321
              have ea_ := Option.some.inj (hx314_8.symm.trans hx321_8)
              injection ea_ with ea_ en_ ec_
              subst ea_; subst ec_; clear en_
              have p322 : 0 ≤ (x5_1 : Int) := of_decide_eq_true (by first | (with_reducible assumption) | assumption)
              have q322 : x5_1 < (l0.length : Int) := of_decide_eq_true (by first | (with_reducible assumption) | assumption)
              obtain ⟨ad322, A322_8, c322_8, e322, hx322_0, hx322_1, hx322_2, hx322_3, hx322_4, hx322_5, hx322_6, hx322_7, hx322_8, hl322_8, hi322_8⟩ := at_T36 HR0.out x5_1 p322 q322
              obtain rfl : ad314 = ad322 := (by injection e322)
              have HR322_8 := Aside0.mk hi322_8; have HC322_8 := Aside0.mk hl322_8; clear hi322_8 hl322_8
              replace p322 := eq_true p322
              replace q322 := eq_true q322
              have ea_ := Option.some.inj (hx314_8.symm.trans hx322_8)
              injection ea_ with ea_ en_ ec_
              subst ea_; subst ec_; clear en_
              go_wp2_with (first | ((with_reducible refine gate_callee (f := 78) rfl ?_); refine goesL_ (some 94) rfl rfl Try.func78 (by kernel_rfl) rfl #[.slice A314_8 ((rd_T36 l0 x5_1).f8).length c314_8, .int .i64 (wrap64 ((wrap64 ((wrap64 ((wrap64 ((wrap64 ((wrap64 ((wrap64 ((wrap64 (x1_1 + 1)) + 1)) + 1)) + 1)) + 1)) + 1)) + 1)) + 1))] rfl ar_ ?_; (with_reducible refine (laws_heldByteS.calls k1 _ _ ((rd_T36 l0 x5_1).f8) (wrap64 ((wrap64 ((wrap64 ((wrap64 ((wrap64 ((wrap64 ((wrap64 ((wrap64 (x1_1 + 1)) + 1)) + 1)) + 1)) + 1)) + 1)) + 1)) + 1)) t323 _ ?side1 ?side2 A13.out).mono ?_); (case side1 => exact kC_ HR322_8.out); (case side2 => exact HC322_8.out); rintro e w' ⟨rfl, ⟨nd, rfl⟩⟩; refine ⟨_, rfl, ?_⟩))
              go_roundg k1
              case measure => have := HK1.out; omega
              case rel => exact ⟨(t323), (wrap64 (x5_1 + 1)), (by first | rfl | (simp; done) | (simp [*]; done)), (by first | rfl | (simp; done) | (simp [*]; done)), H', ⟨by have := HK1.out; omega⟩, by repeat (first | exact Drawn0.refl _ | apply Drawn0.step)⟩
          ·rw [if_neg c10] at H
           have c10b0 : (((rd_T36 l0 x5_1).f5) == (wrap64 ((wrap64 ((wrap64 ((wrap64 ((wrap64 (x1_1 + 1)) + 1)) + 1)) + 1)) + 1))) = false := beq_eq_false_iff_ne.mpr c10
           have c10b1 : (((rd_T36 l0 x5_1).f5) != (wrap64 ((wrap64 ((wrap64 ((wrap64 ((wrap64 (x1_1 + 1)) + 1)) + 1)) + 1)) + 1))) = true := bne_iff_ne.mpr c10
           obtain rfl := Option.some.inj H
           have p314 : 0 ≤ (x5_1 : Int) := of_decide_eq_true (by first | (with_reducible assumption) | assumption)
           have q314 : x5_1 < (l0.length : Int) := of_decide_eq_true (by first | (with_reducible assumption) | assumption)
           obtain ⟨ad314, A314_8, c314_8, e314, hx314_0, hx314_1, hx314_2, hx314_3, hx314_4, hx314_5, hx314_6, hx314_7, hx314_8, hl314_8, hi314_8⟩ := at_T36 HR0.out x5_1 p314 q314
           cases e314
           have HR314_8 := Aside0.mk hi314_8; have HC314_8 := Aside0.mk hl314_8; clear hi314_8 hl314_8
           replace p314 := eq_true p314
           replace q314 := eq_true q314
           have p315 : 0 ≤ (x5_1 : Int) := of_decide_eq_true (by first | (with_reducible assumption) | assumption)
           have q315 : x5_1 < (l0.length : Int) := of_decide_eq_true (by first | (with_reducible assumption) | assumption)
           obtain ⟨ad315, A315_8, c315_8, e315, hx315_0, hx315_1, hx315_2, hx315_3, hx315_4, hx315_5, hx315_6, hx315_7, hx315_8, hl315_8, hi315_8⟩ := at_T36 HR0.out x5_1 p315 q315
           obtain rfl : ad314 = ad315 := (by injection e315)
           have HR315_8 := Aside0.mk hi315_8; have HC315_8 := Aside0.mk hl315_8; clear hi315_8 hl315_8
           replace p315 := eq_true p315
           replace q315 := eq_true q315
           have ea_ := Option.some.inj (hx314_8.symm.trans hx315_8)
           injection ea_ with ea_ en_ ec_
           subst ea_; subst ec_; clear en_
           have p316 : 0 ≤ (x5_1 : Int) := of_decide_eq_true (by first | (with_reducible assumption) | assumption)
           have q316 : x5_1 < (l0.length : Int) := of_decide_eq_true (by first | (with_reducible assumption) | assumption)
           obtain ⟨ad316, A316_8, c316_8, e316, hx316_0, hx316_1, hx316_2, hx316_3, hx316_4, hx316_5, hx316_6, hx316_7, hx316_8, hl316_8, hi316_8⟩ := at_T36 HR0.out x5_1 p316 q316
           obtain rfl : ad314 = ad316 := (by injection e316)
           have HR316_8 := Aside0.mk hi316_8; have HC316_8 := Aside0.mk hl316_8; clear hi316_8 hl316_8
           replace p316 := eq_true p316
           replace q316 := eq_true q316
           have ea_ := Option.some.inj (hx314_8.symm.trans hx316_8)
           injection ea_ with ea_ en_ ec_
           subst ea_; subst ec_; clear en_
           have p317 : 0 ≤ (x5_1 : Int) := of_decide_eq_true (by first | (with_reducible assumption) | assumption)
           have q317 : x5_1 < (l0.length : Int) := of_decide_eq_true (by first | (with_reducible assumption) | assumption)
           obtain ⟨ad317, A317_8, c317_8, e317, hx317_0, hx317_1, hx317_2, hx317_3, hx317_4, hx317_5, hx317_6, hx317_7, hx317_8, hl317_8, hi317_8⟩ := at_T36 HR0.out x5_1 p317 q317
           obtain rfl : ad314 = ad317 := (by injection e317)
           have HR317_8 := Aside0.mk hi317_8; have HC317_8 := Aside0.mk hl317_8; clear hi317_8 hl317_8
           replace p317 := eq_true p317
           replace q317 := eq_true q317
           have ea_ := Option.some.inj (hx314_8.symm.trans hx317_8)
           injection ea_ with ea_ en_ ec_
           subst ea_; subst ec_; clear en_
           have p318 : 0 ≤ (x5_1 : Int) := of_decide_eq_true (by first | (with_reducible assumption) | assumption)
           have q318 : x5_1 < (l0.length : Int) := of_decide_eq_true (by first | (with_reducible assumption) | assumption)
           obtain ⟨ad318, A318_8, c318_8, e318, hx318_0, hx318_1, hx318_2, hx318_3, hx318_4, hx318_5, hx318_6, hx318_7, hx318_8, hl318_8, hi318_8⟩ := at_T36 HR0.out x5_1 p318 q318
           obtain rfl : ad314 = ad318 := (by injection e318)
           have HR318_8 := Aside0.mk hi318_8; have HC318_8 := Aside0.mk hl318_8; clear hi318_8 hl318_8
           replace p318 := eq_true p318
           replace q318 := eq_true q318
           have ea_ := Option.some.inj (hx314_8.symm.trans hx318_8)
           injection ea_ with ea_ en_ ec_
           subst ea_; subst ec_; clear en_
           have p319 : 0 ≤ (x5_1 : Int) := of_decide_eq_true (by first | (with_reducible assumption) | assumption)
           have q319 : x5_1 < (l0.length : Int) := of_decide_eq_true (by first | (with_reducible assumption) | assumption)
           obtain ⟨ad319, A319_8, c319_8, e319, hx319_0, hx319_1, hx319_2, hx319_3, hx319_4, hx319_5, hx319_6, hx319_7, hx319_8, hl319_8, hi319_8⟩ := at_T36 HR0.out x5_1 p319 q319
           obtain rfl : ad314 = ad319 := (by injection e319)
           have HR319_8 := Aside0.mk hi319_8; have HC319_8 := Aside0.mk hl319_8; clear hi319_8 hl319_8
           replace p319 := eq_true p319
           replace q319 := eq_true q319
           have ea_ := Option.some.inj (hx314_8.symm.trans hx319_8)
           injection ea_ with ea_ en_ ec_
           subst ea_; subst ec_; clear en_
           go_wp2
           go_ret
           exact ⟨by first | rfl | (simp; done) | (simp [*]; done), by repeat (first | exact Drawn0.refl _ | apply Drawn0.step)⟩
         ·rw [if_neg c9] at H
          have c9b0 : (((rd_T36 l0 x5_1).f4) == (wrap64 ((wrap64 ((wrap64 ((wrap64 (x1_1 + 1)) + 1)) + 1)) + 1))) = false := beq_eq_false_iff_ne.mpr c9
          have c9b1 : (((rd_T36 l0 x5_1).f4) != (wrap64 ((wrap64 ((wrap64 ((wrap64 (x1_1 + 1)) + 1)) + 1)) + 1))) = true := bne_iff_ne.mpr c9
          obtain rfl := Option.some.inj H
          have p314 : 0 ≤ (x5_1 : Int) := of_decide_eq_true (by first | (with_reducible assumption) | assumption)
          have q314 : x5_1 < (l0.length : Int) := of_decide_eq_true (by first | (with_reducible assumption) | assumption)
          obtain ⟨ad314, A314_8, c314_8, e314, hx314_0, hx314_1, hx314_2, hx314_3, hx314_4, hx314_5, hx314_6, hx314_7, hx314_8, hl314_8, hi314_8⟩ := at_T36 HR0.out x5_1 p314 q314
          cases e314
          have HR314_8 := Aside0.mk hi314_8; have HC314_8 := Aside0.mk hl314_8; clear hi314_8 hl314_8
          replace p314 := eq_true p314
          replace q314 := eq_true q314
          have p315 : 0 ≤ (x5_1 : Int) := of_decide_eq_true (by first | (with_reducible assumption) | assumption)
          have q315 : x5_1 < (l0.length : Int) := of_decide_eq_true (by first | (with_reducible assumption) | assumption)
          obtain ⟨ad315, A315_8, c315_8, e315, hx315_0, hx315_1, hx315_2, hx315_3, hx315_4, hx315_5, hx315_6, hx315_7, hx315_8, hl315_8, hi315_8⟩ := at_T36 HR0.out x5_1 p315 q315
          obtain rfl : ad314 = ad315 := (by injection e315)
          have HR315_8 := Aside0.mk hi315_8; have HC315_8 := Aside0.mk hl315_8; clear hi315_8 hl315_8
          replace p315 := eq_true p315
          replace q315 := eq_true q315
          have ea_ := Option.some.inj (hx314_8.symm.trans hx315_8)
          injection ea_ with ea_ en_ ec_
          subst ea_; subst ec_; clear en_
          have p316 : 0 ≤ (x5_1 : Int) := of_decide_eq_true (by first | (with_reducible assumption) | assumption)
          have q316 : x5_1 < (l0.length : Int) := of_decide_eq_true (by first | (with_reducible assumption) | assumption)
          obtain ⟨ad316, A316_8, c316_8, e316, hx316_0, hx316_1, hx316_2, hx316_3, hx316_4, hx316_5, hx316_6, hx316_7, hx316_8, hl316_8, hi316_8⟩ := at_T36 HR0.out x5_1 p316 q316
          obtain rfl : ad314 = ad316 := (by injection e316)
          have HR316_8 := Aside0.mk hi316_8; have HC316_8 := Aside0.mk hl316_8; clear hi316_8 hl316_8
          replace p316 := eq_true p316
          replace q316 := eq_true q316
          have ea_ := Option.some.inj (hx314_8.symm.trans hx316_8)
          injection ea_ with ea_ en_ ec_
          subst ea_; subst ec_; clear en_
          have p317 : 0 ≤ (x5_1 : Int) := of_decide_eq_true (by first | (with_reducible assumption) | assumption)
          have q317 : x5_1 < (l0.length : Int) := of_decide_eq_true (by first | (with_reducible assumption) | assumption)
          obtain ⟨ad317, A317_8, c317_8, e317, hx317_0, hx317_1, hx317_2, hx317_3, hx317_4, hx317_5, hx317_6, hx317_7, hx317_8, hl317_8, hi317_8⟩ := at_T36 HR0.out x5_1 p317 q317
          obtain rfl : ad314 = ad317 := (by injection e317)
          have HR317_8 := Aside0.mk hi317_8; have HC317_8 := Aside0.mk hl317_8; clear hi317_8 hl317_8
          replace p317 := eq_true p317
          replace q317 := eq_true q317
          have ea_ := Option.some.inj (hx314_8.symm.trans hx317_8)
          injection ea_ with ea_ en_ ec_
          subst ea_; subst ec_; clear en_
          have p318 : 0 ≤ (x5_1 : Int) := of_decide_eq_true (by first | (with_reducible assumption) | assumption)
          have q318 : x5_1 < (l0.length : Int) := of_decide_eq_true (by first | (with_reducible assumption) | assumption)
          obtain ⟨ad318, A318_8, c318_8, e318, hx318_0, hx318_1, hx318_2, hx318_3, hx318_4, hx318_5, hx318_6, hx318_7, hx318_8, hl318_8, hi318_8⟩ := at_T36 HR0.out x5_1 p318 q318
          obtain rfl : ad314 = ad318 := (by injection e318)
          have HR318_8 := Aside0.mk hi318_8; have HC318_8 := Aside0.mk hl318_8; clear hi318_8 hl318_8
          replace p318 := eq_true p318
          replace q318 := eq_true q318
          have ea_ := Option.some.inj (hx314_8.symm.trans hx318_8)
          injection ea_ with ea_ en_ ec_
          subst ea_; subst ec_; clear en_
          go_wp2
          go_ret
          exact ⟨by first | rfl | (simp; done) | (simp [*]; done), by repeat (first | exact Drawn0.refl _ | apply Drawn0.step)⟩
        ·rw [if_neg c8] at H
         have c8b0 : (((rd_T36 l0 x5_1).f3) == (wrap64 ((wrap64 ((wrap64 (x1_1 + 1)) + 1)) + 1))) = false := beq_eq_false_iff_ne.mpr c8
         have c8b1 : (((rd_T36 l0 x5_1).f3) != (wrap64 ((wrap64 ((wrap64 (x1_1 + 1)) + 1)) + 1))) = true := bne_iff_ne.mpr c8
         obtain rfl := Option.some.inj H
         have p314 : 0 ≤ (x5_1 : Int) := of_decide_eq_true (by first | (with_reducible assumption) | assumption)
         have q314 : x5_1 < (l0.length : Int) := of_decide_eq_true (by first | (with_reducible assumption) | assumption)
         obtain ⟨ad314, A314_8, c314_8, e314, hx314_0, hx314_1, hx314_2, hx314_3, hx314_4, hx314_5, hx314_6, hx314_7, hx314_8, hl314_8, hi314_8⟩ := at_T36 HR0.out x5_1 p314 q314
         cases e314
         have HR314_8 := Aside0.mk hi314_8; have HC314_8 := Aside0.mk hl314_8; clear hi314_8 hl314_8
         replace p314 := eq_true p314
         replace q314 := eq_true q314
         have p315 : 0 ≤ (x5_1 : Int) := of_decide_eq_true (by first | (with_reducible assumption) | assumption)
         have q315 : x5_1 < (l0.length : Int) := of_decide_eq_true (by first | (with_reducible assumption) | assumption)
         obtain ⟨ad315, A315_8, c315_8, e315, hx315_0, hx315_1, hx315_2, hx315_3, hx315_4, hx315_5, hx315_6, hx315_7, hx315_8, hl315_8, hi315_8⟩ := at_T36 HR0.out x5_1 p315 q315
         obtain rfl : ad314 = ad315 := (by injection e315)
         have HR315_8 := Aside0.mk hi315_8; have HC315_8 := Aside0.mk hl315_8; clear hi315_8 hl315_8
         replace p315 := eq_true p315
         replace q315 := eq_true q315
         have ea_ := Option.some.inj (hx314_8.symm.trans hx315_8)
         injection ea_ with ea_ en_ ec_
         subst ea_; subst ec_; clear en_
         have p316 : 0 ≤ (x5_1 : Int) := of_decide_eq_true (by first | (with_reducible assumption) | assumption)
         have q316 : x5_1 < (l0.length : Int) := of_decide_eq_true (by first | (with_reducible assumption) | assumption)
         obtain ⟨ad316, A316_8, c316_8, e316, hx316_0, hx316_1, hx316_2, hx316_3, hx316_4, hx316_5, hx316_6, hx316_7, hx316_8, hl316_8, hi316_8⟩ := at_T36 HR0.out x5_1 p316 q316
         obtain rfl : ad314 = ad316 := (by injection e316)
         have HR316_8 := Aside0.mk hi316_8; have HC316_8 := Aside0.mk hl316_8; clear hi316_8 hl316_8
         replace p316 := eq_true p316
         replace q316 := eq_true q316
         have ea_ := Option.some.inj (hx314_8.symm.trans hx316_8)
         injection ea_ with ea_ en_ ec_
         subst ea_; subst ec_; clear en_
         have p317 : 0 ≤ (x5_1 : Int) := of_decide_eq_true (by first | (with_reducible assumption) | assumption)
         have q317 : x5_1 < (l0.length : Int) := of_decide_eq_true (by first | (with_reducible assumption) | assumption)
         obtain ⟨ad317, A317_8, c317_8, e317, hx317_0, hx317_1, hx317_2, hx317_3, hx317_4, hx317_5, hx317_6, hx317_7, hx317_8, hl317_8, hi317_8⟩ := at_T36 HR0.out x5_1 p317 q317
         obtain rfl : ad314 = ad317 := (by injection e317)
         have HR317_8 := Aside0.mk hi317_8; have HC317_8 := Aside0.mk hl317_8; clear hi317_8 hl317_8
         replace p317 := eq_true p317
         replace q317 := eq_true q317
         have ea_ := Option.some.inj (hx314_8.symm.trans hx317_8)
         injection ea_ with ea_ en_ ec_
         subst ea_; subst ec_; clear en_
         go_wp2
         go_ret
         exact ⟨by first | rfl | (simp; done) | (simp [*]; done), by repeat (first | exact Drawn0.refl _ | apply Drawn0.step)⟩
       ·rw [if_neg c7] at H
        have c7b0 : (((rd_T36 l0 x5_1).f2) == (wrap64 ((wrap64 (x1_1 + 1)) + 1))) = false := beq_eq_false_iff_ne.mpr c7
        have c7b1 : (((rd_T36 l0 x5_1).f2) != (wrap64 ((wrap64 (x1_1 + 1)) + 1))) = true := bne_iff_ne.mpr c7
        obtain rfl := Option.some.inj H
        have p314 : 0 ≤ (x5_1 : Int) := of_decide_eq_true (by first | (with_reducible assumption) | assumption)
        have q314 : x5_1 < (l0.length : Int) := of_decide_eq_true (by first | (with_reducible assumption) | assumption)
        obtain ⟨ad314, A314_8, c314_8, e314, hx314_0, hx314_1, hx314_2, hx314_3, hx314_4, hx314_5, hx314_6, hx314_7, hx314_8, hl314_8, hi314_8⟩ := at_T36 HR0.out x5_1 p314 q314
        cases e314
        have HR314_8 := Aside0.mk hi314_8; have HC314_8 := Aside0.mk hl314_8; clear hi314_8 hl314_8
        replace p314 := eq_true p314
        replace q314 := eq_true q314
        have p315 : 0 ≤ (x5_1 : Int) := of_decide_eq_true (by first | (with_reducible assumption) | assumption)
        have q315 : x5_1 < (l0.length : Int) := of_decide_eq_true (by first | (with_reducible assumption) | assumption)
        obtain ⟨ad315, A315_8, c315_8, e315, hx315_0, hx315_1, hx315_2, hx315_3, hx315_4, hx315_5, hx315_6, hx315_7, hx315_8, hl315_8, hi315_8⟩ := at_T36 HR0.out x5_1 p315 q315
        obtain rfl : ad314 = ad315 := (by injection e315)
        have HR315_8 := Aside0.mk hi315_8; have HC315_8 := Aside0.mk hl315_8; clear hi315_8 hl315_8
        replace p315 := eq_true p315
        replace q315 := eq_true q315
        have ea_ := Option.some.inj (hx314_8.symm.trans hx315_8)
        injection ea_ with ea_ en_ ec_
        subst ea_; subst ec_; clear en_
        have p316 : 0 ≤ (x5_1 : Int) := of_decide_eq_true (by first | (with_reducible assumption) | assumption)
        have q316 : x5_1 < (l0.length : Int) := of_decide_eq_true (by first | (with_reducible assumption) | assumption)
        obtain ⟨ad316, A316_8, c316_8, e316, hx316_0, hx316_1, hx316_2, hx316_3, hx316_4, hx316_5, hx316_6, hx316_7, hx316_8, hl316_8, hi316_8⟩ := at_T36 HR0.out x5_1 p316 q316
        obtain rfl : ad314 = ad316 := (by injection e316)
        have HR316_8 := Aside0.mk hi316_8; have HC316_8 := Aside0.mk hl316_8; clear hi316_8 hl316_8
        replace p316 := eq_true p316
        replace q316 := eq_true q316
        have ea_ := Option.some.inj (hx314_8.symm.trans hx316_8)
        injection ea_ with ea_ en_ ec_
        subst ea_; subst ec_; clear en_
        go_wp2
        go_ret
        exact ⟨by first | rfl | (simp; done) | (simp [*]; done), by repeat (first | exact Drawn0.refl _ | apply Drawn0.step)⟩
      ·rw [if_neg c6] at H
       have c6b0 : (((rd_T36 l0 x5_1).f1) == (wrap64 (x1_1 + 1))) = false := beq_eq_false_iff_ne.mpr c6
       have c6b1 : (((rd_T36 l0 x5_1).f1) != (wrap64 (x1_1 + 1))) = true := bne_iff_ne.mpr c6
       obtain rfl := Option.some.inj H
       have p314 : 0 ≤ (x5_1 : Int) := of_decide_eq_true (by first | (with_reducible assumption) | assumption)
       have q314 : x5_1 < (l0.length : Int) := of_decide_eq_true (by first | (with_reducible assumption) | assumption)
       obtain ⟨ad314, A314_8, c314_8, e314, hx314_0, hx314_1, hx314_2, hx314_3, hx314_4, hx314_5, hx314_6, hx314_7, hx314_8, hl314_8, hi314_8⟩ := at_T36 HR0.out x5_1 p314 q314
       cases e314
       have HR314_8 := Aside0.mk hi314_8; have HC314_8 := Aside0.mk hl314_8; clear hi314_8 hl314_8
       replace p314 := eq_true p314
       replace q314 := eq_true q314
       have p315 : 0 ≤ (x5_1 : Int) := of_decide_eq_true (by first | (with_reducible assumption) | assumption)
       have q315 : x5_1 < (l0.length : Int) := of_decide_eq_true (by first | (with_reducible assumption) | assumption)
       obtain ⟨ad315, A315_8, c315_8, e315, hx315_0, hx315_1, hx315_2, hx315_3, hx315_4, hx315_5, hx315_6, hx315_7, hx315_8, hl315_8, hi315_8⟩ := at_T36 HR0.out x5_1 p315 q315
       obtain rfl : ad314 = ad315 := (by injection e315)
       have HR315_8 := Aside0.mk hi315_8; have HC315_8 := Aside0.mk hl315_8; clear hi315_8 hl315_8
       replace p315 := eq_true p315
       replace q315 := eq_true q315
       have ea_ := Option.some.inj (hx314_8.symm.trans hx315_8)
       injection ea_ with ea_ en_ ec_
       subst ea_; subst ec_; clear en_
       go_wp2
       go_ret
       exact ⟨by first | rfl | (simp; done) | (simp [*]; done), by repeat (first | exact Drawn0.refl _ | apply Drawn0.step)⟩
     ·rw [if_neg c5] at H
      have c5b0 : (((rd_T36 l0 x5_1).f0) == x1_1) = false := beq_eq_false_iff_ne.mpr c5
      have c5b1 : (((rd_T36 l0 x5_1).f0) != x1_1) = true := bne_iff_ne.mpr c5
      obtain rfl := Option.some.inj H
      have p314 : 0 ≤ (x5_1 : Int) := of_decide_eq_true (by first | (with_reducible assumption) | assumption)
      have q314 : x5_1 < (l0.length : Int) := of_decide_eq_true (by first | (with_reducible assumption) | assumption)
      obtain ⟨ad314, A314_8, c314_8, e314, hx314_0, hx314_1, hx314_2, hx314_3, hx314_4, hx314_5, hx314_6, hx314_7, hx314_8, hl314_8, hi314_8⟩ := at_T36 HR0.out x5_1 p314 q314
      cases e314
      have HR314_8 := Aside0.mk hi314_8; have HC314_8 := Aside0.mk hl314_8; clear hi314_8 hl314_8
      replace p314 := eq_true p314
      replace q314 := eq_true q314
      go_wp2
      go_ret
      exact ⟨by first | rfl | (simp; done) | (simp [*]; done), by repeat (first | exact Drawn0.refl _ | apply Drawn0.step)⟩
    ·rw [if_neg c4] at H
     exact absurd H (by simp)
   ·rw [if_neg c3] at H
    have c3b0 : decide (x5_1 < (l0.length : Int)) = false := decide_eq_false c3
    clear c3
    obtain rfl := Option.some.inj H
    go_wp2
    go_ret
    exact ⟨by first | rfl | (simp; done) | (simp [*]; done), by repeat (first | exact Drawn0.refl _ | apply Drawn0.step)⟩
def laws_heldPart.f (k : Nat) (l0_0 : List (S36)) (a0_1 : Int) (a1 : Int) : Option (Int) := (laws_heldPacketS.f k l0_0 a1).bind fun t325 => (if t325 < 0 then (some (-1)) else (some t325))
theorem laws_heldPart.mono : ∀ a0 a1 a2 k, LeO (laws_heldPart.f k a0 a1 a2) (laws_heldPart.f (k + 1) a0 a1 a2) := by
 intro a0 a1 a2 k
 unfold laws_heldPart.f
 repeat' first | (with_reducible first | apply laws_heldPacketS.mono | exact LeO.refl _ | exact LeO.none _ | refine LeO.ite ?_ ?_ | refine LeO.bind ?_ fun _ => ?_) | apply laws_heldPacketS.mono | exact LeO.none _ | refine LeO.ite ?_ ?_ | refine LeO.bind ?_ fun _ => ?_
set_option maxHeartbeats 8000000 in
set_option maxRecDepth 100000 in
theorem laws_heldPart.calls (k : Nat) (A0_0 : Option Addr) (c0_0 : Nat) (l0_0 : List (S36)) (a0_1 : Int) (a1 : Int) (r : Int) (w : World) (hr0_0 : Kd.C k36 w A0_0 l0_0.length l0_0) (hc0_0 : l0_0.length ≤ c0_0) (h : laws_heldPart.f k l0_0 a0_1 a1 = some r) :
  Calls Try.prog 19 #[.agg #[.slice A0_0 l0_0.length c0_0, .int .i64 a0_1], .int .i64 a1] w fun e w' => e = .returned (.int .i64 r) ∧ Below w.heap.size w w' := by
 have hu32 := Try.underlying32; have HR0_0 := Aside0.mk hr0_0; have HC0_0 := Aside0.mk hc0_0; clear hr0_0 hc0_0
 have HB := Aside0.mk (Below.refl w.heap.size w)
 have H : ((laws_heldPacketS.f k l0_0 a1).bind fun t325 => (if t325 < 0 then (some (-1)) else (some t325))) = some r := h
 clear h
 replace H := Option.bind_eq_some_iff.mp H
 obtain ⟨t325, A30, H⟩ := H
 (try dsimp only at H)
 have A3 := Aside0.mk A30; clear A30
 by_cases c4 : t325 < 0
 ·rw [if_pos c4] at H
  have c4b0 : decide (t325 < 0) = true := decide_eq_true c4
  clear c4
  obtain rfl := Option.some.inj H
  go_enter Try.func19, Try.ntmps19
  go_wp2_with (first | ((with_reducible refine gate_dst (N := 2) rfl ?_); refine box_ (N := 2) (cs := #[.slice A0_0 l0_0.length c0_0, .int .i64 a0_1]) (t := 32) (fun gb324 hg w5 hbox hb => ?_); have BK324 := Aside0.mk (hbox); have GW324 := ge_ hg HB; have GE324 := ge_ hg HB; replace HB := (bs_ HB hb); clear hb hbox hg; have Z6 := zz2 BK324) | ((with_reducible refine gate_callee (f := 57) rfl ?_); refine goesL_ (some 8) rfl rfl Try.func57 (by kernel_rfl) rfl #[.slice A0_0 l0_0.length c0_0, .int .i64 a1] rfl ar_ ?_; (with_reducible refine (laws_heldPacketS.calls k _ _ l0_0 a1 t325 _ ?side1 ?side2 A3.out).mono ?_); (case side1 => exact kC_ (Kd.C_below HR0_0.out HB.out)); (case side2 => exact HC0_0.out); rintro e w' ⟨rfl, ⟨nd, rfl⟩⟩; refine ⟨_, rfl, ?_⟩))
  go_ret
  exact ⟨by first | rfl | (simp [errW_none, errW_some] <;> rfl) | (simp [*, errW_none, errW_some] <;> rfl), hbA_ HB.out⟩
 ·rw [if_neg c4] at H
  have c4b0 : decide (t325 < 0) = false := decide_eq_false c4
  clear c4
  obtain rfl := Option.some.inj H
  go_enter Try.func19, Try.ntmps19
  go_wp2_with (first | ((with_reducible refine gate_dst (N := 2) rfl ?_); refine box_ (N := 2) (cs := #[.slice A0_0 l0_0.length c0_0, .int .i64 a0_1]) (t := 32) (fun gb324 hg w7 hbox hb => ?_); have BK324 := Aside0.mk (hbox); have GW324 := ge_ hg HB; have GE324 := ge_ hg HB; replace HB := (bs_ HB hb); clear hb hbox hg; have Z8 := zz2 BK324) | ((with_reducible refine gate_callee (f := 57) rfl ?_); refine goesL_ (some 8) rfl rfl Try.func57 (by kernel_rfl) rfl #[.slice A0_0 l0_0.length c0_0, .int .i64 a1] rfl ar_ ?_; (with_reducible refine (laws_heldPacketS.calls k _ _ l0_0 a1 t325 _ ?side1 ?side2 A3.out).mono ?_); (case side1 => exact kC_ (Kd.C_below HR0_0.out HB.out)); (case side2 => exact HC0_0.out); rintro e w' ⟨rfl, ⟨nd, rfl⟩⟩; refine ⟨_, rfl, ?_⟩))
  go_ret
  exact ⟨by first | rfl | (simp [errW_none, errW_some] <;> rfl) | (simp [*, errW_none, errW_some] <;> rfl), hbA_ HB.out⟩
end Go.Proofs.Ytpdbnlmdohcgkaa.PFnExactPartPut
