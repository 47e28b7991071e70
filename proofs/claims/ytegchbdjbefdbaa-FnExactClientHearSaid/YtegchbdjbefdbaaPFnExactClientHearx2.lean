/- Printed by wip/xp/xprint.sh out of the translation, for this claim: what each function answers, as a plain function, and that the machine does just that. No condition. -/
import Derived.Test.YtegchbdjbefdbaaPFnExactClientHearx0
import Derived.Test.YtegchbdjbefdbaaPFnExactClientHearx1
namespace Go.Proofs.Ytegchbdjbefdbaa.PFnExactClientHear
open Go.RowKit Go.Proofs.YtegchbdjbefdbaaW.PrintWords Go.Proofs.YtegchbdjbefdbaaW.PrintLast Go.Proofs.YtegchbdjbefdbaaW.PrintMore
attribute [local go_sem] max2_int min2_int max_two min_two max_three min_three max_four min_four   -- for this text's walks alone
set_option linter.unusedVariables false
set_option linter.unusedSimpArgs false
def laws_eqWordsS.l0 : Nat → List (S41) → List (S41) → Int → Option (Bool)
 | 0, _, _, _ => none
 | k + 1, x0, x1, x5 => if x5 < (x0.length : Int) then (if 0 ≤ x5 then (if x5 < (x1.length : Int) then ((laws_eqWords.f k ((rd_T41 x0 x5).f0) ((rd_T41 x0 x5).f1) ((rd_T41 x1 x5).f0) ((rd_T41 x1 x5).f1)).bind fun t153 => (if t153 = true then (laws_eqWordsS.l0 k x0 x1 (wrap64 (x5 + 1))) else (some false))) else (none)) else (none)) else (some true)
def laws_eqWordsS.f (k : Nat) (l0 : List (S41)) (l1 : List (S41)) : Option (Bool) := if (l0.length : Int) = (l1.length : Int) then (laws_eqWordsS.l0 k l0 l1 0) else (some false)
theorem laws_eqWordsS.mono_l : ∀ k, (∀ y0 y1 y2, LeO (laws_eqWordsS.l0 k y0 y1 y2) (laws_eqWordsS.l0 (k + 1) y0 y1 y2))
 | 0 => fun _ _ _ r h => by simp [laws_eqWordsS.l0] at h
 | k + 1 => by
  have ih0 := laws_eqWordsS.mono_l k
  ·intro y0 y1 y2
   unfold laws_eqWordsS.l0
   repeat' first | (with_reducible first | apply ih0 | apply laws_eqWords.mono | exact LeO.refl _ | exact LeO.none _ | refine LeO.ite ?_ ?_ | refine LeO.bind ?_ fun _ => ?_) | apply ih0 | apply laws_eqWords.mono | exact LeO.none _ | refine LeO.ite ?_ ?_ | refine LeO.bind ?_ fun _ => ?_
theorem laws_eqWordsS.mono : ∀ a0 a1 k, LeO (laws_eqWordsS.f k a0 a1) (laws_eqWordsS.f (k + 1) a0 a1) := by
 intro a0 a1 k
 have ih0 := laws_eqWordsS.mono_l k
 unfold laws_eqWordsS.f
 repeat' first | (with_reducible first | apply ih0 | apply laws_eqWords.mono | exact LeO.refl _ | exact LeO.none _ | refine LeO.ite ?_ ?_ | refine LeO.bind ?_ fun _ => ?_) | apply ih0 | apply laws_eqWords.mono | exact LeO.none _ | refine LeO.ite ?_ ?_ | refine LeO.bind ?_ fun _ => ?_
def laws_eqWordsS.T6 : Bool × List (List Nat × List Nat) := (true, [([], []), ([], []), ([0, 1], [0, 1]), ([2], [2]), ([], []), ([], []), ([4, 5], [4, 5]), ([6], [6]), ([3, 7], [3, 7]), ([8], [8])])
def laws_eqWordsS.B6 : List Nat := [0, 0, 3, 7, 0, 0, 48, 112, 255, 511]
theorem laws_eqWordsS.tab6 : rtab .any (opsOf Try.f41 6) = laws_eqWordsS.T6 := by kernel_rfl
theorem laws_eqWordsS.bits6 : waitsOk laws_eqWordsS.T6.2 laws_eqWordsS.B6 = true := by kernel_rfl
set_option maxHeartbeats 8000000 in
set_option maxRecDepth 100000 in
theorem laws_eqWordsS.calls (k : Nat) (A0 : Option Addr) (c0 : Nat) (l0 : List (S41)) (A1 : Option Addr) (c1 : Nat) (l1 : List (S41)) (r : Bool) (w : World) (hr0 : Kd.C k41 w A0 l0.length l0) (hc0 : l0.length ≤ c0) (hr1 : Kd.C k41 w A1 l1.length l1) (hc1 : l1.length ≤ c1) (h : laws_eqWordsS.f k l0 l1 = some r) :
  Calls Try.prog 41 #[.slice A0 l0.length c0, .slice A1 l1.length c1] w fun e w' => e = .returned (.bool r) ∧ Below w.heap.size w w' := by
 have hu41 := Try.underlying41; have HR0 := Aside0.mk hr0; have HC0 := Aside0.mk hc0; clear hr0 hc0; have HR1 := Aside0.mk hr1; have HC1 := Aside0.mk hc1; clear hr1 hc1
 have HB := Aside0.mk (Below.refl w.heap.size w)
 have H : (if (l0.length : Int) = (l1.length : Int) then (laws_eqWordsS.l0 k l0 l1 0) else (some false)) = some r := h
 clear h
 by_cases c3 : (l0.length : Int) = (l1.length : Int)
 ·rw [if_pos c3] at H
  have c3b0 : ((l0.length : Int) == (l1.length : Int)) = true := beq_iff_eq.mpr c3
  have c3b1 : ((l0.length : Int) != (l1.length : Int)) = false := bne_eq_false_iff_eq.mpr c3
  have c3b2 : (l0.length == l1.length) = true := by first | simpa using c3 | (simp at c3 ⊢; omega)
  clear c3
  have H' := Aside0.mk H
  clear H
  go_enter Try.func41, Try.ntmps41
  go_wp2
  go_loopg [5] k (fun kq v5 w' => ∃ (x5_1 : Int), v5 = .int .i64 x5_1 ∧ Aside0 (laws_eqWordsS.l0 kq l0 l1 x5_1 = some r) ∧ Aside0 (kq ≤ k) ∧ Aside0 (Below w.heap.size w w'))
  case atStart => exact ⟨(0), (by first | rfl | (simp; done) | (simp [*]; done)), H', ⟨Nat.le_refl _⟩, ⟨hbA_ HB.out⟩⟩
  case round =>
   clear H'; (try clear c1); (try clear p2); (try clear c3); (try clear c3b0); (try clear c3b1); (try clear c3b2)
   obtain ⟨x5_1, rfl, HA, HK1, HB⟩ := hrel
   cases gk with
   | zero => exact absurd HA.out (by simp [laws_eqWordsS.l0])
   | succ k1 =>
    have H := HA.out; clear HA
    simp only [laws_eqWordsS.l0] at H
    by_cases c4 : x5_1 < (l0.length : Int)
    ·rw [if_pos c4] at H
     have c4b0 : decide (x5_1 < (l0.length : Int)) = true := decide_eq_true c4
     clear c4
     by_cases c5 : 0 ≤ x5_1
     ·rw [if_pos c5] at H
      have c5b0 : decide (0 ≤ x5_1) = true := decide_eq_true c5
      clear c5
      by_cases c6 : x5_1 < (l1.length : Int)
      ·rw [if_pos c6] at H
       have c6b0 : decide (x5_1 < (l1.length : Int)) = true := decide_eq_true c6
       clear c6
       replace H := Option.bind_eq_some_iff.mp H
       obtain ⟨t153, A70, H⟩ := H
       (try dsimp only at H)
       have A7 := Aside0.mk A70; clear A70
       by_cases c8 : t153 = true
       ·subst c8
        rw [if_pos rfl] at H
        have H' := Aside0.mk H
        clear H
        try go_wp2
        replace HB := (bd_ HB)
        have p151 : 0 ≤ (x5_1 : Int) := of_decide_eq_true (by first | (with_reducible assumption) | assumption)
        have q151 : x5_1 < (l0.length : Int) := of_decide_eq_true (by first | (with_reducible assumption) | assumption)
        obtain ⟨ad151, A151_1, c151_1, e151, hx151_0, hx151_1, hl151_1, hi151_1⟩ := at_T41 HR0.out x5_1 p151 q151
        have hw151_1 := hx151_1; have hw151_0 := hx151_0
        cases e151
        replace hx151_0 := cc_ HB hx151_0
        replace hx151_1 := cc_ HB hx151_1
        have HR151_1 := Aside0.mk hi151_1; have HC151_1 := Aside0.mk hl151_1; clear hi151_1 hl151_1
        replace p151 := eq_true p151
        replace q151 := eq_true q151
        have p152 : 0 ≤ (x5_1 : Int) := of_decide_eq_true (by first | (with_reducible assumption) | assumption)
        have q152 : x5_1 < (l1.length : Int) := of_decide_eq_true (by first | (with_reducible assumption) | assumption)
        obtain ⟨ad152, A152_1, c152_1, e152, hx152_0, hx152_1, hl152_1, hi152_1⟩ := at_T41 HR1.out x5_1 p152 q152
        have hw152_1 := hx152_1; have hw152_0 := hx152_0
        cases e152
        replace hx152_0 := cc_ HB hx152_0
        replace hx152_1 := cc_ HB hx152_1
        have HR152_1 := Aside0.mk hi152_1; have HC152_1 := Aside0.mk hl152_1; clear hi152_1 hl152_1
        replace p152 := eq_true p152
        replace q152 := eq_true q152
        refine start_ (n := 10) (S := fun w' => w'.cell? (ad151.add ((x5_1).toNat * 2)) = some (.int .i64 ((rd_T41 l0 x5_1).f0)) ∧ w'.cell? ⟨(ad151.add ((x5_1).toNat * 2)).block, (ad151.add ((x5_1).toNat * 2)).off + 1, none⟩ = some (.slice A151_1 ((rd_T41 l0 x5_1).f1).length c151_1) ∧ w'.cell? (ad152.add ((x5_1).toNat * 2)) = some (.int .i64 ((rd_T41 l1 x5_1).f0)) ∧ w'.cell? ⟨(ad152.add ((x5_1).toNat * 2)).block, (ad152.add ((x5_1).toNat * 2)).off + 1, none⟩ = some (.slice A152_1 ((rd_T41 l1 x5_1).f1).length c152_1)) (ds := []) #[false, false, false, false, false, false, false, false, false, false] (by kernel_rfl) rfl rfl ⟨(cc_ HB hw151_0), (cc_ HB hw151_1), (cc_ HB hw152_0), (cc_ HB hw152_1)⟩ (fun hHeld => ?_); refine with_tabW laws_eqWordsS.tab6 laws_eqWordsS.bits6 (fun HT_ HW_ => ?_)
        generalize wr.drew = w9 at HB HR151_1 HR152_1 hx151_0 hx151_1 hx152_0 hx152_1 hHeld ⊢
        refine pu_ (i := 0) (N := some 17) HT_ ?_; refine pu_ (i := 1) (N := some 18) HT_ ?_; refine pu_ (i := 2) (N := some 19) HT_ ?_; refine pu_ (i := 4) (N := some 21) HT_ ?_; refine pu_ (i := 5) (N := some 22) HT_ ?_; refine pu_ (i := 6) (N := some 23) HT_ ?_; refine tk_ (i := 3) (N := some 20) HT_ HW_ hHeld ?_; refine tk_ (i := 7) (N := some 24) HT_ HW_ hHeld ?_
        refine on_ (i := 8) (N := some 25) HT_ (fun K hK => ?_)
        refine goes_ Try.func38 (by kernel_rfl) rfl #[.agg #[.int .i64 ((rd_T41 l0 x5_1).f0), .slice A151_1 ((rd_T41 l0 x5_1).f1).length c151_1], .agg #[.int .i64 ((rd_T41 l1 x5_1).f0), .slice A152_1 ((rd_T41 l1 x5_1).f1).length c152_1]] (by rfl) rfl rfl ar_ ?_
        with_reducible refine (laws_eqWords.calls k1 ((rd_T41 l0 x5_1).f0) _ _ ((rd_T41 l0 x5_1).f1) ((rd_T41 l1 x5_1).f0) _ _ ((rd_T41 l1 x5_1).f1) true _ ?side1 ?side2 ?side3 ?side4 A7.out).mono ?_
        (case side1 => exact kC_ (Kd.C_below HR151_1.out HB.out))
        (case side2 => exact HC151_1.out)
        (case side3 => exact kC_ (Kd.C_below HR152_1.out HB.out))
        (case side4 => exact HC152_1.out)
        rintro e w10 ⟨rfl, hb⟩
        refine ⟨_, rfl, ?_⟩
        replace HB := (bs_ HB hb); (try clear hb); (try clear hb2); (try clear hk); (try clear hi)
        refine hK.out _ _ ⟨(cc_ HB hw151_0), (cc_ HB hw151_1), (cc_ HB hw152_0), (cc_ HB hw152_1)⟩ (fun hHeld => ?_)
        clear hK K; refine nm_ 25 ?_; refine pu_ (i := 9) (N := some 26) HT_ ?_
        refine done_ (done_of HT_.out (by kernel_rfl)) ?_
        try go_wp2
        go_roundg k1
        case measure => have := HK1.out; omega
        case rel => exact ⟨(wrap64 (x5_1 + 1)), (by first | rfl | (simp; done) | (simp [*]; done)), H', ⟨by have := HK1.out; omega⟩, ⟨hbA_ HB.out⟩⟩
       ·replace c8 := Bool.eq_false_iff.mpr c8
        subst c8
        rw [if_neg (show ¬ (false = true) by decide)] at H
        obtain rfl := Option.some.inj H
        try go_wp2
        replace HB := (bd_ HB)
        have p151 : 0 ≤ (x5_1 : Int) := of_decide_eq_true (by first | (with_reducible assumption) | assumption)
        have q151 : x5_1 < (l0.length : Int) := of_decide_eq_true (by first | (with_reducible assumption) | assumption)
        obtain ⟨ad151, A151_1, c151_1, e151, hx151_0, hx151_1, hl151_1, hi151_1⟩ := at_T41 HR0.out x5_1 p151 q151
        have hw151_1 := hx151_1; have hw151_0 := hx151_0
        cases e151
        replace hx151_0 := cc_ HB hx151_0
        replace hx151_1 := cc_ HB hx151_1
        have HR151_1 := Aside0.mk hi151_1; have HC151_1 := Aside0.mk hl151_1; clear hi151_1 hl151_1
        replace p151 := eq_true p151
        replace q151 := eq_true q151
        have p152 : 0 ≤ (x5_1 : Int) := of_decide_eq_true (by first | (with_reducible assumption) | assumption)
        have q152 : x5_1 < (l1.length : Int) := of_decide_eq_true (by first | (with_reducible assumption) | assumption)
        obtain ⟨ad152, A152_1, c152_1, e152, hx152_0, hx152_1, hl152_1, hi152_1⟩ := at_T41 HR1.out x5_1 p152 q152
        have hw152_1 := hx152_1; have hw152_0 := hx152_0
        cases e152
        replace hx152_0 := cc_ HB hx152_0
        replace hx152_1 := cc_ HB hx152_1
        have HR152_1 := Aside0.mk hi152_1; have HC152_1 := Aside0.mk hl152_1; clear hi152_1 hl152_1
        replace p152 := eq_true p152
        replace q152 := eq_true q152
        refine start_ (n := 10) (S := fun w' => w'.cell? (ad151.add ((x5_1).toNat * 2)) = some (.int .i64 ((rd_T41 l0 x5_1).f0)) ∧ w'.cell? ⟨(ad151.add ((x5_1).toNat * 2)).block, (ad151.add ((x5_1).toNat * 2)).off + 1, none⟩ = some (.slice A151_1 ((rd_T41 l0 x5_1).f1).length c151_1) ∧ w'.cell? (ad152.add ((x5_1).toNat * 2)) = some (.int .i64 ((rd_T41 l1 x5_1).f0)) ∧ w'.cell? ⟨(ad152.add ((x5_1).toNat * 2)).block, (ad152.add ((x5_1).toNat * 2)).off + 1, none⟩ = some (.slice A152_1 ((rd_T41 l1 x5_1).f1).length c152_1)) (ds := []) #[false, false, false, false, false, false, false, false, false, false] (by kernel_rfl) rfl rfl ⟨(cc_ HB hw151_0), (cc_ HB hw151_1), (cc_ HB hw152_0), (cc_ HB hw152_1)⟩ (fun hHeld => ?_); refine with_tabW laws_eqWordsS.tab6 laws_eqWordsS.bits6 (fun HT_ HW_ => ?_)
        generalize wr.drew = w11 at HB HR151_1 HR152_1 hx151_0 hx151_1 hx152_0 hx152_1 hHeld ⊢
        refine pu_ (i := 0) (N := some 17) HT_ ?_; refine pu_ (i := 1) (N := some 18) HT_ ?_; refine pu_ (i := 2) (N := some 19) HT_ ?_; refine pu_ (i := 4) (N := some 21) HT_ ?_; refine pu_ (i := 5) (N := some 22) HT_ ?_; refine pu_ (i := 6) (N := some 23) HT_ ?_; refine tk_ (i := 3) (N := some 20) HT_ HW_ hHeld ?_; refine tk_ (i := 7) (N := some 24) HT_ HW_ hHeld ?_
        refine on_ (i := 8) (N := some 25) HT_ (fun K hK => ?_)
        refine goes_ Try.func38 (by kernel_rfl) rfl #[.agg #[.int .i64 ((rd_T41 l0 x5_1).f0), .slice A151_1 ((rd_T41 l0 x5_1).f1).length c151_1], .agg #[.int .i64 ((rd_T41 l1 x5_1).f0), .slice A152_1 ((rd_T41 l1 x5_1).f1).length c152_1]] (by rfl) rfl rfl ar_ ?_
        with_reducible refine (laws_eqWords.calls k1 ((rd_T41 l0 x5_1).f0) _ _ ((rd_T41 l0 x5_1).f1) ((rd_T41 l1 x5_1).f0) _ _ ((rd_T41 l1 x5_1).f1) false _ ?side1 ?side2 ?side3 ?side4 A7.out).mono ?_
        (case side1 => exact kC_ (Kd.C_below HR151_1.out HB.out))
        (case side2 => exact HC151_1.out)
        (case side3 => exact kC_ (Kd.C_below HR152_1.out HB.out))
        (case side4 => exact HC152_1.out)
        rintro e w12 ⟨rfl, hb⟩
        refine ⟨_, rfl, ?_⟩
        replace HB := (bs_ HB hb); (try clear hb); (try clear hb2); (try clear hk); (try clear hi)
        refine hK.out _ _ ⟨(cc_ HB hw151_0), (cc_ HB hw151_1), (cc_ HB hw152_0), (cc_ HB hw152_1)⟩ (fun hHeld => ?_)
        clear hK K; refine nm_ 25 ?_; refine pu_ (i := 9) (N := some 26) HT_ ?_
        refine done_ (done_of HT_.out (by kernel_rfl)) ?_
        try go_wp2
        go_ret
        exact ⟨by first | rfl | (simp [errW_none, errW_some] <;> rfl) | (simp [*, errW_none, errW_some] <;> rfl), hbA_ HB.out⟩
      ·rw [if_neg c6] at H
       exact absurd H (by simp)
     ·rw [if_neg c5] at H
      exact absurd H (by simp)
    ·rw [if_neg c4] at H
     have c4b0 : decide (x5_1 < (l0.length : Int)) = false := decide_eq_false c4
     clear c4
     obtain rfl := Option.some.inj H
     go_wp2
     go_ret
     exact ⟨by first | rfl | (simp [errW_none, errW_some] <;> rfl) | (simp [*, errW_none, errW_some] <;> rfl), hbA_ HB.out⟩
 ·rw [if_neg c3] at H
  have c3b0 : ((l0.length : Int) == (l1.length : Int)) = false := beq_eq_false_iff_ne.mpr c3
  have c3b1 : ((l0.length : Int) != (l1.length : Int)) = true := bne_iff_ne.mpr c3
  have c3b2 : (l0.length == l1.length) = false := by first | simpa using c3 | (simp at c3 ⊢; omega)
  obtain rfl := Option.some.inj H
  go_enter Try.func41, Try.ntmps41
  go_wp2
  go_ret
  exact ⟨by first | rfl | (simp [errW_none, errW_some] <;> rfl) | (simp [*, errW_none, errW_some] <;> rfl), hbA_ HB.out⟩
def laws_eqIntS.l0 : Nat → List Int → List Int → Int → Option (Bool)
 | 0, _, _, _ => none
 | k + 1, x0, x1, x5 => if x5 < (x0.length : Int) then (if 0 ≤ x5 then (if x5 < (x1.length : Int) then (if (rd x0 x5) = (rd x1 x5) then (laws_eqIntS.l0 k x0 x1 (wrap64 (x5 + 1))) else (some false)) else (none)) else (none)) else (some true)
def laws_eqIntS.f (k : Nat) (l0 : List Int) (l1 : List Int) : Option (Bool) := if (l0.length : Int) = (l1.length : Int) then (laws_eqIntS.l0 k l0 l1 0) else (some false)
theorem laws_eqIntS.mono_l : ∀ k, (∀ y0 y1 y2, LeO (laws_eqIntS.l0 k y0 y1 y2) (laws_eqIntS.l0 (k + 1) y0 y1 y2))
 | 0 => fun _ _ _ r h => by simp [laws_eqIntS.l0] at h
 | k + 1 => by
  have ih0 := laws_eqIntS.mono_l k
  ·intro y0 y1 y2
   unfold laws_eqIntS.l0
   repeat' first | (with_reducible first | apply ih0 | exact LeO.refl _ | exact LeO.none _ | refine LeO.ite ?_ ?_ | refine LeO.bind ?_ fun _ => ?_) | apply ih0 | exact LeO.none _ | refine LeO.ite ?_ ?_ | refine LeO.bind ?_ fun _ => ?_
theorem laws_eqIntS.mono : ∀ a0 a1 k, LeO (laws_eqIntS.f k a0 a1) (laws_eqIntS.f (k + 1) a0 a1) := by
 intro a0 a1 k
 have ih0 := laws_eqIntS.mono_l k
 unfold laws_eqIntS.f
 repeat' first | (with_reducible first | apply ih0 | exact LeO.refl _ | exact LeO.none _ | refine LeO.ite ?_ ?_ | refine LeO.bind ?_ fun _ => ?_) | apply ih0 | exact LeO.none _ | refine LeO.ite ?_ ?_ | refine LeO.bind ?_ fun _ => ?_
set_option maxHeartbeats 8000000 in
set_option maxRecDepth 100000 in
theorem laws_eqIntS.calls (k : Nat) (A0 : Option Addr) (c0 : Nat) (l0 : List Int) (A1 : Option Addr) (c1 : Nat) (l1 : List Int) (r : Bool) (w : World) (hr0 : Kd.C (Kd.int .i64) w A0 l0.length l0) (hc0 : l0.length ≤ c0) (hr1 : Kd.C (Kd.int .i64) w A1 l1.length l1) (hc1 : l1.length ≤ c1) (h : laws_eqIntS.f k l0 l1 = some r) :
  Calls Try.prog 51 #[.slice A0 l0.length c0, .slice A1 l1.length c1] w fun e w' => e = .returned (.bool r) ∧ Drawn0 w w' := by
 have HR0 := Aside0.mk hr0; have HC0 := Aside0.mk hc0; clear hr0 hc0; have HR1 := Aside0.mk hr1; have HC1 := Aside0.mk hc1; clear hr1 hc1
 have H : (if (l0.length : Int) = (l1.length : Int) then (laws_eqIntS.l0 k l0 l1 0) else (some false)) = some r := h
 clear h
 by_cases c3 : (l0.length : Int) = (l1.length : Int)
 ·rw [if_pos c3] at H
  have c3b0 : ((l0.length : Int) == (l1.length : Int)) = true := beq_iff_eq.mpr c3
  have c3b1 : ((l0.length : Int) != (l1.length : Int)) = false := bne_eq_false_iff_eq.mpr c3
  have c3b2 : (l0.length == l1.length) = true := by first | simpa using c3 | (simp at c3 ⊢; omega)
  clear c3
  have H' := Aside0.mk H
  clear H
  go_enter Try.func51, Try.ntmps51
  go_wp2
  repeat (go_quiet (fail); try go_wp2)
  go_loopg [5] k (fun kq v5 w' => ∃ (x5_1 : Int), v5 = .int .i64 x5_1 ∧ Aside0 (laws_eqIntS.l0 kq l0 l1 x5_1 = some r) ∧ Aside0 (kq ≤ k) ∧ Drawn0 w w')
  case atStart => exact ⟨(0), (by first | rfl | (simp; done) | (simp [*]; done)), H', ⟨Nat.le_refl _⟩, by repeat (first | exact Drawn0.refl _ | apply Drawn0.step)⟩
  case round =>
   clear H'; (try clear c1); (try clear p2); (try clear c3); (try clear c3b0); (try clear c3b1); (try clear c3b2)
   obtain ⟨x5_1, rfl, HA, HK1, ⟨m1, rfl⟩⟩ := hrel
   cases gk with
   | zero => exact absurd HA.out (by simp [laws_eqIntS.l0])
   | succ k1 =>
    have H := HA.out; clear HA
    simp only [laws_eqIntS.l0] at H
    by_cases c4 : x5_1 < (l0.length : Int)
    ·rw [if_pos c4] at H
     have c4b0 : decide (x5_1 < (l0.length : Int)) = true := decide_eq_true c4
     clear c4
     by_cases c5 : 0 ≤ x5_1
     ·rw [if_pos c5] at H
      have c5b0 : decide (0 ≤ x5_1) = true := decide_eq_true c5
      clear c5
      by_cases c6 : x5_1 < (l1.length : Int)
      ·rw [if_pos c6] at H
       have c6b0 : decide (x5_1 < (l1.length : Int)) = true := decide_eq_true c6
       clear c6
       by_cases c7 : (rd l0 x5_1) = (rd l1 x5_1)
       ·rw [if_pos c7] at H
        have c7b0 : ((rd l0 x5_1) == (rd l1 x5_1)) = true := beq_iff_eq.mpr c7
        have c7b1 : ((rd l0 x5_1) != (rd l1 x5_1)) = false := bne_eq_false_iff_eq.mpr c7
        clear c7
        have H' := Aside0.mk H
        clear H
        have p154 : 0 ≤ (x5_1 : Int) := of_decide_eq_true (by first | (with_reducible assumption) | assumption)
        have q154 : x5_1 < (l0.length : Int) := of_decide_eq_true (by first | (with_reducible assumption) | assumption)
        obtain ⟨ad154, e154, hx154_0⟩ := Kd.at_int HR0.out x5_1 p154 q154
        cases e154
        replace p154 := eq_true p154
        replace q154 := eq_true q154
        have p155 : 0 ≤ (x5_1 : Int) := of_decide_eq_true (by first | (with_reducible assumption) | assumption)
        have q155 : x5_1 < (l1.length : Int) := of_decide_eq_true (by first | (with_reducible assumption) | assumption)
        obtain ⟨ad155, e155, hx155_0⟩ := Kd.at_int HR1.out x5_1 p155 q155
        cases e155
        replace p155 := eq_true p155
        replace q155 := eq_true q155
        go_wp2
        repeat (go_quiet (fail); try go_wp2)
        go_roundg k1
        case measure => have := HK1.out; omega
        case rel => exact ⟨(wrap64 (x5_1 + 1)), (by first | rfl | (simp; done) | (simp [*]; done)), H', ⟨by have := HK1.out; omega⟩, by repeat (first | exact Drawn0.refl _ | apply Drawn0.step)⟩
       ·rw [if_neg c7] at H
        have c7b0 : ((rd l0 x5_1) == (rd l1 x5_1)) = false := beq_eq_false_iff_ne.mpr c7
        have c7b1 : ((rd l0 x5_1) != (rd l1 x5_1)) = true := bne_iff_ne.mpr c7
        obtain rfl := Option.some.inj H
        have p154 : 0 ≤ (x5_1 : Int) := of_decide_eq_true (by first | (with_reducible assumption) | assumption)
        have q154 : x5_1 < (l0.length : Int) := of_decide_eq_true (by first | (with_reducible assumption) | assumption)
        obtain ⟨ad154, e154, hx154_0⟩ := Kd.at_int HR0.out x5_1 p154 q154
        cases e154
        replace p154 := eq_true p154
        replace q154 := eq_true q154
        have p155 : 0 ≤ (x5_1 : Int) := of_decide_eq_true (by first | (with_reducible assumption) | assumption)
        have q155 : x5_1 < (l1.length : Int) := of_decide_eq_true (by first | (with_reducible assumption) | assumption)
        obtain ⟨ad155, e155, hx155_0⟩ := Kd.at_int HR1.out x5_1 p155 q155
        cases e155
        replace p155 := eq_true p155
        replace q155 := eq_true q155
        go_wp2
        repeat (go_quiet (fail); try go_wp2)
        go_ret
        exact ⟨by first | rfl | (simp; done) | (simp [*]; done), by repeat (first | exact Drawn0.refl _ | apply Drawn0.step)⟩
      ·rw [if_neg c6] at H
       exact absurd H (by simp)
     ·rw [if_neg c5] at H
      exact absurd H (by simp)
    ·rw [if_neg c4] at H
     have c4b0 : decide (x5_1 < (l0.length : Int)) = false := decide_eq_false c4
     clear c4
     obtain rfl := Option.some.inj H
     go_wp2
     repeat (go_quiet (fail); try go_wp2)
     go_ret
     exact ⟨by first | rfl | (simp; done) | (simp [*]; done), by repeat (first | exact Drawn0.refl _ | apply Drawn0.step)⟩
 ·rw [if_neg c3] at H
  have c3b0 : ((l0.length : Int) == (l1.length : Int)) = false := beq_eq_false_iff_ne.mpr c3
  have c3b1 : ((l0.length : Int) != (l1.length : Int)) = true := bne_iff_ne.mpr c3
  have c3b2 : (l0.length == l1.length) = false := by first | simpa using c3 | (simp at c3 ⊢; omega)
  obtain rfl := Option.some.inj H
  go_enter Try.func51, Try.ntmps51
  go_wp2
  repeat (go_quiet (fail); try go_wp2)
  go_ret
  exact ⟨by first | rfl | (simp; done) | (simp [*]; done), by repeat (first | exact Drawn0.refl _ | apply Drawn0.step)⟩
def laws_eqClient.f (k : Nat) (a0_0 : Int) (l0_1 : List Int) (l0_2 : List (S41)) (l0_3 : List Int) (a1_0 : Int) (l1_1 : List Int) (l1_2 : List (S41)) (l1_3 : List Int) : Option (Bool) := if a0_0 = a1_0 then ((laws_eqIntS.f k l0_1 l1_1).bind fun t158 => (if t158 = true then ((laws_eqWordsS.f k l0_2 l1_2).bind fun t159 => (if t159 = true then ((laws_eqIntS.f k l0_3 l1_3).bind fun t160 => (if t160 = true then (some true) else (some false))) else (some false))) else (some false))) else (some false)
theorem laws_eqClient.mono : ∀ a0 a1 a2 a3 a4 a5 a6 a7 k, LeO (laws_eqClient.f k a0 a1 a2 a3 a4 a5 a6 a7) (laws_eqClient.f (k + 1) a0 a1 a2 a3 a4 a5 a6 a7) := by
 intro a0 a1 a2 a3 a4 a5 a6 a7 k
 unfold laws_eqClient.f
 repeat' first | (with_reducible first | apply laws_eqIntS.mono | apply laws_eqWordsS.mono | exact LeO.refl _ | exact LeO.none _ | refine LeO.ite ?_ ?_ | refine LeO.bind ?_ fun _ => ?_) | apply laws_eqIntS.mono | apply laws_eqWordsS.mono | exact LeO.none _ | refine LeO.ite ?_ ?_ | refine LeO.bind ?_ fun _ => ?_
set_option maxHeartbeats 8000000 in
set_option maxRecDepth 100000 in
theorem laws_eqClient.calls (k : Nat) (a0_0 : Int) (A0_1 : Option Addr) (c0_1 : Nat) (l0_1 : List Int) (A0_2 : Option Addr) (c0_2 : Nat) (l0_2 : List (S41)) (A0_3 : Option Addr) (c0_3 : Nat) (l0_3 : List Int) (a1_0 : Int) (A1_1 : Option Addr) (c1_1 : Nat) (l1_1 : List Int) (A1_2 : Option Addr) (c1_2 : Nat) (l1_2 : List (S41)) (A1_3 : Option Addr) (c1_3 : Nat) (l1_3 : List Int) (r : Bool) (w : World) (hr0_1 : Kd.C (Kd.int .i64) w A0_1 l0_1.length l0_1) (hc0_1 : l0_1.length ≤ c0_1) (hr0_2 : Kd.C k41 w A0_2 l0_2.length l0_2) (hc0_2 : l0_2.length ≤ c0_2) (hr0_3 : Kd.C (Kd.int .i64) w A0_3 l0_3.length l0_3) (hc0_3 : l0_3.length ≤ c0_3) (hr1_1 : Kd.C (Kd.int .i64) w A1_1 l1_1.length l1_1) (hc1_1 : l1_1.length ≤ c1_1) (hr1_2 : Kd.C k41 w A1_2 l1_2.length l1_2) (hc1_2 : l1_2.length ≤ c1_2) (hr1_3 : Kd.C (Kd.int .i64) w A1_3 l1_3.length l1_3) (hc1_3 : l1_3.length ≤ c1_3) (h : laws_eqClient.f k a0_0 l0_1 l0_2 l0_3 a1_0 l1_1 l1_2 l1_3 = some r) :
  Calls Try.prog 15 #[.agg #[.int .i64 a0_0, .slice A0_1 l0_1.length c0_1, .slice A0_2 l0_2.length c0_2, .slice A0_3 l0_3.length c0_3], .agg #[.int .i64 a1_0, .slice A1_1 l1_1.length c1_1, .slice A1_2 l1_2.length c1_2, .slice A1_3 l1_3.length c1_3]] w fun e w' => e = .returned (.bool r) ∧ Below w.heap.size w w' := by
 have hu30 := Try.underlying30; have HR0_1 := Aside0.mk hr0_1; have HC0_1 := Aside0.mk hc0_1; clear hr0_1 hc0_1; have HR0_2 := Aside0.mk hr0_2; have HC0_2 := Aside0.mk hc0_2; clear hr0_2 hc0_2; have HR0_3 := Aside0.mk hr0_3; have HC0_3 := Aside0.mk hc0_3; clear hr0_3 hc0_3; have HR1_1 := Aside0.mk hr1_1; have HC1_1 := Aside0.mk hc1_1; clear hr1_1 hc1_1; have HR1_2 := Aside0.mk hr1_2; have HC1_2 := Aside0.mk hc1_2; clear hr1_2 hc1_2; have HR1_3 := Aside0.mk hr1_3; have HC1_3 := Aside0.mk hc1_3; clear hr1_3 hc1_3
 have HB := Aside0.mk (Below.refl w.heap.size w)
 have H : (if a0_0 = a1_0 then ((laws_eqIntS.f k l0_1 l1_1).bind fun t158 => (if t158 = true then ((laws_eqWordsS.f k l0_2 l1_2).bind fun t159 => (if t159 = true then ((laws_eqIntS.f k l0_3 l1_3).bind fun t160 => (if t160 = true then (some true) else (some false))) else (some false))) else (some false))) else (some false)) = some r := h
 clear h
 by_cases c3 : a0_0 = a1_0
 ·rw [if_pos c3] at H
  have c3b0 : (a0_0 == a1_0) = true := beq_iff_eq.mpr c3
  have c3b1 : (a0_0 != a1_0) = false := bne_eq_false_iff_eq.mpr c3
  clear c3
  replace H := Option.bind_eq_some_iff.mp H
  obtain ⟨t158, A40, H⟩ := H
  (try dsimp only at H)
  have A4 := Aside0.mk A40; clear A40
  by_cases c5 : t158 = true
  ·subst c5
   rw [if_pos rfl] at H
   replace H := Option.bind_eq_some_iff.mp H
   obtain ⟨t159, A60, H⟩ := H
   (try dsimp only at H)
   have A6 := Aside0.mk A60; clear A60
   by_cases c7 : t159 = true
   ·subst c7
    rw [if_pos rfl] at H
    replace H := Option.bind_eq_some_iff.mp H
    obtain ⟨t160, A80, H⟩ := H
    (try dsimp only at H)
    have A8 := Aside0.mk A80; clear A80
    by_cases c9 : t160 = true
    ·subst c9
     rw [if_pos rfl] at H
     obtain rfl := Option.some.inj H
     go_enter Try.func15, Try.ntmps15
     go_wp2_with (first | ((with_reducible refine gate_dst (N := 2) rfl ?_); refine box_ (N := 2) (cs := #[.int .i64 a0_0, .slice A0_1 l0_1.length c0_1, .slice A0_2 l0_2.length c0_2, .slice A0_3 l0_3.length c0_3]) (t := 30) (fun gb156 hg w10 hbox hb => ?_); have BK156 := Aside0.mk (hbox); have GW156 := ge_ hg HB; have GE156 := ge_ hg HB; replace HB := (bs_ HB hb); clear hb hbox hg) | ((with_reducible refine gate_dst (N := 3) rfl ?_); refine box_ (N := 3) (cs := #[.int .i64 a1_0, .slice A1_1 l1_1.length c1_1, .slice A1_2 l1_2.length c1_2, .slice A1_3 l1_3.length c1_3]) (t := 30) (fun gb157 hg w11 hbox hb => ?_); have BK157 := Aside0.mk (hbox); have GW157 := ge_ hg HB; have GE157 := ge_ hg HB; replace HB := (bs_ HB hb); have NB156_157 := nl_ hg BK156; have NB157_156 := ng_ hg BK156; replace BK156 := (bbA_ BK156 hb); clear hb hbox hg; have hnb12 := NB156_157.out; have hnc12 := NB157_156.out; have Z13 := zz4 BK156; have Z14 := zz4 BK157) | ((with_reducible refine gate_callee (f := 51) rfl ?_); refine goesL_ (some 14) rfl rfl Try.func51 (by kernel_rfl) rfl #[.slice A0_1 l0_1.length c0_1, .slice A1_1 l1_1.length c1_1] rfl ar_ ?_; (with_reducible refine (laws_eqIntS.calls k _ _ l0_1 _ _ l1_1 true _ ?side1 ?side2 ?side3 ?side4 A4.out).mono ?_); (case side1 => exact kC_ (Kd.C_below HR0_1.out HB.out)); (case side2 => exact HC0_1.out); (case side3 => exact kC_ (Kd.C_below HR1_1.out HB.out)); (case side4 => exact HC1_1.out); rintro e w' ⟨rfl, ⟨nd, rfl⟩⟩; refine ⟨_, rfl, ?_⟩) | ((with_reducible refine gate_callee (f := 41) rfl ?_); refine goesL_ (some 20) rfl rfl Try.func41 (by kernel_rfl) rfl #[.slice A0_2 l0_2.length c0_2, .slice A1_2 l1_2.length c1_2] rfl ar_ ?_; (with_reducible refine (laws_eqWordsS.calls k _ _ l0_2 _ _ l1_2 true _ ?side1 ?side2 ?side3 ?side4 A6.out).mono ?_); (case side1 => exact kC_ (Kd.C_below HR0_2.out (hbA_ HB.out))); (case side2 => exact HC0_2.out); (case side3 => exact kC_ (Kd.C_below HR1_2.out (hbA_ HB.out))); (case side4 => exact HC1_2.out); rintro e w15 ⟨rfl, hb⟩; refine ⟨_, rfl, ?_⟩; replace BK156 := (bbA_ BK156 hb); replace BK157 := (bbA_ BK157 hb); replace HB := (bs_ HB hb); (try clear hb); (try clear hb2); (try clear hk); (try clear hi); have Z16 := zz4 BK156; have Z17 := zz4 BK157) | ((with_reducible refine gate_callee (f := 51) rfl ?_); refine goesL_ (some 26) rfl rfl Try.func51 (by kernel_rfl) rfl #[.slice A0_3 l0_3.length c0_3, .slice A1_3 l1_3.length c1_3] rfl ar_ ?_; (with_reducible refine (laws_eqIntS.calls k _ _ l0_3 _ _ l1_3 true _ ?side1 ?side2 ?side3 ?side4 A8.out).mono ?_); (case side1 => exact kC_ (Kd.C_below HR0_3.out HB.out)); (case side2 => exact HC0_3.out); (case side3 => exact kC_ (Kd.C_below HR1_3.out HB.out)); (case side4 => exact HC1_3.out); rintro e w' ⟨rfl, ⟨nd, rfl⟩⟩; refine ⟨_, rfl, ?_⟩))
     go_ret
     exact ⟨by first | rfl | (simp [errW_none, errW_some] <;> rfl) | (simp [*, errW_none, errW_some] <;> rfl), hbA_ HB.out⟩
    ·replace c9 := Bool.eq_false_iff.mpr c9
     subst c9
     rw [if_neg (show ¬ (false = true) by decide)] at H
     obtain rfl := Option.some.inj H
     go_enter Try.func15, Try.ntmps15
     go_wp2_with (first | ((with_reducible refine gate_dst (N := 2) rfl ?_); refine box_ (N := 2) (cs := #[.int .i64 a0_0, .slice A0_1 l0_1.length c0_1, .slice A0_2 l0_2.length c0_2, .slice A0_3 l0_3.length c0_3]) (t := 30) (fun gb156 hg w18 hbox hb => ?_); have BK156 := Aside0.mk (hbox); have GW156 := ge_ hg HB; have GE156 := ge_ hg HB; replace HB := (bs_ HB hb); clear hb hbox hg) | ((with_reducible refine gate_dst (N := 3) rfl ?_); refine box_ (N := 3) (cs := #[.int .i64 a1_0, .slice A1_1 l1_1.length c1_1, .slice A1_2 l1_2.length c1_2, .slice A1_3 l1_3.length c1_3]) (t := 30) (fun gb157 hg w19 hbox hb => ?_); have BK157 := Aside0.mk (hbox); have GW157 := ge_ hg HB; have GE157 := ge_ hg HB; replace HB := (bs_ HB hb); have NB156_157 := nl_ hg BK156; have NB157_156 := ng_ hg BK156; replace BK156 := (bbA_ BK156 hb); clear hb hbox hg; have hnb20 := NB156_157.out; have hnc20 := NB157_156.out; have Z21 := zz4 BK156; have Z22 := zz4 BK157) | ((with_reducible refine gate_callee (f := 51) rfl ?_); refine goesL_ (some 14) rfl rfl Try.func51 (by kernel_rfl) rfl #[.slice A0_1 l0_1.length c0_1, .slice A1_1 l1_1.length c1_1] rfl ar_ ?_; (with_reducible refine (laws_eqIntS.calls k _ _ l0_1 _ _ l1_1 true _ ?side1 ?side2 ?side3 ?side4 A4.out).mono ?_); (case side1 => exact kC_ (Kd.C_below HR0_1.out HB.out)); (case side2 => exact HC0_1.out); (case side3 => exact kC_ (Kd.C_below HR1_1.out HB.out)); (case side4 => exact HC1_1.out); rintro e w' ⟨rfl, ⟨nd, rfl⟩⟩; refine ⟨_, rfl, ?_⟩) | ((with_reducible refine gate_callee (f := 41) rfl ?_); refine goesL_ (some 20) rfl rfl Try.func41 (by kernel_rfl) rfl #[.slice A0_2 l0_2.length c0_2, .slice A1_2 l1_2.length c1_2] rfl ar_ ?_; (with_reducible refine (laws_eqWordsS.calls k _ _ l0_2 _ _ l1_2 true _ ?side1 ?side2 ?side3 ?side4 A6.out).mono ?_); (case side1 => exact kC_ (Kd.C_below HR0_2.out (hbA_ HB.out))); (case side2 => exact HC0_2.out); (case side3 => exact kC_ (Kd.C_below HR1_2.out (hbA_ HB.out))); (case side4 => exact HC1_2.out); rintro e w23 ⟨rfl, hb⟩; refine ⟨_, rfl, ?_⟩; replace BK156 := (bbA_ BK156 hb); replace BK157 := (bbA_ BK157 hb); replace HB := (bs_ HB hb); (try clear hb); (try clear hb2); (try clear hk); (try clear hi); have Z24 := zz4 BK156; have Z25 := zz4 BK157) | ((with_reducible refine gate_callee (f := 51) rfl ?_); refine goesL_ (some 26) rfl rfl Try.func51 (by kernel_rfl) rfl #[.slice A0_3 l0_3.length c0_3, .slice A1_3 l1_3.length c1_3] rfl ar_ ?_; (with_reducible refine (laws_eqIntS.calls k _ _ l0_3 _ _ l1_3 false _ ?side1 ?side2 ?side3 ?side4 A8.out).mono ?_); (case side1 => exact kC_ (Kd.C_below HR0_3.out HB.out)); (case side2 => exact HC0_3.out); (case side3 => exact kC_ (Kd.C_below HR1_3.out HB.out)); (case side4 => exact HC1_3.out); rintro e w' ⟨rfl, ⟨nd, rfl⟩⟩; refine ⟨_, rfl, ?_⟩))
     go_ret
     exact ⟨by first | rfl | (simp [errW_none, errW_some] <;> rfl) | (simp [*, errW_none, errW_some] <;> rfl), hbA_ HB.out⟩
   ·replace c7 := Bool.eq_false_iff.mpr c7
    subst c7
    rw [if_neg (show ¬ (false = true) by decide)] at H
    obtain rfl := Option.some.inj H
    go_enter Try.func15, Try.ntmps15
    go_wp2_with (first | ((with_reducible refine gate_dst (N := 2) rfl ?_); refine box_ (N := 2) (cs := #[.int .i64 a0_0, .slice A0_1 l0_1.length c0_1, .slice A0_2 l0_2.length c0_2, .slice A0_3 l0_3.length c0_3]) (t := 30) (fun gb156 hg w26 hbox hb => ?_); have BK156 := Aside0.mk (hbox); have GW156 := ge_ hg HB; have GE156 := ge_ hg HB; replace HB := (bs_ HB hb); clear hb hbox hg) | ((with_reducible refine gate_dst (N := 3) rfl ?_); refine box_ (N := 3) (cs := #[.int .i64 a1_0, .slice A1_1 l1_1.length c1_1, .slice A1_2 l1_2.length c1_2, .slice A1_3 l1_3.length c1_3]) (t := 30) (fun gb157 hg w27 hbox hb => ?_); have BK157 := Aside0.mk (hbox); have GW157 := ge_ hg HB; have GE157 := ge_ hg HB; replace HB := (bs_ HB hb); have NB156_157 := nl_ hg BK156; have NB157_156 := ng_ hg BK156; replace BK156 := (bbA_ BK156 hb); clear hb hbox hg; have hnb28 := NB156_157.out; have hnc28 := NB157_156.out; have Z29 := zz4 BK156; have Z30 := zz4 BK157) | ((with_reducible refine gate_callee (f := 51) rfl ?_); refine goesL_ (some 14) rfl rfl Try.func51 (by kernel_rfl) rfl #[.slice A0_1 l0_1.length c0_1, .slice A1_1 l1_1.length c1_1] rfl ar_ ?_; (with_reducible refine (laws_eqIntS.calls k _ _ l0_1 _ _ l1_1 true _ ?side1 ?side2 ?side3 ?side4 A4.out).mono ?_); (case side1 => exact kC_ (Kd.C_below HR0_1.out HB.out)); (case side2 => exact HC0_1.out); (case side3 => exact kC_ (Kd.C_below HR1_1.out HB.out)); (case side4 => exact HC1_1.out); rintro e w' ⟨rfl, ⟨nd, rfl⟩⟩; refine ⟨_, rfl, ?_⟩) | ((with_reducible refine gate_callee (f := 41) rfl ?_); refine goesL_ (some 20) rfl rfl Try.func41 (by kernel_rfl) rfl #[.slice A0_2 l0_2.length c0_2, .slice A1_2 l1_2.length c1_2] rfl ar_ ?_; (with_reducible refine (laws_eqWordsS.calls k _ _ l0_2 _ _ l1_2 false _ ?side1 ?side2 ?side3 ?side4 A6.out).mono ?_); (case side1 => exact kC_ (Kd.C_below HR0_2.out (hbA_ HB.out))); (case side2 => exact HC0_2.out); (case side3 => exact kC_ (Kd.C_below HR1_2.out (hbA_ HB.out))); (case side4 => exact HC1_2.out); rintro e w31 ⟨rfl, hb⟩; refine ⟨_, rfl, ?_⟩; replace BK156 := (bbA_ BK156 hb); replace BK157 := (bbA_ BK157 hb); replace HB := (bs_ HB hb); (try clear hb); (try clear hb2); (try clear hk); (try clear hi)))
    go_ret
    exact ⟨by first | rfl | (simp [errW_none, errW_some] <;> rfl) | (simp [*, errW_none, errW_some] <;> rfl), hbA_ HB.out⟩
  ·replace c5 := Bool.eq_false_iff.mpr c5
   subst c5
   rw [if_neg (show ¬ (false = true) by decide)] at H
   obtain rfl := Option.some.inj H
   go_enter Try.func15, Try.ntmps15
   go_wp2_with (first | ((with_reducible refine gate_dst (N := 2) rfl ?_); refine box_ (N := 2) (cs := #[.int .i64 a0_0, .slice A0_1 l0_1.length c0_1, .slice A0_2 l0_2.length c0_2, .slice A0_3 l0_3.length c0_3]) (t := 30) (fun gb156 hg w32 hbox hb => ?_); have BK156 := Aside0.mk (hbox); have GW156 := ge_ hg HB; have GE156 := ge_ hg HB; replace HB := (bs_ HB hb); clear hb hbox hg) | ((with_reducible refine gate_dst (N := 3) rfl ?_); refine box_ (N := 3) (cs := #[.int .i64 a1_0, .slice A1_1 l1_1.length c1_1, .slice A1_2 l1_2.length c1_2, .slice A1_3 l1_3.length c1_3]) (t := 30) (fun gb157 hg w33 hbox hb => ?_); have BK157 := Aside0.mk (hbox); have GW157 := ge_ hg HB; have GE157 := ge_ hg HB; replace HB := (bs_ HB hb); have NB156_157 := nl_ hg BK156; have NB157_156 := ng_ hg BK156; replace BK156 := (bbA_ BK156 hb); clear hb hbox hg; have hnb34 := NB156_157.out; have hnc34 := NB157_156.out; have Z35 := zz4 BK156; have Z36 := zz4 BK157) | ((with_reducible refine gate_callee (f := 51) rfl ?_); refine goesL_ (some 14) rfl rfl Try.func51 (by kernel_rfl) rfl #[.slice A0_1 l0_1.length c0_1, .slice A1_1 l1_1.length c1_1] rfl ar_ ?_; (with_reducible refine (laws_eqIntS.calls k _ _ l0_1 _ _ l1_1 false _ ?side1 ?side2 ?side3 ?side4 A4.out).mono ?_); (case side1 => exact kC_ (Kd.C_below HR0_1.out HB.out)); (case side2 => exact HC0_1.out); (case side3 => exact kC_ (Kd.C_below HR1_1.out HB.out)); (case side4 => exact HC1_1.out); rintro e w' ⟨rfl, ⟨nd, rfl⟩⟩; refine ⟨_, rfl, ?_⟩))
   go_ret
   exact ⟨by first | rfl | (simp [errW_none, errW_some] <;> rfl) | (simp [*, errW_none, errW_some] <;> rfl), hbA_ HB.out⟩
 ·rw [if_neg c3] at H
  have c3b0 : (a0_0 == a1_0) = false := beq_eq_false_iff_ne.mpr c3
  have c3b1 : (a0_0 != a1_0) = true := bne_iff_ne.mpr c3
  obtain rfl := Option.some.inj H
  go_enter Try.func15, Try.ntmps15
  go_wp2_with (first | ((with_reducible refine gate_dst (N := 2) rfl ?_); refine box_ (N := 2) (cs := #[.int .i64 a0_0, .slice A0_1 l0_1.length c0_1, .slice A0_2 l0_2.length c0_2, .slice A0_3 l0_3.length c0_3]) (t := 30) (fun gb156 hg w37 hbox hb => ?_); have BK156 := Aside0.mk (hbox); have GW156 := ge_ hg HB; have GE156 := ge_ hg HB; replace HB := (bs_ HB hb); clear hb hbox hg) | ((with_reducible refine gate_dst (N := 3) rfl ?_); refine box_ (N := 3) (cs := #[.int .i64 a1_0, .slice A1_1 l1_1.length c1_1, .slice A1_2 l1_2.length c1_2, .slice A1_3 l1_3.length c1_3]) (t := 30) (fun gb157 hg w38 hbox hb => ?_); have BK157 := Aside0.mk (hbox); have GW157 := ge_ hg HB; have GE157 := ge_ hg HB; replace HB := (bs_ HB hb); have NB156_157 := nl_ hg BK156; have NB157_156 := ng_ hg BK156; replace BK156 := (bbA_ BK156 hb); clear hb hbox hg; have hnb39 := NB156_157.out; have hnc39 := NB157_156.out; have Z40 := zz4 BK156; have Z41 := zz4 BK157))
  go_ret
  exact ⟨by first | rfl | (simp [errW_none, errW_some] <;> rfl) | (simp [*, errW_none, errW_some] <;> rfl), hbA_ HB.out⟩
def impl_in.f (a0 : Int) (a1 : Int) (a2 : Int) : Option (Bool) := if a0 ≥ a1 then (some (decide (a0 ≤ a2))) else (some false)
set_option maxHeartbeats 8000000 in
set_option maxRecDepth 100000 in
theorem impl_in.calls (a0 : Int) (a1 : Int) (a2 : Int) (r : Bool) (w : World) (h : impl_in.f a0 a1 a2 = some r) :
  Calls Try.prog 49 #[.int .i64 a0, .int .i64 a1, .int .i64 a2] w fun e w' => e = .returned (.bool r) ∧ Drawn0 w w' := by
 have H : (if a0 ≥ a1 then (some (decide (a0 ≤ a2))) else (some false)) = some r := h
 clear h
 by_cases c4 : a0 ≥ a1
 ·rw [if_pos c4] at H
  have c4b0 : decide (a1 ≤ a0) = true := decide_eq_true c4
  clear c4
  obtain rfl := Option.some.inj H
  go_enter Try.func49, Try.ntmps49
  go_wp2
  go_ret
  exact ⟨by first | rfl | (simp; done) | (simp [*]; done), by repeat (first | exact Drawn0.refl _ | apply Drawn0.step)⟩
 ·rw [if_neg c4] at H
  have c4b0 : decide (a1 ≤ a0) = false := decide_eq_false c4
  clear c4
  obtain rfl := Option.some.inj H
  go_enter Try.func49, Try.ntmps49
  go_wp2
  go_ret
  exact ⟨by first | rfl | (simp; done) | (simp [*]; done), by repeat (first | exact Drawn0.refl _ | apply Drawn0.step)⟩
def slices_Grow_int_int.f (l0 : List Int) (a1 : Int) : Option (List Int) := if l0.length = 0 ∧ 0 ≤ a1 ∧ a1.toNat * 8 ≤ 140737488355328 then some [] else none
theorem slices_Grow_int_int.calls (A0 : Option Addr) (c0 : Nat) (l0 : List Int) (a1 : Int) (r : List Int) (w : World) (hr0 : Kd.C (Kd.int .i64) w A0 l0.length l0) (hc0 : A0 = none ∧ c0 = 0) (h : slices_Grow_int_int.f l0 a1 = some r) :
    Calls Try.prog 70 #[.slice A0 l0.length c0, .int .i64 a1] w fun e w' => ∃ v0_ : Value, e = .returned (v0_) ∧ Kd.R (Kd.int .i64) 3 w' w.heap.size (fun _ => True) v0_ r ∧ Below w.heap.size w w' := by
  obtain ⟨⟨hl0, h0, hle⟩, rfl⟩ : (l0.length = 0 ∧ 0 ≤ a1 ∧ a1.toNat * 8 ≤ 140737488355328) ∧ [] = r := by
    unfold slices_Grow_int_int.f at h; split at h
    · exact ⟨by assumption, Option.some.inj h⟩
    · cases h
  obtain rfl : l0 = [] := List.eq_nil_of_length_eq_zero hl0
  obtain ⟨rfl, rfl⟩ := hc0
  clear h hl0 hr0
  have hb : a1 ≤ 140737488355328 := by omega
  have HLE := Aside0.mk hle; clear hle
  have hneg : decide (a1 < 0) = false := decide_eq_false (by omega)
  by_cases hz : a1 = 0
  · subst hz
    clear hneg
    go_enter Try.func70, Try.ntmps70
    go_wp2
    go_ret
    exact ⟨_, rfl, Kd.R_nil _ _ _ _ _, Below.refl _ _⟩
  · have hp : decide (a1 > 0) = true := decide_eq_true (by omega)
    have hp2 : decide (0 < a1) = true := decide_eq_true (by omega)
    clear hz
    go_enter Try.func70, Try.ntmps70
    go_wp2_with (first
      | ((with_reducible refine gate_dst (N := 22) rfl ?_); refine Kd.R_append_zeros (Kd.int .i64) w.heap.size rfl _ _ 22 3 3 (.int .i64 0) 8 rfl Try.underlying22 Try.underlying3 info3 rfl (by decide) (by decide) (.slice none 0 0) [] 0 a1 (fun _ => True) rfl rfl (rfl) (fun _ _ => trivial) (Kd.R_nil _ _ _ _ _) h0 (Below.refl _ _) (Nat.le_refl _) (by simpa using HLE.out) ?_; intro v1 w1 ho hb1 hg hat; obtain ⟨A1, c1, hv1, hc1, _⟩ := Kd.R_reads ho; have HO := Aside0.mk ho; clear ho hat hg; have HB := Aside0.mk hb1; clear hb1; subst hv1))
    go_ret
    refine ⟨_, rfl, ?_, HB.out⟩
    have h2 := Kd.R_take (m := 0) HO.out (Nat.zero_le _)
    simpa using h2
mutual
def slices_Concat_int_int.l0 : Nat → List (List Int) → Int → List (List Int) → Int → Int → Option (List Int)
 | 0, _, _, _, _, _ => none
 | k + 1, x0, x3, x9, x10, x11 => if x11 < x10 then (if 0 ≤ x11 then (if x11 < (x9.length : Int) then (if (wrap64 (x3 + ((rd_L5 x9 x11).length : Int))) < 0 then (none) else (slices_Concat_int_int.l0 k x0 (wrap64 (x3 + ((rd_L5 x9 x11).length : Int))) x9 x10 (wrap64 (x11 + 1)))) else (none)) else (none)) else ((slices_Grow_int_int.f ([] : List Int) x3).bind fun t162 => (slices_Concat_int_int.l1 k t162 x0 (x0.length : Int) 0))
def slices_Concat_int_int.l1 : Nat → List Int → List (List Int) → Int → Int → Option (List Int)
 | 0, _, _, _, _ => none
 | k + 1, x6, x25, x26, x27 => if x27 < x26 then (if 0 ≤ x27 then (if x27 < (x25.length : Int) then (if x6.length + (rd_L5 x25 x27).length < 17592186044416 then (slices_Concat_int_int.l1 k (x6 ++ (rd_L5 x25 x27)) x25 x26 (wrap64 (x27 + 1))) else (none)) else (none)) else (none)) else (some x6)
end
def slices_Concat_int_int.f (k : Nat) (l0 : List (List Int)) : Option (List Int) := slices_Concat_int_int.l0 k l0 0 l0 (l0.length : Int) 0
theorem slices_Concat_int_int.mono_l : ∀ k, (∀ y0 y1 y2 y3 y4, LeO (slices_Concat_int_int.l0 k y0 y1 y2 y3 y4) (slices_Concat_int_int.l0 (k + 1) y0 y1 y2 y3 y4)) ∧ (∀ y0 y1 y2 y3, LeO (slices_Concat_int_int.l1 k y0 y1 y2 y3) (slices_Concat_int_int.l1 (k + 1) y0 y1 y2 y3))
 | 0 => ⟨fun _ _ _ _ _ r h => by simp [slices_Concat_int_int.l0] at h, fun _ _ _ _ r h => by simp [slices_Concat_int_int.l1] at h⟩
 | k + 1 => by
  obtain ⟨ih0, ih1⟩ := slices_Concat_int_int.mono_l k
  refine ⟨?_, ?_⟩
  ·intro y0 y1 y2 y3 y4
   unfold slices_Concat_int_int.l0
   repeat' first | (with_reducible first | apply ih0 | apply ih1 | exact LeO.refl _ | exact LeO.none _ | refine LeO.ite ?_ ?_ | refine LeO.bind ?_ fun _ => ?_) | apply ih0 | apply ih1 | exact LeO.none _ | refine LeO.ite ?_ ?_ | refine LeO.bind ?_ fun _ => ?_
  ·intro y0 y1 y2 y3
   unfold slices_Concat_int_int.l1
   repeat' first | (with_reducible first | apply ih0 | apply ih1 | exact LeO.refl _ | exact LeO.none _ | refine LeO.ite ?_ ?_ | refine LeO.bind ?_ fun _ => ?_) | apply ih0 | apply ih1 | exact LeO.none _ | refine LeO.ite ?_ ?_ | refine LeO.bind ?_ fun _ => ?_
theorem slices_Concat_int_int.mono : ∀ a0 k, LeO (slices_Concat_int_int.f k a0) (slices_Concat_int_int.f (k + 1) a0) := by
 intro a0 k
 obtain ⟨ih0, ih1⟩ := slices_Concat_int_int.mono_l k
 unfold slices_Concat_int_int.f
 repeat' first | (with_reducible first | apply ih0 | apply ih1 | exact LeO.refl _ | exact LeO.none _ | refine LeO.ite ?_ ?_ | refine LeO.bind ?_ fun _ => ?_) | apply ih0 | apply ih1 | exact LeO.none _ | refine LeO.ite ?_ ?_ | refine LeO.bind ?_ fun _ => ?_
set_option maxHeartbeats 8000000 in
set_option maxRecDepth 100000 in
theorem slices_Concat_int_int.calls (k : Nat) (A0 : Option Addr) (c0 : Nat) (l0 : List (List Int)) (r : List Int) (w : World) (hr0 : Kd.C (Kd.slice 3 (Kd.int .i64)) w A0 l0.length l0) (hc0 : l0.length ≤ c0) (h : slices_Concat_int_int.f k l0 = some r) :
  Calls Try.prog 50 #[.slice A0 l0.length c0] w fun e w' => ∃ v0_ : Value, e = .returned (v0_) ∧ Kd.R (Kd.int .i64) 3 w' w.heap.size (fun _ => True) v0_ r ∧ Below w.heap.size w w' := by
 have HR0 := Aside0.mk hr0; have HC0 := Aside0.mk hc0; clear hr0 hc0
 have HB := Aside0.mk (Below.refl w.heap.size w)
 have H : (slices_Concat_int_int.l0 k l0 0 l0 (l0.length : Int) 0) = some r := h
 clear h
 have H' := Aside0.mk H
 clear H
 go_enter Try.func50, Try.ntmps50
 go_wp2
 go_loopg [3, 11] k (fun kq v3 v11 w' => ∃ (x3_1 : Int) (x11_1 : Int), v3 = .int .i64 x3_1 ∧ v11 = .int .i64 x11_1 ∧ Aside0 (slices_Concat_int_int.l0 kq l0 x3_1 l0 (l0.length : Int) x11_1 = some r) ∧ Aside0 (kq ≤ k) ∧ Aside0 (Below w.heap.size w w'))
 case atStart => exact ⟨(0), (0), (by first | rfl | (simp; done) | (simp [*]; done)), (by first | rfl | (simp; done) | (simp [*]; done)), H', ⟨Nat.le_refl _⟩, ⟨hbA_ HB.out⟩⟩
 case round =>
  clear H'
  obtain ⟨x3_1, x11_1, rfl, rfl, HA, HK1, HB⟩ := hrel
  cases gk with
  | zero => exact absurd HA.out (by simp [slices_Concat_int_int.l0])
  | succ k1 =>
   have H := HA.out; clear HA
   simp only [slices_Concat_int_int.l0] at H
   by_cases c2 : x11_1 < (l0.length : Int)
   ·rw [if_pos c2] at H
    have c2b0 : decide (x11_1 < (l0.length : Int)) = true := decide_eq_true c2
    clear c2
    by_cases c3 : 0 ≤ x11_1
    ·rw [if_pos c3] at H
     have c3b0 : decide (0 ≤ x11_1) = true := decide_eq_true c3
     clear c3
     by_cases c4 : x11_1 < (l0.length : Int)
     ·rw [if_pos c4] at H
      have c4b0 : decide (x11_1 < (l0.length : Int)) = true := decide_eq_true c4
      clear c4
      by_cases c5 : (wrap64 (x3_1 + ((rd_L5 l0 x11_1).length : Int))) < 0
      ·rw [if_pos c5] at H
       exact absurd H (by simp)
      ·rw [if_neg c5] at H
       have c5b0 : decide ((wrap64 (x3_1 + ((rd_L5 l0 x11_1).length : Int))) < 0) = false := decide_eq_false c5
       clear c5
       have H' := Aside0.mk H
       clear H
       have p161 : 0 ≤ (x11_1 : Int) := of_decide_eq_true (by first | (with_reducible assumption) | assumption)
       have q161 : x11_1 < (l0.length : Int) := of_decide_eq_true (by first | (with_reducible assumption) | assumption)
       obtain ⟨ad161, A161_0, c161_0, e161, hx161_0, hl161_0, hi161_0⟩ := at_L5 HR0.out x11_1 p161 q161
       cases e161
       replace hx161_0 := cc_ HB hx161_0
       have HR161_0 := Aside0.mk hi161_0; have HC161_0 := Aside0.mk hl161_0; clear hi161_0 hl161_0
       replace p161 := eq_true p161
       replace q161 := eq_true q161
       go_wp2
       go_roundg k1
       case measure => have := HK1.out; omega
       case rel => exact ⟨(wrap64 (x3_1 + ((rd_L5 l0 x11_1).length : Int))), (wrap64 (x11_1 + 1)), (by first | rfl | (simp; done) | (simp [*]; done)), (by first | rfl | (simp; done) | (simp [*]; done)), H', ⟨by have := HK1.out; omega⟩, ⟨hbA_ HB.out⟩⟩
     ·rw [if_neg c4] at H
      exact absurd H (by simp)
    ·rw [if_neg c3] at H
     exact absurd H (by simp)
   ·rw [if_neg c2] at H
    have c2b0 : decide (x11_1 < (l0.length : Int)) = false := decide_eq_false c2
    clear c2
    replace H := Option.bind_eq_some_iff.mp H
    obtain ⟨t162, A60, H⟩ := H
    (try dsimp only at H)
    have A6 := Aside0.mk A60; clear A60
    have H' := Aside0.mk H
    clear H
    go_wp2_with (first | ((with_reducible refine gate_callee (f := 70) rfl ?_); refine goesL_ (some 24) rfl rfl Try.func70 (by kernel_rfl) rfl #[.slice none 0 0, .int .i64 x3_1] rfl ar_ ?_; (refine (slices_Grow_int_int.calls _ _ ([] : List Int) x3_1 t162 _ ?side1 ?side2 A6.out).mono ?_); (case side1 => exact Kd.C_nil _ _); (case side2 => first | exact Nat.le_refl _ | exact ⟨rfl, rfl⟩); rintro e w7 ⟨v163, rfl, ho0, hb⟩; refine ⟨_, rfl, ?_⟩; have HO164 := Aside0.mk (Kd.R_lower ho0 (below_size (hbA_ HB.out))); replace HB := (bs_ HB hb); (try clear hb); (try clear hb2); (try clear hk); (try clear hi); (try clear ho0)))
    go_loopg [6, 27] k1 (fun kq v6 v27 w' => ∃ (x6_2 : List Int) (x27_2 : Int), v27 = .int .i64 x27_2 ∧ Aside0 (slices_Concat_int_int.l1 kq x6_2 l0 (l0.length : Int) x27_2 = some r) ∧ Aside0 (kq ≤ k1) ∧ Aside0 (Kd.R (Kd.int .i64) 3 w' w.heap.size (fun _ => True) v6 x6_2) ∧ Aside0 (Below w.heap.size w w'))
    case atStart => exact ⟨(t162), (0), (by first | rfl | (simp; done) | (simp [*]; done)), H', ⟨Nat.le_refl _⟩, ⟨kR_ HO164.out⟩, ⟨hbA_ HB.out⟩⟩
    case round =>
     clear H'; (try clear c1); (try clear p1); (try clear q1); (try clear hx1); (try clear c2); (try clear c2b0); (try clear p2); (try clear c3); (try clear c3b0); (try clear c4); (try clear c4b0); (try clear c5); (try clear c5b0); (try clear p6); (try clear c7); (try clear hx161_0); (try clear p161); (try clear q161)
     obtain ⟨x6_2, x27_2, rfl, HA, HK2, HO_6, HB⟩ := hrel
     cases gk with
     | zero => exact absurd HA.out (by simp [slices_Concat_int_int.l1])
     | succ k2 =>
      have H := HA.out; clear HA
      simp only [slices_Concat_int_int.l1] at H
      by_cases c8 : x27_2 < (l0.length : Int)
      ·rw [if_pos c8] at H
       have c8b0 : decide (x27_2 < (l0.length : Int)) = true := decide_eq_true c8
       clear c8
       by_cases c9 : 0 ≤ x27_2
       ·rw [if_pos c9] at H
        have c9b0 : decide (0 ≤ x27_2) = true := decide_eq_true c9
        clear c9
        by_cases c10 : x27_2 < (l0.length : Int)
        ·rw [if_pos c10] at H
         have c10b0 : decide (x27_2 < (l0.length : Int)) = true := decide_eq_true c10
         clear c10
         by_cases c11 : x6_2.length + (rd_L5 l0 x27_2).length < 17592186044416
         ·rw [if_pos c11] at H
          have LMc11 := Aside0.mk c11; clear c11
          obtain ⟨y166, hy166⟩ : ∃ y_ : List Int, y_ = (x6_2 ++ (rd_L5 l0 x27_2)) := ⟨_, rfl⟩
          (first | replace H := sb_ hy166 H | rw [← hy166] at H)
          have Ny166 := Aside0.mk hy166; clear hy166
          have H' := Aside0.mk H
          clear H
          have p165 : 0 ≤ (x27_2 : Int) := of_decide_eq_true (by first | (with_reducible assumption) | assumption)
          have q165 : x27_2 < (l0.length : Int) := of_decide_eq_true (by first | (with_reducible assumption) | assumption)
          obtain ⟨ad165, A165_0, c165_0, e165, hx165_0, hl165_0, hi165_0⟩ := at_L5 HR0.out x27_2 p165 q165
          cases e165
          replace hx165_0 := cc_ HB hx165_0
          have HR165_0 := Aside0.mk hi165_0; have HC165_0 := Aside0.mk hl165_0; clear hi165_0 hl165_0
          replace p165 := eq_true p165
          replace q165 := eq_true q165
          go_wp2_with (first | ((with_reducible refine gate_builtin (b := .append) (xs := #[.tmp 31, .tmp 32]) rfl ?_); at_builtin; refine Kd.R_append_rows (Kd.int .i64) (w0 := w) w.heap.size rfl (.tmp 31) (.tmp 32) 22 3 (.int .i64 0) 8 rfl Try.underlying22 info3 rfl (by decide) (by omega) u6 x6_2 (rd_L5 l0 x27_2) _ _ _ (fun _ => True) (fun _ => False) rfl rfl ?aO ?aR (fun _ _ h => h) (fun _ h => h.elim) ?aF ?aB ?aS ?aL ?_; (case aR => exact kC_ (Kd.C_below HR165_0.out HB.out)); (case aB => exact (hbA_ HB.out)); (case aF => exact (fun _ _ => trivial)); (case aO => exact (kR_ HO_6.out)); (case aS => exact (below_size (hbA_ HB.out))); (case aL => have := LMc11.out; omega); intro v167 w12 ho hb hg hat; rw [← Ny166.out] at ho; replace HB := Aside0.mk (hb); have HO168 := Aside0.mk (ho); clear HO_6; clear ho hb hg hat))
          go_roundg k2
          case measure => have := HK1.out; have := HK2.out; omega
          case rel => exact ⟨(y166), (wrap64 (x27_2 + 1)), (by first | rfl | (simp; done) | (simp [*]; done)), H', ⟨by have := HK1.out; have := HK2.out; omega⟩, ⟨kR_ HO168.out⟩, ⟨hbA_ HB.out⟩⟩
         ·rw [if_neg c11] at H
          exact absurd H (by simp)
        ·rw [if_neg c10] at H
         exact absurd H (by simp)
       ·rw [if_neg c9] at H
        exact absurd H (by simp)
      ·rw [if_neg c8] at H
       have c8b0 : decide (x27_2 < (l0.length : Int)) = false := decide_eq_false c8
       clear c8
       obtain rfl := Option.some.inj H
       go_wp2
       go_ret
       exact ⟨_, by first | rfl | (simp [errW_none, errW_some] <;> rfl) | (simp [*, errW_none, errW_some] <;> rfl), kR_ HO_6.out, hbA_ HB.out⟩
end Go.Proofs.Ytegchbdjbefdbaa.PFnExactClientHear
