/- Printed by wip/xp/xprint.sh out of the translation, for this claim: what each function answers, as a plain function, and that the machine does just that. No condition. -/
import Derived.Test.YtegchbdjbefdbaaPFnExactClientOkx0
import Derived.Test.YtegchbdjbefdbaaPFnExactClientOkx1
import Derived.Test.YtegchbdjbefdbaaPFnExactClientOkx2
import Derived.Test.YtegchbdjbefdbaaPFnExactClientOkx3
namespace Go.Proofs.Ytegchbdjbefdbaa.PFnExactClientOk
open Go.RowKit Go.Proofs.YtegchbdjbefdbaaW.PrintWords Go.Proofs.YtegchbdjbefdbaaW.PrintLast Go.Proofs.YtegchbdjbefdbaaW.PrintMore
attribute [local go_sem] max2_int min2_int max_two min_two max_three min_three max_four min_four   -- for this text's walks alone
set_option linter.unusedVariables false
set_option linter.unusedSimpArgs false
def laws_eqWordsS.l0 : Nat → List (S41) → List (S41) → Int → Option (Bool)
 | 0, _, _, _ => none
 | k + 1, x0, x1, x5 => if x5 < (x0.length : Int) then (if 0 ≤ x5 then (if x5 < (x1.length : Int) then ((laws_eqWords.f k ((rd_T41 x0 x5).f0) ((rd_T41 x0 x5).f1) ((rd_T41 x1 x5).f0) ((rd_T41 x1 x5).f1)).bind fun t201 => (if t201 = true then (laws_eqWordsS.l0 k x0 x1 (wrap64 (x5 + 1))) else (some false))) else (none)) else (none)) else (some true)
def laws_eqWordsS.f (k : Nat) (l0 : List (S41)) (l1 : List (S41)) : Option (Bool) := if (l0.length : Int) = (l1.length : Int) then (laws_eqWordsS.l0 k l0 l1 0) else (some false)
theorem laws_eqWordsS.mono_l : ∀ k, (∀ y0 y1 y2, LeO (laws_eqWordsS.l0 k y0 y1 y2) (laws_eqWordsS.l0 (k + 1) y0 y1 y2))
 | 0 => fun _ _ _ r h => by simp [laws_eqWordsS.l0] at h
 | k + 1 => by
  have ih0 := laws_eqWordsS.mono_l k
  ·intro y0 y1 y2
   unfold laws_eqWordsS.l0
   repeat' first | (with_reducible first | apply ih0 | apply laws_eqWords.mono | exact LeO.refl _ | exact LeO.none _ | refine LeO.ite ?_ ?_ | refine LeO.bind ?_ fun _ => ?_) | apply ih0 | apply laws_eqWords.mono | exact LeO.none _ | refine LeO.ite ?_ ?_ | refine LeO.bind ?_ fun _ => ?_
theorem laws_eqWordsS.mono : ∀ a0 a1 k, LeO (laws_eqWordsS.f k a0 a1) (laws_eqWordsS.f (k + 1) a0 a1) := by
 intro a0 a1 k
 have ih0 := laws_eqWordsS.mono_l k
 unfold laws_eqWordsS.f
 repeat' first | (with_reducible first | apply ih0 | apply laws_eqWords.mono | exact LeO.refl _ | exact LeO.none _ | refine LeO.ite ?_ ?_ | refine LeO.bind ?_ fun _ => ?_) | apply ih0 | apply laws_eqWords.mono | exact LeO.none _ | refine LeO.ite ?_ ?_ | refine LeO.bind ?_ fun _ => ?_
def laws_eqWordsS.T6 : Bool × List (List Nat × List Nat) := (true, [([], []), ([], []), ([0, 1], [0, 1]), ([2], [2]), ([], []), ([], []), ([4, 5], [4, 5]), ([6], [6]), ([3, 7], [3, 7]), ([8], [8])])
def laws_eqWordsS.B6 : List Nat := [0, 0, 3, 7, 0, 0, 48, 112, 255, 511]
theorem laws_eqWordsS.tab6 : rtab .any (opsOf Try.f41 6) = laws_eqWordsS.T6 := by kernel_rfl
theorem laws_eqWordsS.bits6 : waitsOk laws_eqWordsS.T6.2 laws_eqWordsS.B6 = true := by kernel_rfl
set_option maxHeartbeats 8000000 in
set_option maxRecDepth 100000 in
theorem laws_eqWordsS.calls (k : Nat) (A0 : Option Addr) (c0 : Nat) (l0 : List (S41)) (A1 : Option Addr) (c1 : Nat) (l1 : List (S41)) (r : Bool) (w : World) (hr0 : Kd.C k41 w A0 l0.length l0) (hc0 : l0.length ≤ c0) (hr1 : Kd.C k41 w A1 l1.length l1) (hc1 : l1.length ≤ c1) (h : laws_eqWordsS.f k l0 l1 = some r) :
  Calls Try.prog 41 #[.slice A0 l0.length c0, .slice A1 l1.length c1] w fun e w' => e = .returned (.bool r) ∧ Below w.heap.size w w' := by
 have hu41 := Try.underlying41; have HR0 := Aside0.mk hr0; have HC0 := Aside0.mk hc0; clear hr0 hc0; have HR1 := Aside0.mk hr1; have HC1 := Aside0.mk hc1; clear hr1 hc1
 have HB := Aside0.mk (Below.refl w.heap.size w)
 have H : (if (l0.length : Int) = (l1.length : Int) then (laws_eqWordsS.l0 k l0 l1 0) else (some false)) = some r := h
 clear h
 by_cases c3 : (l0.length : Int) = (l1.length : Int)
 ·rw [if_pos c3] at H
  have c3b0 : ((l0.length : Int) == (l1.length : Int)) = true := beq_iff_eq.mpr c3
  have c3b1 : ((l0.length : Int) != (l1.length : Int)) = false := bne_eq_false_iff_eq.mpr c3
  have c3b2 : (l0.length == l1.length) = true := by first | simpa using c3 | (simp at c3 ⊢; omega)
  clear c3
  have H' := Aside0.mk H
  clear H
  go_enter Try.func41, Try.ntmps41
  go_wp2
  go_loopg [5] k (fun kq v5 w' => ∃ (x5_1 : Int), v5 = .int .i64 x5_1 ∧ Aside0 (laws_eqWordsS.l0 kq l0 l1 x5_1 = some r) ∧ Aside0 (kq ≤ k) ∧ Aside0 (Below w.heap.size w w'))
  case atStart => exact ⟨(0), (by first | rfl | (simp; done) | (simp [*]; done)), H', ⟨Nat.le_refl _⟩, ⟨hbA_ HB.out⟩⟩
  case round =>
   clear H'; (try clear c1); (try clear p2); (try clear c3); (try clear c3b0); (try clear c3b1); (try clear c3b2)
   obtain ⟨x5_1, rfl, HA, HK1, HB⟩ := hrel
   cases gk with
   | zero => exact absurd HA.out (by simp [laws_eqWordsS.l0])
   | succ k1 =>
    have H := HA.out; clear HA
    simp only [laws_eqWordsS.l0] at H
    by_cases c4 : x5_1 < (l0.length : Int)
    ·rw [if_pos c4] at H
     have c4b0 : decide (x5_1 < (l0.length : Int)) = true := decide_eq_true c4
     clear c4
     by_cases c5 : 0 ≤ x5_1
     ·rw [if_pos c5] at H
      have c5b0 : decide (0 ≤ x5_1) = true := decide_eq_true c5
      clear c5
      by_cases c6 : x5_1 < (l1.length : Int)
      ·rw [if_pos c6] at H
       have c6b0 : decide (x5_1 < (l1.length : Int)) = true := decide_eq_true c6
       clear c6
       replace H := Option.bind_eq_some_iff.mp H
       obtain ⟨t201, A70, H⟩ := H
       (try dsimp only at H)
       have A7 := Aside0.mk A70; clear A70
       by_cases c8 : t201 = true
       ·subst c8
        rw [if_pos rfl] at H
        have H' := Aside0.mk H
        clear H
        try go_wp2
        replace HB := (bd_ HB)
        have p199 : 0 ≤ (x5_1 : Int) := of_decide_eq_true (by first | (with_reducible assumption) | assumption)
        have q199 : x5_1 < (l0.length : Int) := of_decide_eq_true (by first | (with_reducible assumption) | assumption)
        obtain ⟨ad199, A199_1, c199_1, e199, hx199_0, hx199_1, hl199_1, hi199_1⟩ := at_T41 HR0.out x5_1 p199 q199
        have hw199_1 := hx199_1; have hw199_0 := hx199_0
        cases e199
        replace hx199_0 := cc_ HB hx199_0
        replace hx199_1 := cc_ HB hx199_1
        have HR199_1 := Aside0.mk hi199_1; have HC199_1 := Aside0.mk hl199_1; clear hi199_1 hl199_1
        replace p199 := eq_true p199
        replace q199 := eq_true q199
        have p200 : 0 ≤ (x5_1 : Int) := of_decide_eq_true (by first | (with_reducible assumption) | assumption)
        have q200 : x5_1 < (l1.length : Int) := of_decide_eq_true (by first | (with_reducible assumption) | assumption)
        obtain ⟨ad200, A200_1, c200_1, e200, hx200_0, hx200_1, hl200_1, hi200_1⟩ := at_T41 HR1.out x5_1 p200 q200
        have hw200_1 := hx200_1; have hw200_0 := hx200_0
        cases e200
        replace hx200_0 := cc_ HB hx200_0
        replace hx200_1 := cc_ HB hx200_1
        have HR200_1 := Aside0.mk hi200_1; have HC200_1 := Aside0.mk hl200_1; clear hi200_1 hl200_1
        replace p200 := eq_true p200
        replace q200 := eq_true q200
        refine start_ (n := 10) (S := fun w' => w'.cell? (ad199.add ((x5_1).toNat * 2)) = some (.int .i64 ((rd_T41 l0 x5_1).f0)) ∧ w'.cell? ⟨(ad199.add ((x5_1).toNat * 2)).block, (ad199.add ((x5_1).toNat * 2)).off + 1, none⟩ = some (.slice A199_1 ((rd_T41 l0 x5_1).f1).length c199_1) ∧ w'.cell? (ad200.add ((x5_1).toNat * 2)) = some (.int .i64 ((rd_T41 l1 x5_1).f0)) ∧ w'.cell? ⟨(ad200.add ((x5_1).toNat * 2)).block, (ad200.add ((x5_1).toNat * 2)).off + 1, none⟩ = some (.slice A200_1 ((rd_T41 l1 x5_1).f1).length c200_1)) (ds := []) #[false, false, false, false, false, false, false, false, false, false] (by kernel_rfl) rfl rfl ⟨(cc_ HB hw199_0), (cc_ HB hw199_1), (cc_ HB hw200_0), (cc_ HB hw200_1)⟩ (fun hHeld => ?_); refine with_tabW laws_eqWordsS.tab6 laws_eqWordsS.bits6 (fun HT_ HW_ => ?_)
        generalize wr.drew = w9 at HB HR199_1 HR200_1 hx199_0 hx199_1 hx200_0 hx200_1 hHeld ⊢
        refine pu_ (i := 0) (N := some 17) HT_ ?_; refine pu_ (i := 1) (N := some 18) HT_ ?_; refine pu_ (i := 2) (N := some 19) HT_ ?_; refine pu_ (i := 4) (N := some 21) HT_ ?_; refine pu_ (i := 5) (N := some 22) HT_ ?_; refine pu_ (i := 6) (N := some 23) HT_ ?_; refine tk_ (i := 3) (N := some 20) HT_ HW_ hHeld ?_; refine tk_ (i := 7) (N := some 24) HT_ HW_ hHeld ?_
        refine on_ (i := 8) (N := some 25) HT_ (fun K hK => ?_)
        refine goes_ Try.func38 (by kernel_rfl) rfl #[.agg #[.int .i64 ((rd_T41 l0 x5_1).f0), .slice A199_1 ((rd_T41 l0 x5_1).f1).length c199_1], .agg #[.int .i64 ((rd_T41 l1 x5_1).f0), .slice A200_1 ((rd_T41 l1 x5_1).f1).length c200_1]] (by rfl) rfl rfl ar_ ?_
        with_reducible refine (laws_eqWords.calls k1 ((rd_T41 l0 x5_1).f0) _ _ ((rd_T41 l0 x5_1).f1) ((rd_T41 l1 x5_1).f0) _ _ ((rd_T41 l1 x5_1).f1) true _ ?side1 ?side2 ?side3 ?side4 A7.out).mono ?_
        (case side1 => exact kC_ (Kd.C_below HR199_1.out HB.out))
        (case side2 => exact HC199_1.out)
        (case side3 => exact kC_ (Kd.C_below HR200_1.out HB.out))
        (case side4 => exact HC200_1.out)
        rintro e w10 ⟨rfl, hb⟩
        refine ⟨_, rfl, ?_⟩
        replace HB := (bs_ HB hb); (try clear hb); (try clear hb2); (try clear hk); (try clear hi)
        refine hK.out _ _ ⟨(cc_ HB hw199_0), (cc_ HB hw199_1), (cc_ HB hw200_0), (cc_ HB hw200_1)⟩ (fun hHeld => ?_)
        clear hK K; refine nm_ 25 ?_; refine pu_ (i := 9) (N := some 26) HT_ ?_
        refine done_ (done_of HT_.out (by kernel_rfl)) ?_
        try go_wp2
        go_roundg k1
        case measure => have := HK1.out; omega
        case rel => exact ⟨(wrap64 (x5_1 + 1)), (by first | rfl | (simp; done) | (simp [*]; done)), H', ⟨by have := HK1.out; omega⟩, ⟨hbA_ HB.out⟩⟩
       ·replace c8 := Bool.eq_false_iff.mpr c8
        subst c8
        rw [if_neg (show ¬ (false = true) by decide)] at H
        obtain rfl := Option.some.inj H
        try go_wp2
        replace HB := (bd_ HB)
        have p199 : 0 ≤ (x5_1 : Int) := of_decide_eq_true (by first | (with_reducible assumption) | assumption)
        have q199 : x5_1 < (l0.length : Int) := of_decide_eq_true (by first | (with_reducible assumption) | assumption)
        obtain ⟨ad199, A199_1, c199_1, e199, hx199_0, hx199_1, hl199_1, hi199_1⟩ := at_T41 HR0.out x5_1 p199 q199
        have hw199_1 := hx199_1; have hw199_0 := hx199_0
        cases e199
        replace hx199_0 := cc_ HB hx199_0
        replace hx199_1 := cc_ HB hx199_1
        have HR199_1 := Aside0.mk hi199_1; have HC199_1 := Aside0.mk hl199_1; clear hi199_1 hl199_1
        replace p199 := eq_true p199
        replace q199 := eq_true q199
        have p200 : 0 ≤ (x5_1 : Int) := of_decide_eq_true (by first | (with_reducible assumption) | assumption)
        have q200 : x5_1 < (l1.length : Int) := of_decide_eq_true (by first | (with_reducible assumption) | assumption)
        obtain ⟨ad200, A200_1, c200_1, e200, hx200_0, hx200_1, hl200_1, hi200_1⟩ := at_T41 HR1.out x5_1 p200 q200
        have hw200_1 := hx200_1; have hw200_0 := hx200_0
        cases e200
        replace hx200_0 := cc_ HB hx200_0
        replace hx200_1 := cc_ HB hx200_1
        have HR200_1 := Aside0.mk hi200_1; have HC200_1 := Aside0.mk hl200_1; clear hi200_1 hl200_1
        replace p200 := eq_true p200
        replace q200 := eq_true q200
        refine start_ (n := 10) (S := fun w' => w'.cell? (ad199.add ((x5_1).toNat * 2)) = some (.int .i64 ((rd_T41 l0 x5_1).f0)) ∧ w'.cell? ⟨(ad199.add ((x5_1).toNat * 2)).block, (ad199.add ((x5_1).toNat * 2)).off + 1, none⟩ = some (.slice A199_1 ((rd_T41 l0 x5_1).f1).length c199_1) ∧ w'.cell? (ad200.add ((x5_1).toNat * 2)) = some (.int .i64 ((rd_T41 l1 x5_1).f0)) ∧ w'.cell? ⟨(ad200.add ((x5_1).toNat * 2)).block, (ad200.add ((x5_1).toNat * 2)).off + 1, none⟩ = some (.slice A200_1 ((rd_T41 l1 x5_1).f1).length c200_1)) (ds := []) #[false, false, false, false, false, false, false, false, false, false] (by kernel_rfl) rfl rfl ⟨(cc_ HB hw199_0), (cc_ HB hw199_1), (cc_ HB hw200_0), (cc_ HB hw200_1)⟩ (fun hHeld => ?_); refine with_tabW laws_eqWordsS.tab6 laws_eqWordsS.bits6 (fun HT_ HW_ => ?_)
        generalize wr.drew = w11 at HB HR199_1 HR200_1 hx199_0 hx199_1 hx200_0 hx200_1 hHeld ⊢
        refine pu_ (i := 0) (N := some 17) HT_ ?_; refine pu_ (i := 1) (N := some 18) HT_ ?_; refine pu_ (i := 2) (N := some 19) HT_ ?_; refine pu_ (i := 4) (N := some 21) HT_ ?_; refine pu_ (i := 5) (N := some 22) HT_ ?_; refine pu_ (i := 6) (N := some 23) HT_ ?_; refine tk_ (i := 3) (N := some 20) HT_ HW_ hHeld ?_; refine tk_ (i := 7) (N := some 24) HT_ HW_ hHeld ?_
        refine on_ (i := 8) (N := some 25) HT_ (fun K hK => ?_)
        refine goes_ Try.func38 (by kernel_rfl) rfl #[.agg #[.int .i64 ((rd_T41 l0 x5_1).f0), .slice A199_1 ((rd_T41 l0 x5_1).f1).length c199_1], .agg #[.int .i64 ((rd_T41 l1 x5_1).f0), .slice A200_1 ((rd_T41 l1 x5_1).f1).length c200_1]] (by rfl) rfl rfl ar_ ?_
        with_reducible refine (laws_eqWords.calls k1 ((rd_T41 l0 x5_1).f0) _ _ ((rd_T41 l0 x5_1).f1) ((rd_T41 l1 x5_1).f0) _ _ ((rd_T41 l1 x5_1).f1) false _ ?side1 ?side2 ?side3 ?side4 A7.out).mono ?_
        (case side1 => exact kC_ (Kd.C_below HR199_1.out HB.out))
        (case side2 => exact HC199_1.out)
        (case side3 => exact kC_ (Kd.C_below HR200_1.out HB.out))
        (case side4 => exact HC200_1.out)
        rintro e w12 ⟨rfl, hb⟩
        refine ⟨_, rfl, ?_⟩
        replace HB := (bs_ HB hb); (try clear hb); (try clear hb2); (try clear hk); (try clear hi)
        refine hK.out _ _ ⟨(cc_ HB hw199_0), (cc_ HB hw199_1), (cc_ HB hw200_0), (cc_ HB hw200_1)⟩ (fun hHeld => ?_)
        clear hK K; refine nm_ 25 ?_; refine pu_ (i := 9) (N := some 26) HT_ ?_
        refine done_ (done_of HT_.out (by kernel_rfl)) ?_
        try go_wp2
        go_ret
        exact ⟨by first | rfl | (simp [errW_none, errW_some] <;> rfl) | (simp [*, errW_none, errW_some] <;> rfl), hbA_ HB.out⟩
      ·rw [if_neg c6] at H
       exact absurd H (by simp)
     ·rw [if_neg c5] at H
      exact absurd H (by simp)
    ·rw [if_neg c4] at H
     have c4b0 : decide (x5_1 < (l0.length : Int)) = false := decide_eq_false c4
     clear c4
     obtain rfl := Option.some.inj H
     go_wp2
     go_ret
     exact ⟨by first | rfl | (simp [errW_none, errW_some] <;> rfl) | (simp [*, errW_none, errW_some] <;> rfl), hbA_ HB.out⟩
 ·rw [if_neg c3] at H
  have c3b0 : ((l0.length : Int) == (l1.length : Int)) = false := beq_eq_false_iff_ne.mpr c3
  have c3b1 : ((l0.length : Int) != (l1.length : Int)) = true := bne_iff_ne.mpr c3
  have c3b2 : (l0.length == l1.length) = false := by first | simpa using c3 | (simp at c3 ⊢; omega)
  obtain rfl := Option.some.inj H
  go_enter Try.func41, Try.ntmps41
  go_wp2
  go_ret
  exact ⟨by first | rfl | (simp [errW_none, errW_some] <;> rfl) | (simp [*, errW_none, errW_some] <;> rfl), hbA_ HB.out⟩
def laws_eqIntS.l0 : Nat → List Int → List Int → Int → Option (Bool)
 | 0, _, _, _ => none
 | k + 1, x0, x1, x5 => if x5 < (x0.length : Int) then (if 0 ≤ x5 then (if x5 < (x1.length : Int) then (if (rd x0 x5) = (rd x1 x5) then (laws_eqIntS.l0 k x0 x1 (wrap64 (x5 + 1))) else (some false)) else (none)) else (none)) else (some true)
def laws_eqIntS.f (k : Nat) (l0 : List Int) (l1 : List Int) : Option (Bool) := if (l0.length : Int) = (l1.length : Int) then (laws_eqIntS.l0 k l0 l1 0) else (some false)
theorem laws_eqIntS.mono_l : ∀ k, (∀ y0 y1 y2, LeO (laws_eqIntS.l0 k y0 y1 y2) (laws_eqIntS.l0 (k + 1) y0 y1 y2))
 | 0 => fun _ _ _ r h => by simp [laws_eqIntS.l0] at h
 | k + 1 => by
  have ih0 := laws_eqIntS.mono_l k
  ·intro y0 y1 y2
   unfold laws_eqIntS.l0
   repeat' first | (with_reducible first | apply ih0 | exact LeO.refl _ | exact LeO.none _ | refine LeO.ite ?_ ?_ | refine LeO.bind ?_ fun _ => ?_) | apply ih0 | exact LeO.none _ | refine LeO.ite ?_ ?_ | refine LeO.bind ?_ fun _ => ?_
theorem laws_eqIntS.mono : ∀ a0 a1 k, LeO (laws_eqIntS.f k a0 a1) (laws_eqIntS.f (k + 1) a0 a1) := by
 intro a0 a1 k
 have ih0 := laws_eqIntS.mono_l k
 unfold laws_eqIntS.f
 repeat' first | (with_reducible first | apply ih0 | exact LeO.refl _ | exact LeO.none _ | refine LeO.ite ?_ ?_ | refine LeO.bind ?_ fun _ => ?_) | apply ih0 | exact LeO.none _ | refine LeO.ite ?_ ?_ | refine LeO.bind ?_ fun _ => ?_
set_option maxHeartbeats 8000000 in
set_option maxRecDepth 100000 in
theorem laws_eqIntS.calls (k : Nat) (A0 : Option Addr) (c0 : Nat) (l0 : List Int) (A1 : Option Addr) (c1 : Nat) (l1 : List Int) (r : Bool) (w : World) (hr0 : Kd.C (Kd.int .i64) w A0 l0.length l0) (hc0 : l0.length ≤ c0) (hr1 : Kd.C (Kd.int .i64) w A1 l1.length l1) (hc1 : l1.length ≤ c1) (h : laws_eqIntS.f k l0 l1 = some r) :
  Calls Try.prog 51 #[.slice A0 l0.length c0, .slice A1 l1.length c1] w fun e w' => e = .returned (.bool r) ∧ Drawn0 w w' := by
 have HR0 := Aside0.mk hr0; have HC0 := Aside0.mk hc0; clear hr0 hc0; have HR1 := Aside0.mk hr1; have HC1 := Aside0.mk hc1; clear hr1 hc1
 have H : (if (l0.length : Int) = (l1.length : Int) then (laws_eqIntS.l0 k l0 l1 0) else (some false)) = some r := h
 clear h
 by_cases c3 : (l0.length : Int) = (l1.length : Int)
 ·rw [if_pos c3] at H
  have c3b0 : ((l0.length : Int) == (l1.length : Int)) = true := beq_iff_eq.mpr c3
  have c3b1 : ((l0.length : Int) != (l1.length : Int)) = false := bne_eq_false_iff_eq.mpr c3
  have c3b2 : (l0.length == l1.length) = true := by first | simpa using c3 | (simp at c3 ⊢; omega)
  clear c3
  have H' := Aside0.mk H
  clear H
  go_enter Try.func51, Try.ntmps51
  go_wp2
  repeat (go_quiet (fail); try go_wp2)
  go_loopg [5] k (fun kq v5 w' => ∃ (x5_1 : Int), v5 = .int .i64 x5_1 ∧ Aside0 (laws_eqIntS.l0 kq l0 l1 x5_1 = some r) ∧ Aside0 (kq ≤ k) ∧ Drawn0 w w')
  case atStart => exact ⟨(0), (by first | rfl | (simp; done) | (simp [*]; done)), H', ⟨Nat.le_refl _⟩, by repeat (first | exact Drawn0.refl _ | apply Drawn0.step)⟩
  case round =>
   clear H'; (try clear c1); (try clear p2); (try clear c3); (try clear c3b0); (try clear c3b1); (try clear c3b2)
   obtain ⟨x5_1, rfl, HA, HK1, ⟨m1, rfl⟩⟩ := hrel
   cases gk with
   | zero => exact absurd HA.out (by simp [laws_eqIntS.l0])
   | succ k1 =>
    have H := HA.out; clear HA
    simp only [laws_eqIntS.l0] at H
    by_cases c4 : x5_1 < (l0.length : Int)
    ·rw [if_pos c4] at H
     have c4b0 : decide (x5_1 < (l0.length : Int)) = true := decide_eq_true c4
     clear c4
     by_cases c5 : 0 ≤ x5_1
     ·rw [if_pos c5] at H
      have c5b0 : decide (0 ≤ x5_1) = true := decide_eq_true c5
      clear c5
      by_cases c6 : x5_1 < (l1.length : Int)
      ·rw [if_pos c6] at H
       have c6b0 : decide (x5_1 < (l1.length : Int)) = true := decide_eq_true c6
       clear c6
       by_cases c7 : (rd l0 x5_1) = (rd l1 x5_1)
       ·rw [if_pos c7] at H
        have c7b0 : ((rd l0 x5_1) == (rd l1 x5_1)) = true := beq_iff_eq.mpr c7
        have c7b1 : ((rd l0 x5_1) != (rd l1 x5_1)) = false := bne_eq_false_iff_eq.mpr c7
        clear c7
        have H' := Aside0.mk H
        clear H
        have p202 : 0 ≤ (x5_1 : Int) := of_decide_eq_true (by first | (with_reducible assumption) | assumption)
        have q202 : x5_1 < (l0.length : Int) := of_decide_eq_true (by first | (with_reducible assumption) | assumption)
        obtain ⟨ad202, e202, hx202_0⟩ := Kd.at_int HR0.out x5_1 p202 q202
        cases e202
        replace p202 := eq_true p202
        replace q202 := eq_true q202
        have p203 : 0 ≤ (x5_1 : Int) := of_decide_eq_true (by first | (with_reducible assumption) | assumption)
        have q203 : x5_1 < (l1.length : Int) := of_decide_eq_true (by first | (with_reducible assumption) | assumption)
        obtain ⟨ad203, e203, hx203_0⟩ := Kd.at_int HR1.out x5_1 p203 q203
        cases e203
        replace p203 := eq_true p203
        replace q203 := eq_true q203
        go_wp2
        repeat (go_quiet (fail); try go_wp2)
        go_roundg k1
        case measure => have := HK1.out; omega
        case rel => exact ⟨(wrap64 (x5_1 + 1)), (by first | rfl | (simp; done) | (simp [*]; done)), H', ⟨by have := HK1.out; omega⟩, by repeat (first | exact Drawn0.refl _ | apply Drawn0.step)⟩
       ·rw [if_neg c7] at H
        have c7b0 : ((rd l0 x5_1) == (rd l1 x5_1)) = false := beq_eq_false_iff_ne.mpr c7
        have c7b1 : ((rd l0 x5_1) != (rd l1 x5_1)) = true := bne_iff_ne.mpr c7
        obtain rfl := Option.some.inj H
        have p202 : 0 ≤ (x5_1 : Int) := of_decide_eq_true (by first | (with_reducible assumption) | assumption)
        have q202 : x5_1 < (l0.length : Int) := of_decide_eq_true (by first | (with_reducible assumption) | assumption)
        obtain ⟨ad202, e202, hx202_0⟩ := Kd.at_int HR0.out x5_1 p202 q202
        cases e202
        replace p202 := eq_true p202
        replace q202 := eq_true q202
        have p203 : 0 ≤ (x5_1 : Int) := of_decide_eq_true (by first | (with_reducible assumption) | assumption)
        have q203 : x5_1 < (l1.length : Int) := of_decide_eq_true (by first | (with_reducible assumption) | assumption)
        obtain ⟨ad203, e203, hx203_0⟩ := Kd.at_int HR1.out x5_1 p203 q203
        cases e203
        replace p203 := eq_true p203
        replace q203 := eq_true q203
        go_wp2
        repeat (go_quiet (fail); try go_wp2)
        go_ret
        exact ⟨by first | rfl | (simp; done) | (simp [*]; done), by repeat (first | exact Drawn0.refl _ | apply Drawn0.step)⟩
      ·rw [if_neg c6] at H
       exact absurd H (by simp)
     ·rw [if_neg c5] at H
      exact absurd H (by simp)
    ·rw [if_neg c4] at H
     have c4b0 : decide (x5_1 < (l0.length : Int)) = false := decide_eq_false c4
     clear c4
     obtain rfl := Option.some.inj H
     go_wp2
     repeat (go_quiet (fail); try go_wp2)
     go_ret
     exact ⟨by first | rfl | (simp; done) | (simp [*]; done), by repeat (first | exact Drawn0.refl _ | apply Drawn0.step)⟩
 ·rw [if_neg c3] at H
  have c3b0 : ((l0.length : Int) == (l1.length : Int)) = false := beq_eq_false_iff_ne.mpr c3
  have c3b1 : ((l0.length : Int) != (l1.length : Int)) = true := bne_iff_ne.mpr c3
  have c3b2 : (l0.length == l1.length) = false := by first | simpa using c3 | (simp at c3 ⊢; omega)
  obtain rfl := Option.some.inj H
  go_enter Try.func51, Try.ntmps51
  go_wp2
  repeat (go_quiet (fail); try go_wp2)
  go_ret
  exact ⟨by first | rfl | (simp; done) | (simp [*]; done), by repeat (first | exact Drawn0.refl _ | apply Drawn0.step)⟩
def laws_eqClient.f (k : Nat) (a0_0 : Int) (l0_1 : List Int) (l0_2 : List (S41)) (l0_3 : List Int) (a1_0 : Int) (l1_1 : List Int) (l1_2 : List (S41)) (l1_3 : List Int) : Option (Bool) := if a0_0 = a1_0 then ((laws_eqIntS.f k l0_1 l1_1).bind fun t206 => (if t206 = true then ((laws_eqWordsS.f k l0_2 l1_2).bind fun t207 => (if t207 = true then ((laws_eqIntS.f k l0_3 l1_3).bind fun t208 => (if t208 = true then (some true) else (some false))) else (some false))) else (some false))) else (some false)
theorem laws_eqClient.mono : ∀ a0 a1 a2 a3 a4 a5 a6 a7 k, LeO (laws_eqClient.f k a0 a1 a2 a3 a4 a5 a6 a7) (laws_eqClient.f (k + 1) a0 a1 a2 a3 a4 a5 a6 a7) := by
 intro a0 a1 a2 a3 a4 a5 a6 a7 k
 unfold laws_eqClient.f
 repeat' first | (with_reducible first | apply laws_eqIntS.mono | apply laws_eqWordsS.mono | exact LeO.refl _ | exact LeO.none _ | refine LeO.ite ?_ ?_ | refine LeO.bind ?_ fun _ => ?_) | apply laws_eqIntS.mono | apply laws_eqWordsS.mono | exact LeO.none _ | refine LeO.ite ?_ ?_ | refine LeO.bind ?_ fun _ => ?_
set_option maxHeartbeats 8000000 in
set_option maxRecDepth 100000 in
theorem laws_eqClient.calls (k : Nat) (a0_0 : Int) (A0_1 : Option Addr) (c0_1 : Nat) (l0_1 : List Int) (A0_2 : Option Addr) (c0_2 : Nat) (l0_2 : List (S41)) (A0_3 : Option Addr) (c0_3 : Nat) (l0_3 : List Int) (a1_0 : Int) (A1_1 : Option Addr) (c1_1 : Nat) (l1_1 : List Int) (A1_2 : Option Addr) (c1_2 : Nat) (l1_2 : List (S41)) (A1_3 : Option Addr) (c1_3 : Nat) (l1_3 : List Int) (r : Bool) (w : World) (hr0_1 : Kd.C (Kd.int .i64) w A0_1 l0_1.length l0_1) (hc0_1 : l0_1.length ≤ c0_1) (hr0_2 : Kd.C k41 w A0_2 l0_2.length l0_2) (hc0_2 : l0_2.length ≤ c0_2) (hr0_3 : Kd.C (Kd.int .i64) w A0_3 l0_3.length l0_3) (hc0_3 : l0_3.length ≤ c0_3) (hr1_1 : Kd.C (Kd.int .i64) w A1_1 l1_1.length l1_1) (hc1_1 : l1_1.length ≤ c1_1) (hr1_2 : Kd.C k41 w A1_2 l1_2.length l1_2) (hc1_2 : l1_2.length ≤ c1_2) (hr1_3 : Kd.C (Kd.int .i64) w A1_3 l1_3.length l1_3) (hc1_3 : l1_3.length ≤ c1_3) (h : laws_eqClient.f k a0_0 l0_1 l0_2 l0_3 a1_0 l1_1 l1_2 l1_3 = some r) :
  Calls Try.prog 15 #[.agg #[.int .i64 a0_0, .slice A0_1 l0_1.length c0_1, .slice A0_2 l0_2.length c0_2, .slice A0_3 l0_3.length c0_3], .agg #[.int .i64 a1_0, .slice A1_1 l1_1.length c1_1, .slice A1_2 l1_2.length c1_2, .slice A1_3 l1_3.length c1_3]] w fun e w' => e = .returned (.bool r) ∧ Below w.heap.size w w' := by
 have hu30 := Try.underlying30; have HR0_1 := Aside0.mk hr0_1; have HC0_1 := Aside0.mk hc0_1; clear hr0_1 hc0_1; have HR0_2 := Aside0.mk hr0_2; have HC0_2 := Aside0.mk hc0_2; clear hr0_2 hc0_2; have HR0_3 := Aside0.mk hr0_3; have HC0_3 := Aside0.mk hc0_3; clear hr0_3 hc0_3; have HR1_1 := Aside0.mk hr1_1; have HC1_1 := Aside0.mk hc1_1; clear hr1_1 hc1_1; have HR1_2 := Aside0.mk hr1_2; have HC1_2 := Aside0.mk hc1_2; clear hr1_2 hc1_2; have HR1_3 := Aside0.mk hr1_3; have HC1_3 := Aside0.mk hc1_3; clear hr1_3 hc1_3
 have HB := Aside0.mk (Below.refl w.heap.size w)
 have H : (if a0_0 = a1_0 then ((laws_eqIntS.f k l0_1 l1_1).bind fun t206 => (if t206 = true then ((laws_eqWordsS.f k l0_2 l1_2).bind fun t207 => (if t207 = true then ((laws_eqIntS.f k l0_3 l1_3).bind fun t208 => (if t208 = true then (some true) else (some false))) else (some false))) else (some false))) else (some false)) = some r := h
 clear h
 by_cases c3 : a0_0 = a1_0
 ·rw [if_pos c3] at H
  have c3b0 : (a0_0 == a1_0) = true := beq_iff_eq.mpr c3
  have c3b1 : (a0_0 != a1_0) = false := bne_eq_false_iff_eq.mpr c3
  clear c3
  replace H := Option.bind_eq_some_iff.mp H
  obtain ⟨t206, A40, H⟩ := H
  (try dsimp only at H)
  have A4 := Aside0.mk A40; clear A40
  by_cases c5 : t206 = true
  ·subst c5
   rw [if_pos rfl] at H
   replace H := Option.bind_eq_some_iff.mp H
   obtain ⟨t207, A60, H⟩ := H
   (try dsimp only at H)
   have A6 := Aside0.mk A60; clear A60
   by_cases c7 : t207 = true
   ·subst c7
    rw [if_pos rfl] at H
    replace H := Option.bind_eq_some_iff.mp H
    obtain ⟨t208, A80, H⟩ := H
    (try dsimp only at H)
    have A8 := Aside0.mk A80; clear A80
    by_cases c9 : t208 = true
    ·subst c9
     rw [if_pos rfl] at H
     obtain rfl := Option.some.inj H
     go_enter Try.func15, Try.ntmps15
     go_wp2_with (first | ((with_reducible refine gate_dst (N := 2) rfl ?_); refine box_ (N := 2) (cs := #[.int .i64 a0_0, .slice A0_1 l0_1.length c0_1, .slice A0_2 l0_2.length c0_2, .slice A0_3 l0_3.length c0_3]) (t := 30) (fun gb204 hg w10 hbox hb => ?_); have BK204 := Aside0.mk (hbox); have GW204 := ge_ hg HB; have GE204 := ge_ hg HB; replace HB := (bs_ HB hb); clear hb hbox hg) | ((with_reducible refine gate_dst (N := 3) rfl ?_); refine box_ (N := 3) (cs := #[.int .i64 a1_0, .slice A1_1 l1_1.length c1_1, .slice A1_2 l1_2.length c1_2, .slice A1_3 l1_3.length c1_3]) (t := 30) (fun gb205 hg w11 hbox hb => ?_); have BK205 := Aside0.mk (hbox); have GW205 := ge_ hg HB; have GE205 := ge_ hg HB; replace HB := (bs_ HB hb); have NB204_205 := nl_ hg BK204; have NB205_204 := ng_ hg BK204; replace BK204 := (bbA_ BK204 hb); clear hb hbox hg; have hnb12 := NB204_205.out; have hnc12 := NB205_204.out; have Z13 := zz4 BK204; have Z14 := zz4 BK205) | ((with_reducible refine gate_callee (f := 51) rfl ?_); refine goesL_ (some 14) rfl rfl Try.func51 (by kernel_rfl) rfl #[.slice A0_1 l0_1.length c0_1, .slice A1_1 l1_1.length c1_1] rfl ar_ ?_; (with_reducible refine (laws_eqIntS.calls k _ _ l0_1 _ _ l1_1 true _ ?side1 ?side2 ?side3 ?side4 A4.out).mono ?_); (case side1 => exact kC_ (Kd.C_below HR0_1.out HB.out)); (case side2 => exact HC0_1.out); (case side3 => exact kC_ (Kd.C_below HR1_1.out HB.out)); (case side4 => exact HC1_1.out); rintro e w' ⟨rfl, ⟨nd, rfl⟩⟩; refine ⟨_, rfl, ?_⟩) | ((with_reducible refine gate_callee (f := 41) rfl ?_); refine goesL_ (some 20) rfl rfl Try.func41 (by kernel_rfl) rfl #[.slice A0_2 l0_2.length c0_2, .slice A1_2 l1_2.length c1_2] rfl ar_ ?_; (with_reducible refine (laws_eqWordsS.calls k _ _ l0_2 _ _ l1_2 true _ ?side1 ?side2 ?side3 ?side4 A6.out).mono ?_); (case side1 => exact kC_ (Kd.C_below HR0_2.out (hbA_ HB.out))); (case side2 => exact HC0_2.out); (case side3 => exact kC_ (Kd.C_below HR1_2.out (hbA_ HB.out))); (case side4 => exact HC1_2.out); rintro e w15 ⟨rfl, hb⟩; refine ⟨_, rfl, ?_⟩; replace BK204 := (bbA_ BK204 hb); replace BK205 := (bbA_ BK205 hb); replace HB := (bs_ HB hb); (try clear hb); (try clear hb2); (try clear hk); (try clear hi); have Z16 := zz4 BK204; have Z17 := zz4 BK205) | ((with_reducible refine gate_callee (f := 51) rfl ?_); refine goesL_ (some 26) rfl rfl Try.func51 (by kernel_rfl) rfl #[.slice A0_3 l0_3.length c0_3, .slice A1_3 l1_3.length c1_3] rfl ar_ ?_; (with_reducible refine (laws_eqIntS.calls k _ _ l0_3 _ _ l1_3 true _ ?side1 ?side2 ?side3 ?side4 A8.out).mono ?_); (case side1 => exact kC_ (Kd.C_below HR0_3.out HB.out)); (case side2 => exact HC0_3.out); (case side3 => exact kC_ (Kd.C_below HR1_3.out HB.out)); (case side4 => exact HC1_3.out); rintro e w' ⟨rfl, ⟨nd, rfl⟩⟩; refine ⟨_, rfl, ?_⟩))
     go_ret
     exact ⟨by first | rfl | (simp [errW_none, errW_some] <;> rfl) | (simp [*, errW_none, errW_some] <;> rfl), hbA_ HB.out⟩
    ·replace c9 := Bool.eq_false_iff.mpr c9
     subst c9
     rw [if_neg (show ¬ (false = true) by decide)] at H
     obtain rfl := Option.some.inj H
     go_enter Try.func15, Try.ntmps15
     go_wp2_with (first | ((with_reducible refine gate_dst (N := 2) rfl ?_); refine box_ (N := 2) (cs := #[.int .i64 a0_0, .slice A0_1 l0_1.length c0_1, .slice A0_2 l0_2.length c0_2, .slice A0_3 l0_3.length c0_3]) (t := 30) (fun gb204 hg w18 hbox hb => ?_); have BK204 := Aside0.mk (hbox); have GW204 := ge_ hg HB; have GE204 := ge_ hg HB; replace HB := (bs_ HB hb); clear hb hbox hg) | ((with_reducible refine gate_dst (N := 3) rfl ?_); refine box_ (N := 3) (cs := #[.int .i64 a1_0, .slice A1_1 l1_1.length c1_1, .slice A1_2 l1_2.length c1_2, .slice A1_3 l1_3.length c1_3]) (t := 30) (fun gb205 hg w19 hbox hb => ?_); have BK205 := Aside0.mk (hbox); have GW205 := ge_ hg HB; have GE205 := ge_ hg HB; replace HB := (bs_ HB hb); have NB204_205 := nl_ hg BK204; have NB205_204 := ng_ hg BK204; replace BK204 := (bbA_ BK204 hb); clear hb hbox hg; have hnb20 := NB204_205.out; have hnc20 := NB205_204.out; have Z21 := zz4 BK204; have Z22 := zz4 BK205) | ((with_reducible refine gate_callee (f := 51) rfl ?_); refine goesL_ (some 14) rfl rfl Try.func51 (by kernel_rfl) rfl #[.slice A0_1 l0_1.length c0_1, .slice A1_1 l1_1.length c1_1] rfl ar_ ?_; (with_reducible refine (laws_eqIntS.calls k _ _ l0_1 _ _ l1_1 true _ ?side1 ?side2 ?side3 ?side4 A4.out).mono ?_); (case side1 => exact kC_ (Kd.C_below HR0_1.out HB.out)); (case side2 => exact HC0_1.out); (case side3 => exact kC_ (Kd.C_below HR1_1.out HB.out)); (case side4 => exact HC1_1.out); rintro e w' ⟨rfl, ⟨nd, rfl⟩⟩; refine ⟨_, rfl, ?_⟩) | ((with_reducible refine gate_callee (f := 41) rfl ?_); refine goesL_ (some 20) rfl rfl Try.func41 (by kernel_rfl) rfl #[.slice A0_2 l0_2.length c0_2, .slice A1_2 l1_2.length c1_2] rfl ar_ ?_; (with_reducible refine (laws_eqWordsS.calls k _ _ l0_2 _ _ l1_2 true _ ?side1 ?side2 ?side3 ?side4 A6.out).mono ?_); (case side1 => exact kC_ (Kd.C_below HR0_2.out (hbA_ HB.out))); (case side2 => exact HC0_2.out); (case side3 => exact kC_ (Kd.C_below HR1_2.out (hbA_ HB.out))); (case side4 => exact HC1_2.out); rintro e w23 ⟨rfl, hb⟩; refine ⟨_, rfl, ?_⟩; replace BK204 := (bbA_ BK204 hb); replace BK205 := (bbA_ BK205 hb); replace HB := (bs_ HB hb); (try clear hb); (try clear hb2); (try clear hk); (try clear hi); have Z24 := zz4 BK204; have Z25 := zz4 BK205) | ((with_reducible refine gate_callee (f := 51) rfl ?_); refine goesL_ (some 26) rfl rfl Try.func51 (by kernel_rfl) rfl #[.slice A0_3 l0_3.length c0_3, .slice A1_3 l1_3.length c1_3] rfl ar_ ?_; (with_reducible refine (laws_eqIntS.calls k _ _ l0_3 _ _ l1_3 false _ ?side1 ?side2 ?side3 ?side4 A8.out).mono ?_); (case side1 => exact kC_ (Kd.C_below HR0_3.out HB.out)); (case side2 => exact HC0_3.out); (case side3 => exact kC_ (Kd.C_below HR1_3.out HB.out)); (case side4 => exact HC1_3.out); rintro e w' ⟨rfl, ⟨nd, rfl⟩⟩; refine ⟨_, rfl, ?_⟩))
     go_ret
     exact ⟨by first | rfl | (simp [errW_none, errW_some] <;> rfl) | (simp [*, errW_none, errW_some] <;> rfl), hbA_ HB.out⟩
   ·replace c7 := Bool.eq_false_iff.mpr c7
    subst c7
    rw [if_neg (show ¬ (false = true) by decide)] at H
    obtain rfl := Option.some.inj H
    go_enter Try.func15, Try.ntmps15
    go_wp2_with (first | ((with_reducible refine gate_dst (N := 2) rfl ?_); refine box_ (N := 2) (cs := #[.int .i64 a0_0, .slice A0_1 l0_1.length c0_1, .slice A0_2 l0_2.length c0_2, .slice A0_3 l0_3.length c0_3]) (t := 30) (fun gb204 hg w26 hbox hb => ?_); have BK204 := Aside0.mk (hbox); have GW204 := ge_ hg HB; have GE204 := ge_ hg HB; replace HB := (bs_ HB hb); clear hb hbox hg) | ((with_reducible refine gate_dst (N := 3) rfl ?_); refine box_ (N := 3) (cs := #[.int .i64 a1_0, .slice A1_1 l1_1.length c1_1, .slice A1_2 l1_2.length c1_2, .slice A1_3 l1_3.length c1_3]) (t := 30) (fun gb205 hg w27 hbox hb => ?_); have BK205 := Aside0.mk (hbox); have GW205 := ge_ hg HB; have GE205 := ge_ hg HB; replace HB := (bs_ HB hb); have NB204_205 := nl_ hg BK204; have NB205_204 := ng_ hg BK204; replace BK204 := (bbA_ BK204 hb); clear hb hbox hg; have hnb28 := NB204_205.out; have hnc28 := NB205_204.out; have Z29 := zz4 BK204; have Z30 := zz4 BK205) | ((with_reducible refine gate_callee (f := 51) rfl ?_); refine goesL_ (some 14) rfl rfl Try.func51 (by kernel_rfl) rfl #[.slice A0_1 l0_1.length c0_1, .slice A1_1 l1_1.length c1_1] rfl ar_ ?_; (with_reducible refine (laws_eqIntS.calls k _ _ l0_1 _ _ l1_1 true _ ?side1 ?side2 ?side3 ?side4 A4.out).mono ?_); (case side1 => exact kC_ (Kd.C_below HR0_1.out HB.out)); (case side2 => exact HC0_1.out); (case side3 => exact kC_ (Kd.C_below HR1_1.out HB.out)); (case side4 => exact HC1_1.out); rintro e w' ⟨rfl, ⟨nd, rfl⟩⟩; refine ⟨_, rfl, ?_⟩) | ((with_reducible refine gate_callee (f := 41) rfl ?_); refine goesL_ (some 20) rfl rfl Try.func41 (by kernel_rfl) rfl #[.slice A0_2 l0_2.length c0_2, .slice A1_2 l1_2.length c1_2] rfl ar_ ?_; (with_reducible refine (laws_eqWordsS.calls k _ _ l0_2 _ _ l1_2 false _ ?side1 ?side2 ?side3 ?side4 A6.out).mono ?_); (case side1 => exact kC_ (Kd.C_below HR0_2.out (hbA_ HB.out))); (case side2 => exact HC0_2.out); (case side3 => exact kC_ (Kd.C_below HR1_2.out (hbA_ HB.out))); (case side4 => exact HC1_2.out); rintro e w31 ⟨rfl, hb⟩; refine ⟨_, rfl, ?_⟩; replace BK204 := (bbA_ BK204 hb); replace BK205 := (bbA_ BK205 hb); replace HB := (bs_ HB hb); (try clear hb); (try clear hb2); (try clear hk); (try clear hi)))
    go_ret
    exact ⟨by first | rfl | (simp [errW_none, errW_some] <;> rfl) | (simp [*, errW_none, errW_some] <;> rfl), hbA_ HB.out⟩
  ·replace c5 := Bool.eq_false_iff.mpr c5
   subst c5
   rw [if_neg (show ¬ (false = true) by decide)] at H
   obtain rfl := Option.some.inj H
   go_enter Try.func15, Try.ntmps15
   go_wp2_with (first | ((with_reducible refine gate_dst (N := 2) rfl ?_); refine box_ (N := 2) (cs := #[.int .i64 a0_0, .slice A0_1 l0_1.length c0_1, .slice A0_2 l0_2.length c0_2, .slice A0_3 l0_3.length c0_3]) (t := 30) (fun gb204 hg w32 hbox hb => ?_); have BK204 := Aside0.mk (hbox); have GW204 := ge_ hg HB; have GE204 := ge_ hg HB; replace HB := (bs_ HB hb); clear hb hbox hg) | ((with_reducible refine gate_dst (N := 3) rfl ?_); refine box_ (N := 3) (cs := #[.int .i64 a1_0, .slice A1_1 l1_1.length c1_1, .slice A1_2 l1_2.length c1_2, .slice A1_3 l1_3.length c1_3]) (t := 30) (fun gb205 hg w33 hbox hb => ?_); have BK205 := Aside0.mk (hbox); have GW205 := ge_ hg HB; have GE205 := ge_ hg HB; replace HB := (bs_ HB hb); have NB204_205 := nl_ hg BK204; have NB205_204 := ng_ hg BK204; replace BK204 := (bbA_ BK204 hb); clear hb hbox hg; have hnb34 := NB204_205.out; have hnc34 := NB205_204.out; have Z35 := zz4 BK204; have Z36 := zz4 BK205) | ((with_reducible refine gate_callee (f := 51) rfl ?_); refine goesL_ (some 14) rfl rfl Try.func51 (by kernel_rfl) rfl #[.slice A0_1 l0_1.length c0_1, .slice A1_1 l1_1.length c1_1] rfl ar_ ?_; (with_reducible refine (laws_eqIntS.calls k _ _ l0_1 _ _ l1_1 false _ ?side1 ?side2 ?side3 ?side4 A4.out).mono ?_); (case side1 => exact kC_ (Kd.C_below HR0_1.out HB.out)); (case side2 => exact HC0_1.out); (case side3 => exact kC_ (Kd.C_below HR1_1.out HB.out)); (case side4 => exact HC1_1.out); rintro e w' ⟨rfl, ⟨nd, rfl⟩⟩; refine ⟨_, rfl, ?_⟩))
   go_ret
   exact ⟨by first | rfl | (simp [errW_none, errW_some] <;> rfl) | (simp [*, errW_none, errW_some] <;> rfl), hbA_ HB.out⟩
 ·rw [if_neg c3] at H
  have c3b0 : (a0_0 == a1_0) = false := beq_eq_false_iff_ne.mpr c3
  have c3b1 : (a0_0 != a1_0) = true := bne_iff_ne.mpr c3
  obtain rfl := Option.some.inj H
  go_enter Try.func15, Try.ntmps15
  go_wp2_with (first | ((with_reducible refine gate_dst (N := 2) rfl ?_); refine box_ (N := 2) (cs := #[.int .i64 a0_0, .slice A0_1 l0_1.length c0_1, .slice A0_2 l0_2.length c0_2, .slice A0_3 l0_3.length c0_3]) (t := 30) (fun gb204 hg w37 hbox hb => ?_); have BK204 := Aside0.mk (hbox); have GW204 := ge_ hg HB; have GE204 := ge_ hg HB; replace HB := (bs_ HB hb); clear hb hbox hg) | ((with_reducible refine gate_dst (N := 3) rfl ?_); refine box_ (N := 3) (cs := #[.int .i64 a1_0, .slice A1_1 l1_1.length c1_1, .slice A1_2 l1_2.length c1_2, .slice A1_3 l1_3.length c1_3]) (t := 30) (fun gb205 hg w38 hbox hb => ?_); have BK205 := Aside0.mk (hbox); have GW205 := ge_ hg HB; have GE205 := ge_ hg HB; replace HB := (bs_ HB hb); have NB204_205 := nl_ hg BK204; have NB205_204 := ng_ hg BK204; replace BK204 := (bbA_ BK204 hb); clear hb hbox hg; have hnb39 := NB204_205.out; have hnc39 := NB205_204.out; have Z40 := zz4 BK204; have Z41 := zz4 BK205))
  go_ret
  exact ⟨by first | rfl | (simp [errW_none, errW_some] <;> rfl) | (simp [*, errW_none, errW_some] <;> rfl), hbA_ HB.out⟩
def laws_FnExactClientOk.f (k : Nat) (a0_0 : Int) (l0_1 : List Int) (l0_2 : List (S57)) (l0_3 : List Int) : Option (Bool) := (laws_szClient.f k a0_0 l0_1 l0_2 l0_3 1048576).bind fun t210 => (if t210 < 0 then (some true) else ((laws_toClient.f k a0_0 l0_1 l0_2 l0_3).bind fun bt211 => ((spec_ClientOk.f k bt211.1 bt211.2.1 bt211.2.2.1 bt211.2.2.2).bind fun t221 => ((laws_toClient.f k a0_0 l0_1 l0_2 l0_3).bind fun bt222 => ((impl_ClientOk.f k bt222.1 bt222.2.1 bt222.2.2.1 bt222.2.2.2).bind fun t233 => (if (t233 != t221) = true then (some false) else ((laws_toClient.f k a0_0 l0_1 l0_2 l0_3).bind fun bt234 => ((laws_eqClient.f k bt222.1 bt222.2.1 bt222.2.2.1 bt222.2.2.2 bt234.1 bt234.2.1 bt234.2.2.1 bt234.2.2.2).bind fun t244 => (if t244 = true then (some true) else (some false))))))))))
theorem laws_FnExactClientOk.mono : ∀ a0 a1 a2 a3 k, LeO (laws_FnExactClientOk.f k a0 a1 a2 a3) (laws_FnExactClientOk.f (k + 1) a0 a1 a2 a3) := by
 intro a0 a1 a2 a3 k
 unfold laws_FnExactClientOk.f
 repeat' first | (with_reducible first | apply impl_ClientOk.mono | apply laws_eqClient.mono | apply laws_szClient.mono | apply laws_toClient.mono | apply spec_ClientOk.mono | exact LeO.refl _ | exact LeO.none _ | refine LeO.ite ?_ ?_ | refine LeO.bind ?_ fun _ => ?_) | apply impl_ClientOk.mono | apply laws_eqClient.mono | apply laws_szClient.mono | apply laws_toClient.mono | apply spec_ClientOk.mono | exact LeO.none _ | refine LeO.ite ?_ ?_ | refine LeO.bind ?_ fun _ => ?_
set_option maxHeartbeats 8000000 in
set_option maxRecDepth 100000 in
theorem laws_FnExactClientOk.calls (k : Nat) (a0_0 : Int) (A0_1 : Option Addr) (c0_1 : Nat) (l0_1 : List Int) (A0_2 : Option Addr) (c0_2 : Nat) (l0_2 : List (S57)) (A0_3 : Option Addr) (c0_3 : Nat) (l0_3 : List Int) (r : Bool) (w : World) (hr0_1 : Kd.C (Kd.int .i64) w A0_1 l0_1.length l0_1) (hc0_1 : l0_1.length ≤ c0_1) (hr0_2 : Kd.C k57 w A0_2 l0_2.length l0_2) (hc0_2 : l0_2.length ≤ c0_2) (hr0_3 : Kd.C (Kd.int .i64) w A0_3 l0_3.length l0_3) (hc0_3 : l0_3.length ≤ c0_3) (h : laws_FnExactClientOk.f k a0_0 l0_1 l0_2 l0_3 = some r) (hlw : r = true) :
  Calls Try.prog 3 #[.agg #[.int .i64 a0_0, .slice A0_1 l0_1.length c0_1, .slice A0_2 l0_2.length c0_2, .slice A0_3 l0_3.length c0_3]] w fun e w' => e = .returned (.bool r) ∧ Below w.heap.size w w' := by
 have hu25 := Try.underlying25; have hu30 := Try.underlying30; have HLW := Aside0.mk hlw; clear hlw; have HR0_1 := Aside0.mk hr0_1; have HC0_1 := Aside0.mk hc0_1; clear hr0_1 hc0_1; have HR0_2 := Aside0.mk hr0_2; have HC0_2 := Aside0.mk hc0_2; clear hr0_2 hc0_2; have HR0_3 := Aside0.mk hr0_3; have HC0_3 := Aside0.mk hc0_3; clear hr0_3 hc0_3
 have HB := Aside0.mk (Below.refl w.heap.size w)
 have H : ((laws_szClient.f k a0_0 l0_1 l0_2 l0_3 1048576).bind fun t210 => (if t210 < 0 then (some true) else ((laws_toClient.f k a0_0 l0_1 l0_2 l0_3).bind fun bt211 => ((spec_ClientOk.f k bt211.1 bt211.2.1 bt211.2.2.1 bt211.2.2.2).bind fun t221 => ((laws_toClient.f k a0_0 l0_1 l0_2 l0_3).bind fun bt222 => ((impl_ClientOk.f k bt222.1 bt222.2.1 bt222.2.2.1 bt222.2.2.2).bind fun t233 => (if (t233 != t221) = true then (some false) else ((laws_toClient.f k a0_0 l0_1 l0_2 l0_3).bind fun bt234 => ((laws_eqClient.f k bt222.1 bt222.2.1 bt222.2.2.1 bt222.2.2.2 bt234.1 bt234.2.1 bt234.2.2.1 bt234.2.2.2).bind fun t244 => (if t244 = true then (some true) else (some false))))))))))) = some r := h
 clear h
 replace H := Option.bind_eq_some_iff.mp H
 obtain ⟨t210, A20, H⟩ := H
 (try dsimp only at H)
 have A2 := Aside0.mk A20; clear A20
 by_cases c3 : t210 < 0
 ·rw [if_pos c3] at H
  have c3b0 : decide (t210 < 0) = true := decide_eq_true c3
  clear c3
  obtain rfl := Option.some.inj H
  go_enter Try.func3, Try.ntmps3
  go_wp2_with (first | ((with_reducible refine gate_dst (N := 1) rfl ?_); refine box_ (N := 1) (cs := #[.int .i64 a0_0, .slice A0_1 l0_1.length c0_1, .slice A0_2 l0_2.length c0_2, .slice A0_3 l0_3.length c0_3]) (t := 25) (fun gb209 hg w4 hbox hb => ?_); have BK209 := Aside0.mk (hbox); have GW209 := ge_ hg HB; have GE209 := ge_ hg HB; replace HB := (bs_ HB hb); clear hb hbox hg; have Z5 := zz4 BK209) | ((with_reducible refine gate_callee (f := 11) rfl ?_); refine goesL_ (some 9) rfl rfl Try.func11 (by kernel_rfl) rfl #[.agg #[.int .i64 a0_0, .slice A0_1 l0_1.length c0_1, .slice A0_2 l0_2.length c0_2, .slice A0_3 l0_3.length c0_3], .int .i64 1048576] rfl ar_ ?_; (with_reducible refine (laws_szClient.calls k a0_0 _ _ l0_1 _ _ l0_2 _ _ l0_3 1048576 t210 _ ?side1 ?side2 ?side3 ?side4 ?side5 ?side6 A2.out).mono ?_); (case side1 => exact kC_ (Kd.C_below HR0_1.out HB.out)); (case side2 => exact HC0_1.out); (case side3 => exact kC_ (Kd.C_below HR0_2.out HB.out)); (case side4 => exact HC0_2.out); (case side5 => exact kC_ (Kd.C_below HR0_3.out HB.out)); (case side6 => exact HC0_3.out); rintro e w6 ⟨rfl, hb⟩; refine ⟨_, rfl, ?_⟩; replace BK209 := (bbA_ BK209 hb); replace HB := (bs_ HB hb); (try clear hb); (try clear hb2); (try clear hk); (try clear hi)))
  go_ret
  exact ⟨by first | rfl | (simp [errW_none, errW_some] <;> rfl) | (simp [*, errW_none, errW_some] <;> rfl), hbA_ HB.out⟩
 ·rw [if_neg c3] at H
  have c3b0 : decide (t210 < 0) = false := decide_eq_false c3
  clear c3
  replace H := Option.bind_eq_some_iff.mp H
  obtain ⟨⟨t211, t212, t215, t218⟩, A70, H⟩ := H
  (try dsimp only at H)
  have A7 := Aside0.mk A70; clear A70
  replace H := Option.bind_eq_some_iff.mp H
  obtain ⟨t221, A80, H⟩ := H
  (try dsimp only at H)
  have A8 := Aside0.mk A80; clear A80
  replace H := Option.bind_eq_some_iff.mp H
  obtain ⟨⟨t222, t223, t226, t229⟩, A90, H⟩ := H
  (try dsimp only at H)
  have A9 := Aside0.mk A90; clear A90
  replace H := Option.bind_eq_some_iff.mp H
  obtain ⟨t233, A100, H⟩ := H
  (try dsimp only at H)
  have A10 := Aside0.mk A100; clear A100
  by_cases c11 : (t233 != t221) = true
  ·rw [if_pos c11] at H
   have c11b0 : (t233 != t221) = true := c11
   (try (have c11b1 : decide (t233 = t221) = false := by simpa using c11))
   (try (have c11b2 : (t233 == t221) = false := by simpa using c11))
   (try (have c11b3 : ¬ (t233 = t221) := by simpa using c11))
   clear c11
   exact absurd (Option.some.inj H) (by rw [HLW.out]; exact Bool.false_ne_true)
  ·rw [if_neg c11] at H
   have c11b0 : (t233 != t221) = false := by simpa using c11
   (try (have c11b1 : decide (t233 = t221) = true := by simpa using c11))
   (try (have c11b2 : (t233 == t221) = true := by simpa using c11))
   clear c11
   replace H := Option.bind_eq_some_iff.mp H
   obtain ⟨⟨t234, t235, t238, t241⟩, A120, H⟩ := H
   (try dsimp only at H)
   have A12 := Aside0.mk A120; clear A120
   replace H := Option.bind_eq_some_iff.mp H
   obtain ⟨t244, A130, H⟩ := H
   (try dsimp only at H)
   have A13 := Aside0.mk A130; clear A130
   by_cases c14 : t244 = true
   ·subst c14
    rw [if_pos rfl] at H
    obtain rfl := Option.some.inj H
    go_enter Try.func3, Try.ntmps3
    try go_wp2_with (first | ((with_reducible refine gate_dst (N := 1) rfl ?_); refine box_ (N := 1) (cs := #[.int .i64 a0_0, .slice A0_1 l0_1.length c0_1, .slice A0_2 l0_2.length c0_2, .slice A0_3 l0_3.length c0_3]) (t := 25) (fun gb209 hg w15 hbox hb => ?_); have BK209 := Aside0.mk (hbox); have GW209 := ge_ hg HB; have GE209 := ge_ hg HB; replace HB := (bs_ HB hb); clear hb hbox hg; have Z16 := zz4 BK209) | ((with_reducible refine gate_callee (f := 11) rfl ?_); refine goesL_ (some 9) rfl rfl Try.func11 (by kernel_rfl) rfl #[.agg #[.int .i64 a0_0, .slice A0_1 l0_1.length c0_1, .slice A0_2 l0_2.length c0_2, .slice A0_3 l0_3.length c0_3], .int .i64 1048576] rfl ar_ ?_; (with_reducible refine (laws_szClient.calls k a0_0 _ _ l0_1 _ _ l0_2 _ _ l0_3 1048576 t210 _ ?side1 ?side2 ?side3 ?side4 ?side5 ?side6 A2.out).mono ?_); (case side1 => exact kC_ (Kd.C_below HR0_1.out HB.out)); (case side2 => exact HC0_1.out); (case side3 => exact kC_ (Kd.C_below HR0_2.out HB.out)); (case side4 => exact HC0_2.out); (case side5 => exact kC_ (Kd.C_below HR0_3.out HB.out)); (case side6 => exact HC0_3.out); rintro e w17 ⟨rfl, hb⟩; refine ⟨_, rfl, ?_⟩; replace BK209 := (bbA_ BK209 hb); replace HB := (bs_ HB hb); (try clear hb); (try clear hb2); (try clear hk); (try clear hi); have Z18 := zz4 BK209) | ((with_reducible refine gate_callee (f := 13) rfl ?_); refine goesL_ (some 13) rfl rfl Try.func13 (by kernel_rfl) rfl #[.agg #[.int .i64 a0_0, .slice A0_1 l0_1.length c0_1, .slice A0_2 l0_2.length c0_2, .slice A0_3 l0_3.length c0_3]] rfl ar_ ?_; (with_reducible refine (laws_toClient.calls k a0_0 _ _ l0_1 _ _ l0_2 _ _ l0_3 t211 t212 t215 t218 _ ?side1 ?side2 ?side3 ?side4 ?side5 ?side6 A7.out).mono ?_); (case side1 => exact kC_ (Kd.C_below HR0_1.out HB.out)); (case side2 => exact HC0_1.out); (case side3 => exact kC_ (Kd.C_below HR0_2.out HB.out)); (case side4 => exact HC0_2.out); (case side5 => exact kC_ (Kd.C_below HR0_3.out HB.out)); (case side6 => exact HC0_3.out); rintro e w19 ⟨v213, v216, v219, rfl, ho0, ho1, ho2, hb⟩; refine ⟨_, rfl, ?_⟩; have HO214 := Aside0.mk (Kd.R_lower ho0 (below_size (hbA_ HB.out))); have HO217 := Aside0.mk (Kd.S_lower ho1 (below_size (hbA_ HB.out))); have HO220 := Aside0.mk (Kd.R_lower ho2 (below_size (hbA_ HB.out))); replace BK209 := (bbA_ BK209 hb); replace HB := (bs_ HB hb); (try clear hb); (try clear hb2); (try clear hk); (try clear hi); (try clear ho0); (try clear ho1); (try clear ho2); obtain ⟨Ao20, co20, eo20⟩ := Kd.R_slice HO214.out; subst eo20; obtain ⟨Ao21, co21, eo21⟩ := Kd.S_slice HO217.out; subst eo21; obtain ⟨Ao22, co22, eo22⟩ := Kd.R_slice HO220.out; subst eo22) | ((with_reducible refine gate_callee (f := 12) rfl ?_); refine goesL_ (some 14) rfl rfl Try.func12 (by kernel_rfl) rfl #[.agg #[.int .i64 t211, .slice Ao20 t212.length co20, .slice Ao21 t215.length co21, .slice Ao22 t218.length co22]] rfl ar_ ?_; (with_reducible refine (spec_ClientOk.calls k t211 _ _ t212 _ _ t215 _ _ t218 t221 _ ?side1 ?side2 ?side3 ?side4 ?side5 ?side6 A8.out).mono ?_); (case side1 => exact kC_ (Kd.R_reads' HO214.out).2.2); (case side2 => exact (Kd.R_reads' HO214.out).2.1); (case side3 => exact kC_ (Kd.S_reads' HO217.out).2.2); (case side4 => exact (Kd.S_reads' HO217.out).2.1); (case side5 => exact kC_ (Kd.R_reads' HO220.out).2.2); (case side6 => exact (Kd.R_reads' HO220.out).2.1); rintro e w23 ⟨rfl, hb⟩; refine ⟨_, rfl, ?_⟩; replace HO214 := Aside0.mk (Kd.R_below (kR_ HO214.out) hb); replace HO217 := Aside0.mk (Kd.S_below (kS_ HO217.out) hb); replace HO220 := Aside0.mk (Kd.R_below (kR_ HO220.out) hb); replace BK209 := (bbA_ BK209 hb); replace HB := (bs_ HB hb); (try clear hb); (try clear hb2); (try clear hk); (try clear hi); have Z24 := zz4 BK209) | ((with_reducible refine gate_callee (f := 13) rfl ?_); refine goesL_ (some 16) rfl rfl Try.func13 (by kernel_rfl) rfl #[.agg #[.int .i64 a0_0, .slice A0_1 l0_1.length c0_1, .slice A0_2 l0_2.length c0_2, .slice A0_3 l0_3.length c0_3]] rfl ar_ ?_; (with_reducible refine (laws_toClient.calls k a0_0 _ _ l0_1 _ _ l0_2 _ _ l0_3 t222 t223 t226 t229 _ ?side1 ?side2 ?side3 ?side4 ?side5 ?side6 A9.out).mono ?_); (case side1 => exact kC_ (Kd.C_below HR0_1.out HB.out)); (case side2 => exact HC0_1.out); (case side3 => exact kC_ (Kd.C_below HR0_2.out HB.out)); (case side4 => exact HC0_2.out); (case side5 => exact kC_ (Kd.C_below HR0_3.out HB.out)); (case side6 => exact HC0_3.out); rintro e w25 ⟨v224, v227, v230, rfl, ho0, ho1, ho2, hb⟩; refine ⟨_, rfl, ?_⟩; have HO225 := Aside0.mk (Kd.R_lower (Kd.R_new' (Kd.R_new' ho0 (Kd.R_lt (kR_ HO214.out))) (Kd.R_lt (kR_ HO220.out))) (below_size (hbA_ HB.out))); have HO228 := Aside0.mk (Kd.S_lower (Kd.S_new' ho1 (Kd.S_lt (kS_ HO217.out))) (below_size (hbA_ HB.out))); replace HO217 := Aside0.mk (Kd.S_elder' (kS_ HO217.out) (Kd.S_base ho1) hb); have HO231 := Aside0.mk (Kd.R_lower (Kd.R_new' (Kd.R_new' ho2 (Kd.R_lt (kR_ HO214.out))) (Kd.R_lt (kR_ HO220.out))) (below_size (hbA_ HB.out))); replace HO214 := Aside0.mk (Kd.R_mono (Kd.R_told (Kd.R_told (Kd.R_old (kR_ HO214.out) hb) (Kd.R_base ho0)) (Kd.R_base ho2)) (fun _ h_ => op1_ h_)); replace HO220 := Aside0.mk (Kd.R_mono (Kd.R_told (Kd.R_told (Kd.R_old (kR_ HO220.out) hb) (Kd.R_base ho0)) (Kd.R_base ho2)) (fun _ h_ => op1_ h_)); replace BK209 := (bbA_ BK209 hb); replace HB := (bs_ HB hb); (try clear hb); (try clear hb2); (try clear hk); (try clear hi); (try clear ho0); (try clear ho1); (try clear ho2)) | ((with_reducible refine gate_dst (N := 5) rfl ?_); refine box_ (N := 5) (cs := #[.int .i64 0, .slice none 0 0, .slice none 0 0, .slice none 0 0]) (t := 30) (fun gb232 hg w26 hbox hb => ?_); replace HO214 := Aside0.mk (Kd.R_below (kR_ HO214.out) hb); replace HO217 := Aside0.mk (Kd.S_below (kS_ HO217.out) hb); replace HO220 := Aside0.mk (Kd.R_below (kR_ HO220.out) hb); replace HO225 := Aside0.mk (Kd.R_below (kR_ HO225.out) hb); replace HO228 := Aside0.mk (Kd.S_below (kS_ HO228.out) hb); replace HO231 := Aside0.mk (Kd.R_below (kR_ HO231.out) hb); have BK232 := Aside0.mk (hbox); have GW232 := ge_ hg HB; have GE232 := ge_ hg HB; replace HB := (bs_ HB hb); have NB209_232 := nl_ hg BK209; have NB232_209 := ng_ hg BK209; replace BK209 := (bbA_ BK209 hb); clear hb hbox hg; have hnb27 := NB232_209.out; have hnc27 := NB209_232.out; have Z28 := zz4 BK232; obtain ⟨Ao29, co29, eo29⟩ := Kd.R_slice HO225.out; subst eo29; obtain ⟨Ao30, co30, eo30⟩ := Kd.S_slice HO228.out; subst eo30; obtain ⟨Ao31, co31, eo31⟩ := Kd.R_slice HO231.out; subst eo31) | ((with_reducible refine gate_callee (f := 14) rfl ?_); refine goesL_ (some 18) rfl rfl Try.func14 (by kernel_rfl) rfl #[.agg #[.int .i64 t222, .slice Ao29 t223.length co29, .slice Ao30 t226.length co30, .slice Ao31 t229.length co31]] rfl ar_ ?_; (with_reducible refine (impl_ClientOk.calls k t222 _ _ t223 _ _ t226 _ _ t229 t233 _ ?side1 ?side2 ?side3 ?side4 ?side5 ?side6 A10.out).mono ?_); (case side1 => refine (Kd.R_reads' (e := 3) (base := w.heap.size) (ok := fun k_ => ((some k_ ≠ (.slice Ao31 t229.length co31 : Value).ownBlock ∧ some k_ ≠ (.slice Ao20 t212.length co20 : Value).ownBlock) ∧ some k_ ≠ (.slice Ao22 t218.length co22 : Value).ownBlock)) (n := t223.length) (c := co29) ?_).2.2; exact (by refine kR_ ?_; exact (rfm_ ((Kd.R_types HO225.out BK232.out (by decide))) (fun _ h_ => op1_ h_)))); (case side2 => exact (Kd.R_reads' HO225.out).2.1); (case side3 => refine (Kd.S_reads' (e := 41) (base := w.heap.size) (ok := fun k_ => (True ∧ some k_ ≠ (.slice Ao21 t215.length co21 : Value).ownBlock)) (n := t226.length) (c := co30) ?_).2.2; exact (by refine kS_ ?_; exact (Kd.S_mono (Kd.S_far (p := ⟨gb232, 3, none⟩) (Kd.S_far (p := ⟨gb232, 2, none⟩) (Kd.S_far (p := ⟨gb232, 1, none⟩) (Kd.S_far (p := ⟨gb232, 0, none⟩) (Kd.S_types HO228.out BK232.out (by decide)) (fun _ hk => hk.2) (.int .i64 t222)) (fun _ hk => hk.2) (.slice Ao29 t223.length co29)) (fun _ hk => hk.2) (.slice Ao30 t226.length co30)) (fun _ hk => hk.2) (.slice Ao31 t229.length co31)) (fun _ h_ => op1_ h_)))); (case side4 => exact (Kd.S_reads' HO228.out).2.1); (case side5 => refine (Kd.R_reads' (e := 3) (base := w.heap.size) (ok := fun k_ => ((some k_ ≠ (.slice Ao29 t223.length co29 : Value).ownBlock ∧ some k_ ≠ (.slice Ao20 t212.length co20 : Value).ownBlock) ∧ some k_ ≠ (.slice Ao22 t218.length co22 : Value).ownBlock)) (n := t229.length) (c := co31) ?_).2.2; exact (by refine kR_ ?_; exact (rfm_ ((Kd.R_types HO231.out BK232.out (by decide))) (fun _ h_ => op1_ h_)))); (case side6 => exact (Kd.R_reads' HO231.out).2.1); rintro e w32 ⟨rfl, hb⟩; refine ⟨_, rfl, ?_⟩; replace HO214 := Aside0.mk (Kd.R_below (by refine kR_ ?_; exact (rfm_ ((Kd.R_types HO214.out BK232.out (by decide))) (fun _ h_ => op1_ h_))) hb); replace HO217 := Aside0.mk (Kd.S_below (by refine kS_ ?_; exact (Kd.S_mono (Kd.S_far (p := ⟨gb232, 3, none⟩) (Kd.S_far (p := ⟨gb232, 2, none⟩) (Kd.S_far (p := ⟨gb232, 1, none⟩) (Kd.S_far (p := ⟨gb232, 0, none⟩) (Kd.S_types HO217.out BK232.out (by decide)) (fun _ hk => hk.2) (.int .i64 t222)) (fun _ hk => hk.2) (.slice Ao29 t223.length co29)) (fun _ hk => hk.2) (.slice Ao30 t226.length co30)) (fun _ hk => hk.2) (.slice Ao31 t229.length co31)) (fun _ h_ => op1_ h_))) hb); replace HO220 := Aside0.mk (Kd.R_below (by refine kR_ ?_; exact (rfm_ ((Kd.R_types HO220.out BK232.out (by decide))) (fun _ h_ => op1_ h_))) hb); replace HO225 := Aside0.mk (Kd.R_below (by refine kR_ ?_; exact (rfm_ ((Kd.R_types HO225.out BK232.out (by decide))) (fun _ h_ => op1_ h_))) hb); replace HO228 := Aside0.mk (Kd.S_below (by refine kS_ ?_; exact (Kd.S_mono (Kd.S_far (p := ⟨gb232, 3, none⟩) (Kd.S_far (p := ⟨gb232, 2, none⟩) (Kd.S_far (p := ⟨gb232, 1, none⟩) (Kd.S_far (p := ⟨gb232, 0, none⟩) (Kd.S_types HO228.out BK232.out (by decide)) (fun _ hk => hk.2) (.int .i64 t222)) (fun _ hk => hk.2) (.slice Ao29 t223.length co29)) (fun _ hk => hk.2) (.slice Ao30 t226.length co30)) (fun _ hk => hk.2) (.slice Ao31 t229.length co31)) (fun _ h_ => op1_ h_))) hb); replace HO231 := Aside0.mk (Kd.R_below (by refine kR_ ?_; exact (rfm_ ((Kd.R_types HO231.out BK232.out (by decide))) (fun _ h_ => op1_ h_))) hb); replace BK209 := Aside0.mk (blk_below (g := gb209) (o := .cells #[.int .i64 a0_0, .slice A0_1 l0_1.length c0_1, .slice A0_2 l0_2.length c0_2, .slice A0_3 l0_3.length c0_3] 25 (0, 0)) (by exact kf_ BK209.out) hb); replace BK232 := Aside0.mk (blk_below (g := gb232) (o := .cells #[.int .i64 t222, .slice Ao29 t223.length co29, .slice Ao30 t226.length co30, .slice Ao31 t229.length co31] 30 (0, 0)) (by refine kb_ ?_; refine pz4 (cs := #[.int .i64 0, .slice none 0 0, .slice none 0 0, .slice none 0 0]) ?_; refine kb_ ?_; exact BK232.out) hb); replace HB := (bs_ HB hb); (try clear hb); (try clear hb2); (try clear hk); (try clear hi)))
    replace HO214 := Aside0.mk (Kd.R_drew HO214.out); replace HO217 := Aside0.mk (Kd.S_drew HO217.out); replace HO220 := Aside0.mk (Kd.R_drew HO220.out); replace HO225 := Aside0.mk (Kd.R_drew HO225.out); replace HO228 := Aside0.mk (Kd.S_drew HO228.out); replace HO231 := Aside0.mk (Kd.R_drew HO231.out); replace BK209 := Aside0.mk (blk_drew BK209.out); replace BK232 := Aside0.mk (blk_drew BK232.out); replace HB := (bd_ HB)
    refine start_ (n := 5) (S := fun w' => w'.cell? ⟨gb232, 0, none⟩ = some (.int .i64 t222) ∧ w'.cell? ⟨gb232, 1, none⟩ = some (.slice Ao29 t223.length co29) ∧ w'.cell? ⟨gb232, 2, none⟩ = some (.slice Ao30 t226.length co30) ∧ w'.cell? ⟨gb232, 3, none⟩ = some (.slice Ao31 t229.length co31) ∧ w'.cell? ⟨gb209, 0, none⟩ = some (.int .i64 a0_0) ∧ w'.cell? ⟨gb209, 1, none⟩ = some (.slice A0_1 l0_1.length c0_1) ∧ w'.cell? ⟨gb209, 2, none⟩ = some (.slice A0_2 l0_2.length c0_2) ∧ w'.cell? ⟨gb209, 3, none⟩ = some (.slice A0_3 l0_3.length c0_3)) (ds := []) #[false, false, false, false, false] (by kernel_rfl) rfl rfl ⟨bc_ BK232 0, bc_ BK232 1, bc_ BK232 2, bc_ BK232 3, bc_ BK209 0, bc_ BK209 1, bc_ BK209 2, bc_ BK209 3⟩ (fun hHeld => ?_)
    generalize w32.drew = w33 at HO214 HO217 HO220 HO225 HO228 HO231 BK209 BK232 HB hHeld ⊢
    refine take_ (i := 0) (N := some 22) (v := ?_) (a' := ?_) #[true, false, false, false, false] rfl rfl (by kernel_rfl) (fun _ _ _ h => h) (Or.inl ⟨by rfl, ?_⟩) hHeld ?_ ?_
    rotate_left
    ·rintro w' ⟨s0, s1, s2, s3, s4, s5, s6, s7⟩
     go_simp
     with_reducible rfl
    rotate_left
    ·simp only [Act.put, List.setIfInBounds_toArray, List.set_cons_zero, List.set_cons_succ, i64_w, i32_w]
     rfl
    refine take_ (i := 1) (N := some 23) (v := ?_) (a' := ?_) #[true, true, false, false, false] rfl rfl (by kernel_rfl) (fun _ _ _ h => h) (Or.inl ⟨by rfl, ?_⟩) hHeld ?_ ?_
    rotate_left
    ·rintro w' ⟨s0, s1, s2, s3, s4, s5, s6, s7⟩
     go_simp
     with_reducible rfl
    rotate_left
    ·simp only [Act.put, List.setIfInBounds_toArray, List.set_cons_zero, List.set_cons_succ, i64_w, i32_w]
     rfl
    refine one_ (i := 2) (N := some 24) #[true, true, true, false, false] rfl rfl (by kernel_rfl) (by decide) (fun K hK => ?_)
    refine goes_ Try.func13 (by kernel_rfl) rfl #[.agg #[.int .i64 a0_0, .slice A0_1 l0_1.length c0_1, .slice A0_2 l0_2.length c0_2, .slice A0_3 l0_3.length c0_3]] (by rfl) rfl rfl ar_ ?_
    with_reducible refine (laws_toClient.calls k a0_0 _ _ l0_1 _ _ l0_2 _ _ l0_3 t234 t235 t238 t241 _ ?side1 ?side2 ?side3 ?side4 ?side5 ?side6 A12.out).mono ?_
    (case side1 => exact kC_ (Kd.C_below HR0_1.out HB.out))
    (case side2 => exact HC0_1.out)
    (case side3 => exact kC_ (Kd.C_below HR0_2.out HB.out))
    (case side4 => exact HC0_2.out)
    (case side5 => exact kC_ (Kd.C_below HR0_3.out HB.out))
    (case side6 => exact HC0_3.out)
    rintro e w34 ⟨v236, v239, v242, rfl, ho0, ho1, ho2, hb⟩
    refine ⟨_, rfl, ?_⟩
    have HO237 := Aside0.mk (Kd.R_lower (Kd.R_new' (Kd.R_new' (Kd.R_new' (Kd.R_new' ho0 (Kd.R_lt (kR_ HO214.out))) (Kd.R_lt (kR_ HO220.out))) (Kd.R_lt (kR_ HO225.out))) (Kd.R_lt (kR_ HO231.out))) (below_size (hbA_ HB.out))); have HO240 := Aside0.mk (Kd.S_lower (Kd.S_new' (Kd.S_new' ho1 (Kd.S_lt (kS_ HO217.out))) (Kd.S_lt (kS_ HO228.out))) (below_size (hbA_ HB.out))); replace HO217 := Aside0.mk (Kd.S_elder' (kS_ HO217.out) (Kd.S_base ho1) hb); replace HO228 := Aside0.mk (Kd.S_elder' (kS_ HO228.out) (Kd.S_base ho1) hb); have HO243 := Aside0.mk (Kd.R_lower (Kd.R_new' (Kd.R_new' (Kd.R_new' (Kd.R_new' ho2 (Kd.R_lt (kR_ HO214.out))) (Kd.R_lt (kR_ HO220.out))) (Kd.R_lt (kR_ HO225.out))) (Kd.R_lt (kR_ HO231.out))) (below_size (hbA_ HB.out))); replace HO214 := Aside0.mk (Kd.R_mono (Kd.R_told (Kd.R_told (Kd.R_old (kR_ HO214.out) hb) (Kd.R_base ho0)) (Kd.R_base ho2)) (fun _ h_ => op1_ h_)); replace HO220 := Aside0.mk (Kd.R_mono (Kd.R_told (Kd.R_told (Kd.R_old (kR_ HO220.out) hb) (Kd.R_base ho0)) (Kd.R_base ho2)) (fun _ h_ => op1_ h_)); replace HO225 := Aside0.mk (Kd.R_mono (Kd.R_told (Kd.R_told (Kd.R_old (kR_ HO225.out) hb) (Kd.R_base ho0)) (Kd.R_base ho2)) (fun _ h_ => op1_ h_)); replace HO231 := Aside0.mk (Kd.R_mono (Kd.R_told (Kd.R_told (Kd.R_old (kR_ HO231.out) hb) (Kd.R_base ho0)) (Kd.R_base ho2)) (fun _ h_ => op1_ h_)); replace BK209 := (bbA_ BK209 hb); replace BK232 := (bbA_ BK232 hb); replace HB := (bs_ HB hb); (try clear hb); (try clear hb2); (try clear hk); (try clear hi); (try clear ho0); (try clear ho1); (try clear ho2)
    obtain ⟨Ao35, co35, eo35⟩ := Kd.R_slice HO237.out
    (first | subst eo35 | (injection eo35 with f1_ f2_ f3_; have f4_ := f1_.symm; have f5_ := f3_.symm; clear f1_ f2_ f3_; subst f4_; subst f5_))
    obtain ⟨Ao36, co36, eo36⟩ := Kd.S_slice HO240.out
    (first | subst eo36 | (injection eo36 with f1_ f2_ f3_; have f4_ := f1_.symm; have f5_ := f3_.symm; clear f1_ f2_ f3_; subst f4_; subst f5_))
    obtain ⟨Ao37, co37, eo37⟩ := Kd.R_slice HO243.out
    (first | subst eo37 | (injection eo37 with f1_ f2_ f3_; have f4_ := f1_.symm; have f5_ := f3_.symm; clear f1_ f2_ f3_; subst f4_; subst f5_))
    refine hK.out _ _ ⟨bc_ BK232 0, bc_ BK232 1, bc_ BK232 2, bc_ BK232 3, bc_ BK209 0, bc_ BK209 1, bc_ BK209 2, bc_ BK209 3⟩ (fun hHeld => ?_)
    clear hK K; refine nm_ 24 ?_
    refine one_ (i := 3) (N := some 25) #[true, true, true, true, false] rfl rfl (by kernel_rfl) (by decide) (fun K hK => ?_)
    refine goes_ Try.func15 (by kernel_rfl) rfl #[.agg #[.int .i64 t222, .slice Ao29 t223.length co29, .slice Ao30 t226.length co30, .slice Ao31 t229.length co31], .agg #[.int .i64 t234, .slice Ao35 t235.length co35, .slice Ao36 t238.length co36, .slice Ao37 t241.length co37]] (by rfl) rfl rfl ar_ ?_
    with_reducible refine (laws_eqClient.calls k t222 _ _ t223 _ _ t226 _ _ t229 t234 _ _ t235 _ _ t238 _ _ t241 true _ ?side1 ?side2 ?side3 ?side4 ?side5 ?side6 ?side7 ?side8 ?side9 ?side10 ?side11 ?side12 A13.out).mono ?_
    (case side1 => exact kC_ (Kd.R_reads' HO225.out).2.2)
    (case side2 => exact (Kd.R_reads' HO225.out).2.1)
    (case side3 => exact kC_ (Kd.S_reads' HO228.out).2.2)
    (case side4 => exact (Kd.S_reads' HO228.out).2.1)
    (case side5 => exact kC_ (Kd.R_reads' HO231.out).2.2)
    (case side6 => exact (Kd.R_reads' HO231.out).2.1)
    (case side7 => exact kC_ (Kd.R_reads' HO237.out).2.2)
    (case side8 => exact (Kd.R_reads' HO237.out).2.1)
    (case side9 => exact kC_ (Kd.S_reads' HO240.out).2.2)
    (case side10 => exact (Kd.S_reads' HO240.out).2.1)
    (case side11 => exact kC_ (Kd.R_reads' HO243.out).2.2)
    (case side12 => exact (Kd.R_reads' HO243.out).2.1)
    rintro e w38 ⟨rfl, hb⟩
    refine ⟨_, rfl, ?_⟩
    replace HO214 := Aside0.mk (Kd.R_below (kR_ HO214.out) hb); replace HO217 := Aside0.mk (Kd.S_below (kS_ HO217.out) hb); replace HO220 := Aside0.mk (Kd.R_below (kR_ HO220.out) hb); replace HO225 := Aside0.mk (Kd.R_below (kR_ HO225.out) hb); replace HO228 := Aside0.mk (Kd.S_below (kS_ HO228.out) hb); replace HO231 := Aside0.mk (Kd.R_below (kR_ HO231.out) hb); replace HO237 := Aside0.mk (Kd.R_below (kR_ HO237.out) hb); replace HO240 := Aside0.mk (Kd.S_below (kS_ HO240.out) hb); replace HO243 := Aside0.mk (Kd.R_below (kR_ HO243.out) hb); replace BK209 := (bbA_ BK209 hb); replace BK232 := (bbA_ BK232 hb); replace HB := (bs_ HB hb); (try clear hb); (try clear hb2); (try clear hk); (try clear hi)
    refine hK.out _ _ ⟨bc_ BK232 0, bc_ BK232 1, bc_ BK232 2, bc_ BK232 3, bc_ BK209 0, bc_ BK209 1, bc_ BK209 2, bc_ BK209 3⟩ (fun hHeld => ?_)
    clear hK K; refine nm_ 25 ?_
    refine pure_ (i := 4) (N := some 26) (v := ?_) (a' := ?_) #[true, true, true, true, true] rfl rfl (by kernel_rfl) (fun _ _ _ h => h) (Or.inl ⟨by rfl, ?_⟩) ?_ ?_
    rotate_left
    ·intro w'
     go_simp
     with_reducible rfl
    rotate_left
    ·simp only [Act.put, List.setIfInBounds_toArray, List.set_cons_zero, List.set_cons_succ, i64_w, i32_w]
     rfl
    refine done_ (by kernel_rfl) ?_
    try go_wp2
    go_ret
    exact ⟨by first | rfl | (simp [errW_none, errW_some] <;> rfl) | (simp [*, errW_none, errW_some] <;> rfl), hbA_ HB.out⟩
   ·replace c14 := Bool.eq_false_iff.mpr c14
    subst c14
    rw [if_neg (show ¬ (false = true) by decide)] at H
    exact absurd (Option.some.inj H) (by rw [HLW.out]; exact Bool.false_ne_true)
def laws_FnExactClientOk.Pure : Prop := ∀ (a0_0 : Int) (l0_1 : List Int) (l0_2 : List (S57)) (l0_3 : List Int), ((Lit.int .i64 a0_0).wf = true) → (l0_1.length ≤ maxLen ∧ ∀ y0_ ∈ l0_1, (Lit.int .i64 y0_).wf = true) → (l0_2.length ≤ maxLen ∧ ∀ y0_ ∈ l0_2, ((Lit.int .i64 y0_.f0).wf = true) ∧ (y0_.f1.length ≤ maxLen ∧ ∀ y1_ ∈ y0_.f1, (Lit.int .u8 y1_).wf = true)) → (l0_3.length ≤ maxLen ∧ ∀ y0_ ∈ l0_3, (Lit.int .i64 y0_).wf = true) → ∃ k, laws_FnExactClientOk.f k a0_0 l0_1 l0_2 l0_3 = some true
end Go.Proofs.Ytegchbdjbefdbaa.PFnExactClientOk
