/- Printed by wip/xp/xprint.sh out of the translation, for this claim: what each function answers, as a plain function, and that the machine does just that. No condition. -/
import Derived.Test.YtpbeljcgcdilnaaPFnSegmentBytesx0
import Derived.Test.YtpbeljcgcdilnaaPFnSegmentBytesx5
namespace Go.Proofs.Ytpbeljcgcdilnaa.PFnSegmentBytes
open Go.RowKit Go.Proofs.YtpbeljcgcdilnaaW.PrintWords Go.Proofs.YtpbeljcgcdilnaaW.PrintLast Go.Proofs.YtpbeljcgcdilnaaW.PrintMore
attribute [local go_sem] max2_int min2_int max_two min_two max_three min_three max_four min_four   -- for this text's walks alone
set_option linter.unusedVariables false
set_option linter.unusedSimpArgs false
def laws_sameSegment.f (k : Nat) (a0_0 : Int) (a0_1 : Int) (a0_2 : Int) (a0_3 : Int) (a0_4 : Int) (a0_5 : Bool) (a0_6 : Bool) (a0_7 : Bool) (a0_8 : Bool) (l0_9 : List (S90)) (l0_10 : List Int) (a1_0 : Int) (a1_1 : Int) (a1_2 : Int) (a1_3 : Int) (a1_4 : Int) (a1_5 : Bool) (a1_6 : Bool) (a1_7 : Bool) (a1_8 : Bool) (l1_9 : List (S90)) (l1_10 : List Int) : Option (Bool) := if a0_0 = a1_0 then (if a0_1 = a1_1 then (if a0_2 = a1_2 then (if a0_3 = a1_3 then (if a0_4 = a1_4 then (if (a0_5 == a1_5) = true then (if (a0_6 == a1_6) = true then (if (a0_7 == a1_7) = true then (if (a0_8 == a1_8) = true then ((laws_sameRanges.f k l0_9 l1_9).bind fun t276 => (if t276 = true then ((laws_sameBytes.f l0_10 l1_10).bind fun t277 => (some t277)) else (some false))) else (some false)) else (some false)) else (some false)) else (some false)) else (some false)) else (some false)) else (some false)) else (some false)) else (some false)
theorem laws_sameSegment.mono : ∀ a0 a1 a2 a3 a4 a5 a6 a7 a8 a9 a10 a11 a12 a13 a14 a15 a16 a17 a18 a19 a20 a21 k, LeO (laws_sameSegment.f k a0 a1 a2 a3 a4 a5 a6 a7 a8 a9 a10 a11 a12 a13 a14 a15 a16 a17 a18 a19 a20 a21) (laws_sameSegment.f (k + 1) a0 a1 a2 a3 a4 a5 a6 a7 a8 a9 a10 a11 a12 a13 a14 a15 a16 a17 a18 a19 a20 a21) := by
 intro a0 a1 a2 a3 a4 a5 a6 a7 a8 a9 a10 a11 a12 a13 a14 a15 a16 a17 a18 a19 a20 a21 k
 unfold laws_sameSegment.f
 repeat' first | (with_reducible first | apply laws_sameRanges.mono | exact LeO.refl _ | exact LeO.none _ | refine LeO.ite ?_ ?_ | refine LeO.bind ?_ fun _ => ?_) | apply laws_sameRanges.mono | exact LeO.none _ | refine LeO.ite ?_ ?_ | refine LeO.bind ?_ fun _ => ?_
set_option maxHeartbeats 8000000 in
set_option maxRecDepth 100000 in
theorem laws_sameSegment.calls (k : Nat) (a0_0 : Int) (a0_1 : Int) (a0_2 : Int) (a0_3 : Int) (a0_4 : Int) (a0_5 : Bool) (a0_6 : Bool) (a0_7 : Bool) (a0_8 : Bool) (A0_9 : Option Addr) (c0_9 : Nat) (l0_9 : List (S90)) (A0_10 : Option Addr) (c0_10 : Nat) (l0_10 : List Int) (a1_0 : Int) (a1_1 : Int) (a1_2 : Int) (a1_3 : Int) (a1_4 : Int) (a1_5 : Bool) (a1_6 : Bool) (a1_7 : Bool) (a1_8 : Bool) (A1_9 : Option Addr) (c1_9 : Nat) (l1_9 : List (S90)) (A1_10 : Option Addr) (c1_10 : Nat) (l1_10 : List Int) (r : Bool) (w : World) (hr0_9 : Kd.C k90 w A0_9 l0_9.length l0_9) (hc0_9 : l0_9.length ≤ c0_9) (hr0_10 : Kd.C (Kd.int .u8) w A0_10 l0_10.length l0_10) (hc0_10 : l0_10.length ≤ c0_10) (hr1_9 : Kd.C k90 w A1_9 l1_9.length l1_9) (hc1_9 : l1_9.length ≤ c1_9) (hr1_10 : Kd.C (Kd.int .u8) w A1_10 l1_10.length l1_10) (hc1_10 : l1_10.length ≤ c1_10) (h : laws_sameSegment.f k a0_0 a0_1 a0_2 a0_3 a0_4 a0_5 a0_6 a0_7 a0_8 l0_9 l0_10 a1_0 a1_1 a1_2 a1_3 a1_4 a1_5 a1_6 a1_7 a1_8 l1_9 l1_10 = some r) :
  Calls Try.prog 34 #[.agg #[.int .i64 a0_0, .int .i64 a0_1, .int .i64 a0_2, .int .i64 a0_3, .int .i64 a0_4, .bool a0_5, .bool a0_6, .bool a0_7, .bool a0_8, .slice A0_9 l0_9.length c0_9, .slice A0_10 l0_10.length c0_10], .agg #[.int .i64 a1_0, .int .i64 a1_1, .int .i64 a1_2, .int .i64 a1_3, .int .i64 a1_4, .bool a1_5, .bool a1_6, .bool a1_7, .bool a1_8, .slice A1_9 l1_9.length c1_9, .slice A1_10 l1_10.length c1_10]] w fun e w' => e = .returned (.bool r) ∧ Below w.heap.size w w' := by
 have hu52 := Try.underlying52; have HR0_9 := Aside0.mk hr0_9; have HC0_9 := Aside0.mk hc0_9; clear hr0_9 hc0_9; have HR0_10 := Aside0.mk hr0_10; have HC0_10 := Aside0.mk hc0_10; clear hr0_10 hc0_10; have HR1_9 := Aside0.mk hr1_9; have HC1_9 := Aside0.mk hc1_9; clear hr1_9 hc1_9; have HR1_10 := Aside0.mk hr1_10; have HC1_10 := Aside0.mk hc1_10; clear hr1_10 hc1_10
 have HB := Aside0.mk (Below.refl w.heap.size w)
 have H : (if a0_0 = a1_0 then (if a0_1 = a1_1 then (if a0_2 = a1_2 then (if a0_3 = a1_3 then (if a0_4 = a1_4 then (if (a0_5 == a1_5) = true then (if (a0_6 == a1_6) = true then (if (a0_7 == a1_7) = true then (if (a0_8 == a1_8) = true then ((laws_sameRanges.f k l0_9 l1_9).bind fun t276 => (if t276 = true then ((laws_sameBytes.f l0_10 l1_10).bind fun t277 => (some t277)) else (some false))) else (some false)) else (some false)) else (some false)) else (some false)) else (some false)) else (some false)) else (some false)) else (some false)) else (some false)) = some r := h
 clear h
 by_cases c3 : a0_0 = a1_0
 ·rw [if_pos c3] at H
  have c3b0 : (a0_0 == a1_0) = true := beq_iff_eq.mpr c3
  have c3b1 : (a0_0 != a1_0) = false := bne_eq_false_iff_eq.mpr c3
  clear c3
  by_cases c4 : a0_1 = a1_1
  ·rw [if_pos c4] at H
   have c4b0 : (a0_1 == a1_1) = true := beq_iff_eq.mpr c4
   have c4b1 : (a0_1 != a1_1) = false := bne_eq_false_iff_eq.mpr c4
   clear c4
   by_cases c5 : a0_2 = a1_2
   ·rw [if_pos c5] at H
    have c5b0 : (a0_2 == a1_2) = true := beq_iff_eq.mpr c5
    have c5b1 : (a0_2 != a1_2) = false := bne_eq_false_iff_eq.mpr c5
    clear c5
    by_cases c6 : a0_3 = a1_3
    ·rw [if_pos c6] at H
     have c6b0 : (a0_3 == a1_3) = true := beq_iff_eq.mpr c6
     have c6b1 : (a0_3 != a1_3) = false := bne_eq_false_iff_eq.mpr c6
     clear c6
     by_cases c7 : a0_4 = a1_4
     ·rw [if_pos c7] at H
      have c7b0 : (a0_4 == a1_4) = true := beq_iff_eq.mpr c7
      have c7b1 : (a0_4 != a1_4) = false := bne_eq_false_iff_eq.mpr c7
      clear c7
      by_cases c8 : (a0_5 == a1_5) = true
      ·rw [if_pos c8] at H
       have c8b0 : (a0_5 == a1_5) = true := c8
       (try (have c8b1 : decide (a0_5 = a1_5) = true := by simpa using c8))
       (try (have c8b2 : (a0_5 == a1_5) = true := by simpa using c8))
       clear c8
       by_cases c9 : (a0_6 == a1_6) = true
       ·rw [if_pos c9] at H
        have c9b0 : (a0_6 == a1_6) = true := c9
        (try (have c9b1 : decide (a0_6 = a1_6) = true := by simpa using c9))
        (try (have c9b2 : (a0_6 == a1_6) = true := by simpa using c9))
        clear c9
        by_cases c10 : (a0_7 == a1_7) = true
        ·rw [if_pos c10] at H
         have c10b0 : (a0_7 == a1_7) = true := c10
         (try (have c10b1 : decide (a0_7 = a1_7) = true := by simpa using c10))
         (try (have c10b2 : (a0_7 == a1_7) = true := by simpa using c10))
         clear c10
         by_cases c11 : (a0_8 == a1_8) = true
         ·rw [if_pos c11] at H
          have c11b0 : (a0_8 == a1_8) = true := c11
          (try (have c11b1 : decide (a0_8 = a1_8) = true := by simpa using c11))
          (try (have c11b2 : (a0_8 == a1_8) = true := by simpa using c11))
          clear c11
          replace H := Option.bind_eq_some_iff.mp H
          obtain ⟨t276, A120, H⟩ := H
          (try dsimp only at H)
          have A12 := Aside0.mk A120; clear A120
          by_cases c13 : t276 = true
          ·subst c13
           rw [if_pos rfl] at H
           replace H := Option.bind_eq_some_iff.mp H
           obtain ⟨t277, A140, H⟩ := H
           (try dsimp only at H)
           have A14 := Aside0.mk A140; clear A140
           obtain rfl := Option.some.inj H
           go_enter Try.func34, Try.ntmps34
           go_wp2_with (first | ((with_reducible refine gate_dst (N := 2) rfl ?_); refine box_ (N := 2) (cs := #[.int .i64 a0_0, .int .i64 a0_1, .int .i64 a0_2, .int .i64 a0_3, .int .i64 a0_4, .bool a0_5, .bool a0_6, .bool a0_7, .bool a0_8, .slice A0_9 l0_9.length c0_9, .slice A0_10 l0_10.length c0_10]) (t := 52) (fun gb274 hg w15 hbox hb => ?_); have BK274 := Aside0.mk (hbox); have GW274 := ge_ hg HB; have GE274 := ge_ hg HB; replace HB := (bs_ HB hb); clear hb hbox hg) | ((with_reducible refine gate_dst (N := 3) rfl ?_); refine box_ (N := 3) (cs := #[.int .i64 a1_0, .int .i64 a1_1, .int .i64 a1_2, .int .i64 a1_3, .int .i64 a1_4, .bool a1_5, .bool a1_6, .bool a1_7, .bool a1_8, .slice A1_9 l1_9.length c1_9, .slice A1_10 l1_10.length c1_10]) (t := 52) (fun gb275 hg w16 hbox hb => ?_); have BK275 := Aside0.mk (hbox); have GW275 := ge_ hg HB; have GE275 := ge_ hg HB; replace HB := (bs_ HB hb); have NB274_275 := nl_ hg BK274; have NB275_274 := ng_ hg BK274; replace BK274 := (bbA_ BK274 hb); clear hb hbox hg; have hnb17 := NB274_275.out; have hnc17 := NB275_274.out; have Z18 := zz11 BK274; have Z19 := zz11 BK275) | (go_at_call 68; (with_reducible refine (laws_sameRanges.calls k _ _ l0_9 _ _ l1_9 true _ ?side1 ?side2 ?side3 ?side4 A12.out).mono ?_); (case side1 => exact kC_ (Kd.C_below HR0_9.out HB.out)); (case side2 => exact HC0_9.out); (case side3 => exact kC_ (Kd.C_below HR1_9.out HB.out)); (case side4 => exact HC1_9.out); rintro e w' ⟨rfl, ⟨nd, rfl⟩⟩) | (go_at_call 35; (with_reducible refine (laws_sameBytes.calls _ _ l0_10 _ _ l1_10 t277 _ ?side1 ?side2 ?side3 ?side4 A14.out).mono ?_); (case side1 => exact kC_ (Kd.C_below HR0_10.out (hbA_ HB.out))); (case side2 => exact HC0_10.out); (case side3 => exact kC_ (Kd.C_below HR1_10.out (hbA_ HB.out))); (case side4 => exact HC1_10.out); rintro e w' ⟨rfl, ⟨nd, rfl⟩⟩))
           go_ret
           exact ⟨by first | rfl | (simp [errW_none, errW_some] <;> rfl) | (simp [*, errW_none, errW_some] <;> rfl), hbA_ HB.out⟩
          ·replace c13 := Bool.eq_false_iff.mpr c13
           subst c13
           rw [if_neg (show ¬ (false = true) by decide)] at H
           obtain rfl := Option.some.inj H
           go_enter Try.func34, Try.ntmps34
           go_wp2_with (first | ((with_reducible refine gate_dst (N := 2) rfl ?_); refine box_ (N := 2) (cs := #[.int .i64 a0_0, .int .i64 a0_1, .int .i64 a0_2, .int .i64 a0_3, .int .i64 a0_4, .bool a0_5, .bool a0_6, .bool a0_7, .bool a0_8, .slice A0_9 l0_9.length c0_9, .slice A0_10 l0_10.length c0_10]) (t := 52) (fun gb274 hg w20 hbox hb => ?_); have BK274 := Aside0.mk (hbox); have GW274 := ge_ hg HB; have GE274 := ge_ hg HB; replace HB := (bs_ HB hb); clear hb hbox hg) | ((with_reducible refine gate_dst (N := 3) rfl ?_); refine box_ (N := 3) (cs := #[.int .i64 a1_0, .int .i64 a1_1, .int .i64 a1_2, .int .i64 a1_3, .int .i64 a1_4, .bool a1_5, .bool a1_6, .bool a1_7, .bool a1_8, .slice A1_9 l1_9.length c1_9, .slice A1_10 l1_10.length c1_10]) (t := 52) (fun gb275 hg w21 hbox hb => ?_); have BK275 := Aside0.mk (hbox); have GW275 := ge_ hg HB; have GE275 := ge_ hg HB; replace HB := (bs_ HB hb); have NB274_275 := nl_ hg BK274; have NB275_274 := ng_ hg BK274; replace BK274 := (bbA_ BK274 hb); clear hb hbox hg; have hnb22 := NB274_275.out; have hnc22 := NB275_274.out; have Z23 := zz11 BK274; have Z24 := zz11 BK275) | (go_at_call 68; (with_reducible refine (laws_sameRanges.calls k _ _ l0_9 _ _ l1_9 false _ ?side1 ?side2 ?side3 ?side4 A12.out).mono ?_); (case side1 => exact kC_ (Kd.C_below HR0_9.out HB.out)); (case side2 => exact HC0_9.out); (case side3 => exact kC_ (Kd.C_below HR1_9.out HB.out)); (case side4 => exact HC1_9.out); rintro e w' ⟨rfl, ⟨nd, rfl⟩⟩))
           go_ret
           exact ⟨by first | rfl | (simp [errW_none, errW_some] <;> rfl) | (simp [*, errW_none, errW_some] <;> rfl), hbA_ HB.out⟩
         ·rw [if_neg c11] at H
          have c11b0 : (a0_8 == a1_8) = false := by simpa using c11
          (try (have c11b1 : decide (a0_8 = a1_8) = false := by simpa using c11))
          (try (have c11b2 : (a0_8 == a1_8) = false := by simpa using c11))
          (try (have c11b3 : ¬ (a0_8 = a1_8) := by simpa using c11))
          clear c11
          obtain rfl := Option.some.inj H
          go_enter Try.func34, Try.ntmps34
          go_wp2_with (first | ((with_reducible refine gate_dst (N := 2) rfl ?_); refine box_ (N := 2) (cs := #[.int .i64 a0_0, .int .i64 a0_1, .int .i64 a0_2, .int .i64 a0_3, .int .i64 a0_4, .bool a0_5, .bool a0_6, .bool a0_7, .bool a0_8, .slice A0_9 l0_9.length c0_9, .slice A0_10 l0_10.length c0_10]) (t := 52) (fun gb274 hg w25 hbox hb => ?_); have BK274 := Aside0.mk (hbox); have GW274 := ge_ hg HB; have GE274 := ge_ hg HB; replace HB := (bs_ HB hb); clear hb hbox hg) | ((with_reducible refine gate_dst (N := 3) rfl ?_); refine box_ (N := 3) (cs := #[.int .i64 a1_0, .int .i64 a1_1, .int .i64 a1_2, .int .i64 a1_3, .int .i64 a1_4, .bool a1_5, .bool a1_6, .bool a1_7, .bool a1_8, .slice A1_9 l1_9.length c1_9, .slice A1_10 l1_10.length c1_10]) (t := 52) (fun gb275 hg w26 hbox hb => ?_); have BK275 := Aside0.mk (hbox); have GW275 := ge_ hg HB; have GE275 := ge_ hg HB; replace HB := (bs_ HB hb); have NB274_275 := nl_ hg BK274; have NB275_274 := ng_ hg BK274; replace BK274 := (bbA_ BK274 hb); clear hb hbox hg; have hnb27 := NB274_275.out; have hnc27 := NB275_274.out; have Z28 := zz11 BK274; have Z29 := zz11 BK275))
          go_ret
          exact ⟨by first | rfl | (simp [errW_none, errW_some] <;> rfl) | (simp [*, errW_none, errW_some] <;> rfl), hbA_ HB.out⟩
        ·rw [if_neg c10] at H
         have c10b0 : (a0_7 == a1_7) = false := by simpa using c10
         (try (have c10b1 : decide (a0_7 = a1_7) = false := by simpa using c10))
         (try (have c10b2 : (a0_7 == a1_7) = false := by simpa using c10))
         (try (have c10b3 : ¬ (a0_7 = a1_7) := by simpa using c10))
         clear c10
         obtain rfl := Option.some.inj H
         go_enter Try.func34, Try.ntmps34
         go_wp2_with (first | ((with_reducible refine gate_dst (N := 2) rfl ?_); refine box_ (N := 2) (cs := #[.int .i64 a0_0, .int .i64 a0_1, .int .i64 a0_2, .int .i64 a0_3, .int .i64 a0_4, .bool a0_5, .bool a0_6, .bool a0_7, .bool a0_8, .slice A0_9 l0_9.length c0_9, .slice A0_10 l0_10.length c0_10]) (t := 52) (fun gb274 hg w30 hbox hb => ?_); have BK274 := Aside0.mk (hbox); have GW274 := ge_ hg HB; have GE274 := ge_ hg HB; replace HB := (bs_ HB hb); clear hb hbox hg) | ((with_reducible refine gate_dst (N := 3) rfl ?_); refine box_ (N := 3) (cs := #[.int .i64 a1_0, .int .i64 a1_1, .int .i64 a1_2, .int .i64 a1_3, .int .i64 a1_4, .bool a1_5, .bool a1_6, .bool a1_7, .bool a1_8, .slice A1_9 l1_9.length c1_9, .slice A1_10 l1_10.length c1_10]) (t := 52) (fun gb275 hg w31 hbox hb => ?_); have BK275 := Aside0.mk (hbox); have GW275 := ge_ hg HB; have GE275 := ge_ hg HB; replace HB := (bs_ HB hb); have NB274_275 := nl_ hg BK274; have NB275_274 := ng_ hg BK274; replace BK274 := (bbA_ BK274 hb); clear hb hbox hg; have hnb32 := NB274_275.out; have hnc32 := NB275_274.out; have Z33 := zz11 BK274; have Z34 := zz11 BK275))
         go_ret
         exact ⟨by first | rfl | (simp [errW_none, errW_some] <;> rfl) | (simp [*, errW_none, errW_some] <;> rfl), hbA_ HB.out⟩
       ·rw [if_neg c9] at H
        have c9b0 : (a0_6 == a1_6) = false := by simpa using c9
        (try (have c9b1 : decide (a0_6 = a1_6) = false := by simpa using c9))
        (try (have c9b2 : (a0_6 == a1_6) = false := by simpa using c9))
        (try (have c9b3 : ¬ (a0_6 = a1_6) := by simpa using c9))
        clear c9
        obtain rfl := Option.some.inj H
        go_enter Try.func34, Try.ntmps34
        go_wp2_with (first | ((with_reducible refine gate_dst (N := 2) rfl ?_); refine box_ (N := 2) (cs := #[.int .i64 a0_0, .int .i64 a0_1, .int .i64 a0_2, .int .i64 a0_3, .int .i64 a0_4, .bool a0_5, .bool a0_6, .bool a0_7, .bool a0_8, .slice A0_9 l0_9.length c0_9, .slice A0_10 l0_10.length c0_10]) (t := 52) (fun gb274 hg w35 hbox hb => ?_); have BK274 := Aside0.mk (hbox); have GW274 := ge_ hg HB; have GE274 := ge_ hg HB; replace HB := (bs_ HB hb); clear hb hbox hg) | ((with_reducible refine gate_dst (N := 3) rfl ?_); refine box_ (N := 3) (cs := #[.int .i64 a1_0, .int .i64 a1_1, .int .i64 a1_2, .int .i64 a1_3, .int .i64 a1_4, .bool a1_5, .bool a1_6, .bool a1_7, .bool a1_8, .slice A1_9 l1_9.length c1_9, .slice A1_10 l1_10.length c1_10]) (t := 52) (fun gb275 hg w36 hbox hb => ?_); have BK275 := Aside0.mk (hbox); have GW275 := ge_ hg HB; have GE275 := ge_ hg HB; replace HB := (bs_ HB hb); have NB274_275 := nl_ hg BK274; have NB275_274 := ng_ hg BK274; replace BK274 := (bbA_ BK274 hb); clear hb hbox hg; have hnb37 := NB274_275.out; have hnc37 := NB275_274.out; have Z38 := zz11 BK274; have Z39 := zz11 BK275))
        go_ret
        exact ⟨by first | rfl | (simp [errW_none, errW_some] <;> rfl) | (simp [*, errW_none, errW_some] <;> rfl), hbA_ HB.out⟩
      ·rw [if_neg c8] at H
       have c8b0 : (a0_5 == a1_5) = false := by simpa using c8
       (try (have c8b1 : decide (a0_5 = a1_5) = false := by simpa using c8))
       (try (have c8b2 : (a0_5 == a1_5) = false := by simpa using c8))
       (try (have c8b3 : ¬ (a0_5 = a1_5) := by simpa using c8))
       clear c8
       obtain rfl := Option.some.inj H
       go_enter Try.func34, Try.ntmps34
       go_wp2_with (first | ((with_reducible refine gate_dst (N := 2) rfl ?_); refine box_ (N := 2) (cs := #[.int .i64 a0_0, .int .i64 a0_1, .int .i64 a0_2, .int .i64 a0_3, .int .i64 a0_4, .bool a0_5, .bool a0_6, .bool a0_7, .bool a0_8, .slice A0_9 l0_9.length c0_9, .slice A0_10 l0_10.length c0_10]) (t := 52) (fun gb274 hg w40 hbox hb => ?_); have BK274 := Aside0.mk (hbox); have GW274 := ge_ hg HB; have GE274 := ge_ hg HB; replace HB := (bs_ HB hb); clear hb hbox hg) | ((with_reducible refine gate_dst (N := 3) rfl ?_); refine box_ (N := 3) (cs := #[.int .i64 a1_0, .int .i64 a1_1, .int .i64 a1_2, .int .i64 a1_3, .int .i64 a1_4, .bool a1_5, .bool a1_6, .bool a1_7, .bool a1_8, .slice A1_9 l1_9.length c1_9, .slice A1_10 l1_10.length c1_10]) (t := 52) (fun gb275 hg w41 hbox hb => ?_); have BK275 := Aside0.mk (hbox); have GW275 := ge_ hg HB; have GE275 := ge_ hg HB; replace HB := (bs_ HB hb); have NB274_275 := nl_ hg BK274; have NB275_274 := ng_ hg BK274; replace BK274 := (bbA_ BK274 hb); clear hb hbox hg; have hnb42 := NB274_275.out; have hnc42 := NB275_274.out; have Z43 := zz11 BK274; have Z44 := zz11 BK275))
       go_ret
       exact ⟨by first | rfl | (simp [errW_none, errW_some] <;> rfl) | (simp [*, errW_none, errW_some] <;> rfl), hbA_ HB.out⟩
     ·rw [if_neg c7] at H
      have c7b0 : (a0_4 == a1_4) = false := beq_eq_false_iff_ne.mpr c7
      have c7b1 : (a0_4 != a1_4) = true := bne_iff_ne.mpr c7
      obtain rfl := Option.some.inj H
      go_enter Try.func34, Try.ntmps34
      go_wp2_with (first | ((with_reducible refine gate_dst (N := 2) rfl ?_); refine box_ (N := 2) (cs := #[.int .i64 a0_0, .int .i64 a0_1, .int .i64 a0_2, .int .i64 a0_3, .int .i64 a0_4, .bool a0_5, .bool a0_6, .bool a0_7, .bool a0_8, .slice A0_9 l0_9.length c0_9, .slice A0_10 l0_10.length c0_10]) (t := 52) (fun gb274 hg w45 hbox hb => ?_); have BK274 := Aside0.mk (hbox); have GW274 := ge_ hg HB; have GE274 := ge_ hg HB; replace HB := (bs_ HB hb); clear hb hbox hg) | ((with_reducible refine gate_dst (N := 3) rfl ?_); refine box_ (N := 3) (cs := #[.int .i64 a1_0, .int .i64 a1_1, .int .i64 a1_2, .int .i64 a1_3, .int .i64 a1_4, .bool a1_5, .bool a1_6, .bool a1_7, .bool a1_8, .slice A1_9 l1_9.length c1_9, .slice A1_10 l1_10.length c1_10]) (t := 52) (fun gb275 hg w46 hbox hb => ?_); have BK275 := Aside0.mk (hbox); have GW275 := ge_ hg HB; have GE275 := ge_ hg HB; replace HB := (bs_ HB hb); have NB274_275 := nl_ hg BK274; have NB275_274 := ng_ hg BK274; replace BK274 := (bbA_ BK274 hb); clear hb hbox hg; have hnb47 := NB274_275.out; have hnc47 := NB275_274.out; have Z48 := zz11 BK274; have Z49 := zz11 BK275))
      go_ret
      exact ⟨by first | rfl | (simp [errW_none, errW_some] <;> rfl) | (simp [*, errW_none, errW_some] <;> rfl), hbA_ HB.out⟩
    ·rw [if_neg c6] at H
     have c6b0 : (a0_3 == a1_3) = false := beq_eq_false_iff_ne.mpr c6
     have c6b1 : (a0_3 != a1_3) = true := bne_iff_ne.mpr c6
     obtain rfl := Option.some.inj H
     go_enter Try.func34, Try.ntmps34
     go_wp2_with (first | ((with_reducible refine gate_dst (N := 2) rfl ?_); refine box_ (N := 2) (cs := #[.int .i64 a0_0, .int .i64 a0_1, .int .i64 a0_2, .int .i64 a0_3, .int .i64 a0_4, .bool a0_5, .bool a0_6, .bool a0_7, .bool a0_8, .slice A0_9 l0_9.length c0_9, .slice A0_10 l0_10.length c0_10]) (t := 52) (fun gb274 hg w50 hbox hb => ?_); have BK274 := Aside0.mk (hbox); have GW274 := ge_ hg HB; have GE274 := ge_ hg HB; replace HB := (bs_ HB hb); clear hb hbox hg) | ((with_reducible refine gate_dst (N := 3) rfl ?_); refine box_ (N := 3) (cs := #[.int .i64 a1_0, .int .i64 a1_1, .int .i64 a1_2, .int .i64 a1_3, .int .i64 a1_4, .bool a1_5, .bool a1_6, .bool a1_7, .bool a1_8, .slice A1_9 l1_9.length c1_9, .slice A1_10 l1_10.length c1_10]) (t := 52) (fun gb275 hg w51 hbox hb => ?_); have BK275 := Aside0.mk (hbox); have GW275 := ge_ hg HB; have GE275 := ge_ hg HB; replace HB := (bs_ HB hb); have NB274_275 := nl_ hg BK274; have NB275_274 := ng_ hg BK274; replace BK274 := (bbA_ BK274 hb); clear hb hbox hg; have hnb52 := NB274_275.out; have hnc52 := NB275_274.out; have Z53 := zz11 BK274; have Z54 := zz11 BK275))
     go_ret
     exact ⟨by first | rfl | (simp [errW_none, errW_some] <;> rfl) | (simp [*, errW_none, errW_some] <;> rfl), hbA_ HB.out⟩
   ·rw [if_neg c5] at H
    have c5b0 : (a0_2 == a1_2) = false := beq_eq_false_iff_ne.mpr c5
    have c5b1 : (a0_2 != a1_2) = true := bne_iff_ne.mpr c5
    obtain rfl := Option.some.inj H
    go_enter Try.func34, Try.ntmps34
    go_wp2_with (first | ((with_reducible refine gate_dst (N := 2) rfl ?_); refine box_ (N := 2) (cs := #[.int .i64 a0_0, .int .i64 a0_1, .int .i64 a0_2, .int .i64 a0_3, .int .i64 a0_4, .bool a0_5, .bool a0_6, .bool a0_7, .bool a0_8, .slice A0_9 l0_9.length c0_9, .slice A0_10 l0_10.length c0_10]) (t := 52) (fun gb274 hg w55 hbox hb => ?_); have BK274 := Aside0.mk (hbox); have GW274 := ge_ hg HB; have GE274 := ge_ hg HB; replace HB := (bs_ HB hb); clear hb hbox hg) | ((with_reducible refine gate_dst (N := 3) rfl ?_); refine box_ (N := 3) (cs := #[.int .i64 a1_0, .int .i64 a1_1, .int .i64 a1_2, .int .i64 a1_3, .int .i64 a1_4, .bool a1_5, .bool a1_6, .bool a1_7, .bool a1_8, .slice A1_9 l1_9.length c1_9, .slice A1_10 l1_10.length c1_10]) (t := 52) (fun gb275 hg w56 hbox hb => ?_); have BK275 := Aside0.mk (hbox); have GW275 := ge_ hg HB; have GE275 := ge_ hg HB; replace HB := (bs_ HB hb); have NB274_275 := nl_ hg BK274; have NB275_274 := ng_ hg BK274; replace BK274 := (bbA_ BK274 hb); clear hb hbox hg; have hnb57 := NB274_275.out; have hnc57 := NB275_274.out; have Z58 := zz11 BK274; have Z59 := zz11 BK275))
    go_ret
    exact ⟨by first | rfl | (simp [errW_none, errW_some] <;> rfl) | (simp [*, errW_none, errW_some] <;> rfl), hbA_ HB.out⟩
  ·rw [if_neg c4] at H
   have c4b0 : (a0_1 == a1_1) = false := beq_eq_false_iff_ne.mpr c4
   have c4b1 : (a0_1 != a1_1) = true := bne_iff_ne.mpr c4
   obtain rfl := Option.some.inj H
   go_enter Try.func34, Try.ntmps34
   go_wp2_with (first | ((with_reducible refine gate_dst (N := 2) rfl ?_); refine box_ (N := 2) (cs := #[.int .i64 a0_0, .int .i64 a0_1, .int .i64 a0_2, .int .i64 a0_3, .int .i64 a0_4, .bool a0_5, .bool a0_6, .bool a0_7, .bool a0_8, .slice A0_9 l0_9.length c0_9, .slice A0_10 l0_10.length c0_10]) (t := 52) (fun gb274 hg w60 hbox hb => ?_); have BK274 := Aside0.mk (hbox); have GW274 := ge_ hg HB; have GE274 := ge_ hg HB; replace HB := (bs_ HB hb); clear hb hbox hg) | ((with_reducible refine gate_dst (N := 3) rfl ?_); refine box_ (N := 3) (cs := #[.int .i64 a1_0, .int .i64 a1_1, .int .i64 a1_2, .int .i64 a1_3, .int .i64 a1_4, .bool a1_5, .bool a1_6, .bool a1_7, .bool a1_8, .slice A1_9 l1_9.length c1_9, .slice A1_10 l1_10.length c1_10]) (t := 52) (fun gb275 hg w61 hbox hb => ?_); have BK275 := Aside0.mk (hbox); have GW275 := ge_ hg HB; have GE275 := ge_ hg HB; replace HB := (bs_ HB hb); have NB274_275 := nl_ hg BK274; have NB275_274 := ng_ hg BK274; replace BK274 := (bbA_ BK274 hb); clear hb hbox hg; have hnb62 := NB274_275.out; have hnc62 := NB275_274.out; have Z63 := zz11 BK274; have Z64 := zz11 BK275))
   go_ret
   exact ⟨by first | rfl | (simp [errW_none, errW_some] <;> rfl) | (simp [*, errW_none, errW_some] <;> rfl), hbA_ HB.out⟩
 ·rw [if_neg c3] at H
  have c3b0 : (a0_0 == a1_0) = false := beq_eq_false_iff_ne.mpr c3
  have c3b1 : (a0_0 != a1_0) = true := bne_iff_ne.mpr c3
  obtain rfl := Option.some.inj H
  go_enter Try.func34, Try.ntmps34
  go_wp2_with (first | ((with_reducible refine gate_dst (N := 2) rfl ?_); refine box_ (N := 2) (cs := #[.int .i64 a0_0, .int .i64 a0_1, .int .i64 a0_2, .int .i64 a0_3, .int .i64 a0_4, .bool a0_5, .bool a0_6, .bool a0_7, .bool a0_8, .slice A0_9 l0_9.length c0_9, .slice A0_10 l0_10.length c0_10]) (t := 52) (fun gb274 hg w65 hbox hb => ?_); have BK274 := Aside0.mk (hbox); have GW274 := ge_ hg HB; have GE274 := ge_ hg HB; replace HB := (bs_ HB hb); clear hb hbox hg) | ((with_reducible refine gate_dst (N := 3) rfl ?_); refine box_ (N := 3) (cs := #[.int .i64 a1_0, .int .i64 a1_1, .int .i64 a1_2, .int .i64 a1_3, .int .i64 a1_4, .bool a1_5, .bool a1_6, .bool a1_7, .bool a1_8, .slice A1_9 l1_9.length c1_9, .slice A1_10 l1_10.length c1_10]) (t := 52) (fun gb275 hg w66 hbox hb => ?_); have BK275 := Aside0.mk (hbox); have GW275 := ge_ hg HB; have GE275 := ge_ hg HB; replace HB := (bs_ HB hb); have NB274_275 := nl_ hg BK274; have NB275_274 := ng_ hg BK274; replace BK274 := (bbA_ BK274 hb); clear hb hbox hg; have hnb67 := NB274_275.out; have hnc67 := NB275_274.out; have Z68 := zz11 BK274; have Z69 := zz11 BK275))
  go_ret
  exact ⟨by first | rfl | (simp [errW_none, errW_some] <;> rfl) | (simp [*, errW_none, errW_some] <;> rfl), hbA_ HB.out⟩
def IsS102 (w0 W : World) (g : Nat) (f0 : List Int) (f1 : Int) : Prop := ∃ A0 c0, W.heap[g]? = some (.cells #[.slice A0 f0.length c0, .int .i64 f1] 102 (0, 0)) ∧ w0.heap.size ≤ g ∧ Kd.C (Kd.int .u8) w0 A0 f0.length f0
theorem IsS102.grown {w0 W : World} {g : Nat} {f0 : List Int} {f1 : Int} {W1 : World} {row : Option Nat} (h : IsS102 w0 W g f0 f1) (hw : W.grownBy W1 row) (hne : some g ≠ row) : IsS102 w0 W1 g f0 f1 := by
 obtain ⟨A0, c0, hb, hg, hr0⟩ := h
 exact ⟨A0, c0, blk_grown hb hw hne, hg, hr0⟩
theorem IsS102.kept {w0 W : World} {g : Nat} {f0 : List Int} {f1 : Int} {W1 : World} {S : Nat → Prop} (h : IsS102 w0 W g f0 f1) (hk : Kept W W1 S) (hne : ¬ S g) : IsS102 w0 W1 g f0 f1 := by
 obtain ⟨A0, c0, hb, hg, hr0⟩ := h
 exact ⟨A0, c0, blk_kept hb hk hne, hg, hr0⟩
theorem IsS102.below {w0 W : World} {g : Nat} {f0 : List Int} {f1 : Int} {W1 : World} (h : IsS102 w0 W g f0 f1) (hw : Below W.heap.size W W1) : IsS102 w0 W1 g f0 f1 := h.grown (grown_of_below hw none) (by simp)
theorem IsS102.alloc {w0 W : World} {g : Nat} {f0 : List Int} {f1 : Int} (h : IsS102 w0 W g f0 f1) (o : Obj) : IsS102 w0 (W.alloc o) g f0 f1 := h.below (below_alloc (Below.refl _ _) o)
theorem IsS102.drewN {w0 W : World} {g : Nat} {f0 : List Int} {f1 : Int} (h : IsS102 w0 W g f0 f1) (m : Nat) : IsS102 w0 (W.drewN m) g f0 f1 := h
theorem IsS102.drew {w0 W : World} {g : Nat} {f0 : List Int} {f1 : Int} (h : IsS102 w0 W g f0 f1) : IsS102 w0 W.drew g f0 f1 := h
theorem IsS102.at_ {w0 W : World} {g : Nat} {f0 : List Int} {f1 : Int} {w' : World} {m : Nat} (hq : W.drewN m = w') (h : IsS102 w0 W g f0 f1) : IsS102 w0 w' g f0 f1 := by subst hq; exact IsS102.drewN h m
theorem IsS102.apart {w0 W : World} {g : Nat} {f0 : List Int} {f1 : Int} {α : Type} {d : Kd α} {e : Nat} {base : Nat} {ok : Nat → Prop} {v : Value} {xs : List α} (h : IsS102 w0 W g f0 f1) (ho : d.R e W base ok v xs) (ht : ∀ q, q ∈ e :: d.E → q ≠ 102) : d.R e W base (fun k => ok k ∧ k ≠ g) v xs := by
 obtain ⟨A0, c0, hb, hg, hr0⟩ := h
 exact Kd.R_types ho hb ht
theorem IsS102.own_ne {w0 W : World} {g : Nat} {f0 : List Int} {f1 : Int} {α : Type} {d : Kd α} {e : Nat} {base : Nat} {ok : Nat → Prop} {v : Value} {xs : List α} (h : IsS102 w0 W g f0 f1) (ho : d.R e W base ok v xs) (ht : e ≠ 102) : some g ≠ v.ownBlock := by
 obtain ⟨A0, c0, hb, hg, hr0⟩ := h
 exact Kd.R_ne ho hb ht
theorem IsS102.lt {w0 W : World} {g : Nat} {f0 : List Int} {f1 : Int} (h : IsS102 w0 W g f0 f1) : g < W.heap.size := by
 obtain ⟨A0, c0, hb, hg, hr0⟩ := h
 exact blk_lt hb
theorem IsS102.ge {w0 W : World} {g : Nat} {f0 : List Int} {f1 : Int} (h : IsS102 w0 W g f0 f1) : w0.heap.size ≤ g := by
 obtain ⟨A0, c0, hb, hg, hr0⟩ := h
 exact hg
theorem IsS102.ne_blk {w0 W : World} {g : Nat} {f0 : List Int} {f1 : Int} {a : Nat} {cs : Array Value} {t : TypeId} {fr : Nat × Nat} (h : IsS102 w0 W g f0 f1) (hb2 : W.heap[a]? = some (.cells cs t fr)) (ht : t ≠ 102) : g ≠ a := by
 obtain ⟨A0, c0, hb, hg, hr0⟩ := h
 rintro rfl
 rw [hb] at hb2
 injection hb2 with hb2
 injection hb2 with _ ht2
 exact ht ht2.symm
theorem IsS102.far {w0 W : World} {g : Nat} {f0 : List Int} {f1 : Int} {p : Addr} (h : IsS102 w0 W g f0 f1) (hne : g ≠ p.block) (u : Value) : IsS102 w0 (W.setCell p u) g f0 f1 := by
 obtain ⟨A0, c0, hb, hg, hr0⟩ := h
 exact ⟨A0, c0, blk_far hb hne u, hg, hr0⟩
theorem cellS102_0 {W : World} {g : Nat} {A0 : Option Addr} {c0 : Nat} {f0 : List Int} {f1 : Int} (h : W.heap[g]? = some (.cells #[.slice A0 f0.length c0, .int .i64 f1] 102 (0, 0))) : W.cell? ⟨g, 0, none⟩ = some (.slice A0 f0.length c0) := (blk_cell h 0).trans rfl
theorem cellS102_1 {W : World} {g : Nat} {A0 : Option Addr} {c0 : Nat} {f0 : List Int} {f1 : Int} (h : W.heap[g]? = some (.cells #[.slice A0 f0.length c0, .int .i64 f1] 102 (0, 0))) : W.cell? ⟨g, 1, none⟩ = some (.int .i64 f1) := (blk_cell h 1).trans rfl
theorem IsS102.set_1 {w0 W : World} {g : Nat} {f0 : List Int} {f1 : Int} (h : IsS102 w0 W g f0 f1) (x : Int) : IsS102 w0 (W.setCell ⟨g, 1, none⟩ (.int .i64 x)) g f0 x := by
 obtain ⟨A0, c0, hb, hg, hr0⟩ := h
 exact ⟨A0, c0, by simpa using blk_set hb 1 (.int .i64 x), hg, hr0⟩
theorem IsS102.new (w0 W : World) (A0 : Option Addr) (c0 : Nat) (f0 : List Int) (f1 : Int) (hB : Below w0.heap.size w0 W) (hr0 : Kd.C (Kd.int .u8) w0 A0 f0.length f0) : IsS102 w0 (W.alloc (.cells #[.slice A0 f0.length c0, .int .i64 f1] 102)) W.heap.size f0 f1 := ⟨A0, c0, by simpa using heap_alloc_new W _, hB.size, hr0⟩
theorem is102_ {P Q : Prop} (q : Q) (h : Q → P := by intro q_; repeat (first | (with_reducible first | exact q_ | apply IsS102.alloc | apply IsS102.drewN | apply IsS102.drew | apply IsS102.set_1 | refine IsS102.far ?_ (Aside0.out (by assumption)) _) | exact q_)) : P := h q
theorem hb102_ {P Q : Prop} (q : Q) (h : Q → P := by intro q_; repeat (first | (with_reducible first | exact q_ | apply below_alloc | apply pw_below_drewN | apply below_drew1 | refine below_set ?_ (Aside0.out (by assumption)) | refine below_set ?_ (IsS102.ge (Aside0.out (by assumption)))) | exact q_)) : P := h q
theorem bs102_ {w W W0 W2 : World} (HB : Aside0 (Below w.heap.size w W0)) (hb : Below W.heap.size W W2) (t : Below w.heap.size w W0 → Below w.heap.size w W := by intro q_; repeat (first | (with_reducible first | exact q_ | apply below_alloc | apply pw_below_drewN | apply below_drew1 | refine below_set ?_ (Aside0.out (by assumption)) | refine below_set ?_ (IsS102.ge (Aside0.out (by assumption)))) | exact q_)) : Aside0 (Below w.heap.size w W2) := ⟨below_step (t HB.out) hb⟩
theorem nl102_ {w0 W W0 : World} {g g2 : Nat} {f0 : List Int} {f1 : Int} {g0 : List Int} {g1 : Int} (hg : g2 = W.heap.size) (h : Aside0 (IsS102 w0 W0 g f0 f1)) (t : IsS102 w0 W0 g f0 f1 → IsS102 w0 W g g0 g1 := by intro q_; repeat (first | (with_reducible first | exact q_ | apply IsS102.alloc | apply IsS102.drewN | apply IsS102.drew | apply IsS102.set_1 | refine IsS102.far ?_ (Aside0.out (by assumption)) _) | exact q_)) : Aside0 (g ≠ g2) := ⟨hg ▸ Nat.ne_of_lt (IsS102.lt (t h.out))⟩
theorem ng102_ {w0 W W0 : World} {g g2 : Nat} {f0 : List Int} {f1 : Int} {g0 : List Int} {g1 : Int} (hg : g2 = W.heap.size) (h : Aside0 (IsS102 w0 W0 g f0 f1)) (t : IsS102 w0 W0 g f0 f1 → IsS102 w0 W g g0 g1 := by intro q_; repeat (first | (with_reducible first | exact q_ | apply IsS102.alloc | apply IsS102.drewN | apply IsS102.drew | apply IsS102.set_1 | refine IsS102.far ?_ (Aside0.out (by assumption)) _) | exact q_)) : Aside0 (g2 ≠ g) := ⟨hg ▸ Nat.ne_of_gt (IsS102.lt (t h.out))⟩
theorem ib102_ {w0 W W0 W2 : World} {g : Nat} {f0 : List Int} {f1 : Int} {g0 : List Int} {g1 : Int} (h : Aside0 (IsS102 w0 W0 g f0 f1)) (hb : Below W.heap.size W W2) (t : IsS102 w0 W0 g f0 f1 → IsS102 w0 W g g0 g1 := by intro q_; repeat (first | (with_reducible first | exact q_ | apply IsS102.alloc | apply IsS102.drewN | apply IsS102.drew | apply IsS102.set_1 | refine IsS102.far ?_ (Aside0.out (by assumption)) _) | exact q_)) : Aside0 (IsS102 w0 W2 g g0 g1) := ⟨IsS102.below (t h.out) hb⟩
theorem rk102_ {w0 W0 W1 W W2 : World} {g : Nat} {f0 : List Int} {f1 : Int} {g0 : List Int} {g1 : Int} {α : Type} {d : Kd α} {e : Nat} {base : Nat} {ok : Nat → Prop} {v : Value} {xs : List α} (h : Aside0 (IsS102 w0 W0 g f0 f1)) (ho : Aside0 (d.R e W1 base ok v xs)) (hk : KeepBut W W2 g none) (t : IsS102 w0 W0 g f0 f1 → IsS102 w0 W g g0 g1 := by intro q_; repeat (first | (with_reducible first | exact q_ | apply IsS102.alloc | apply IsS102.drewN | apply IsS102.drew | apply IsS102.set_1 | refine IsS102.far ?_ (Aside0.out (by assumption)) _) | exact q_)) (s : d.R e W1 base ok v xs → d.R e W base ok v xs := by intro q_; (with_reducible repeat (first | apply Kd.R_alloc | apply Kd.R_drewN | apply Kd.R_drew)); exact q_) (ht : ∀ q, q ∈ e :: d.E → q ≠ 102 := by decide) : Aside0 (d.R e W2 base ok v xs) := ⟨Kd.R_mono (Kd.R_keep (IsS102.apart (t h.out) (s ho.out) ht) hk (fun _ h => h.2)) (fun _ h => h.1)⟩
def spec_l20Open.f (l0 : List Int) : Option (List Int × Int) := if (l0.length : Int) > 2000 then (if 2000 ≤ (l0.length : Int) then (some (l0.take 2000, 0)) else (none)) else (some (l0, 0))
set_option maxHeartbeats 8000000 in
set_option maxRecDepth 100000 in
theorem spec_l20Open.calls (A0 : Option Addr) (c0 : Nat) (l0 : List Int) (r1 : List Int) (r2 : Int) (w0 w : World) (hB : Below w0.heap.size w0 w) (hr0 : Kd.C (Kd.int .u8) w0 A0 l0.length l0) (hc0 : l0.length ≤ c0) (h : spec_l20Open.f l0 = some (r1, r2)) :
  Calls Try.prog 39 #[.slice A0 l0.length c0] w fun e w' => ∃ g_ : Nat, e = .returned (.pointer (some ⟨g_, 0, none⟩)) ∧ IsS102 w0 w' g_ r1 r2 ∧ Below w0.heap.size w0 w' ∧ Below w.heap.size w w' := by
 have hu102 := Try.underlying102; have HR0 := Aside0.mk hr0; have HC0 := Aside0.mk hc0; clear hr0 hc0
 have HBW := Aside0.mk (Below.refl w.heap.size w)
 have HW0 := Aside0.mk hB.size; have HB := Aside0.mk hB; clear hB
 have H : (if (l0.length : Int) > 2000 then (if 2000 ≤ (l0.length : Int) then (some (l0.take 2000, 0)) else (none)) else (some (l0, 0))) = some (r1, r2) := h
 clear h
 by_cases c2 : (l0.length : Int) > 2000
 ·rw [if_pos c2] at H
  have c2b0 : decide (2000 < (l0.length : Int)) = true := decide_eq_true c2
  have c2b1 : decide (2000 < l0.length) = true := decide_eq_true (by omega)
  clear c2
  by_cases c3 : 2000 ≤ (l0.length : Int)
  ·rw [if_pos c3] at H
   have c3b0 := eq_true c3
   have c3b1 : decide (2000 ≤ (l0.length : Int)) = true := decide_eq_true c3
   clear c3
   simp only [Option.some.injEq, Prod.mk.injEq] at H
   obtain ⟨rfl, rfl⟩ := H
   obtain ⟨i04, hi04, _, hsz4, _⟩ := info_parts info5
   obtain ⟨hcut4, hA4, hC4⟩ := print_take_of (P := Try.prog) (Value.int .u8) 0 22 5 .i64 Try.underlying22 hi04 hsz4 A0 c0 l0 2000 (by omega) (of_decide_eq_true (by first | (with_reducible assumption) | assumption)) HC0.out
   have HR278 := Aside0.mk (Kd.C_of_reads (h1 := fun _ => rfl) (hA4 _ (Kd.reads_of_C HR0.out)))
   have HC278 := Aside0.mk hC4; clear hA4 hC4 hi04 hsz4
   go_enter Try.func39, Try.ntmps39
   go_wp2_with (first | ((with_reducible refine gate_dst (N := 10) rfl ?_); refine box_ (N := 10) (cs := #[.slice A0 (l0.take 2000).length c0, .int .i64 0]) (t := 102) (fun gb279 hg w5 hbox hb => ?_); replace HB := (bs_ HB hb); have BK279 := Aside0.mk (hbox); have GW279 := Aside0.mk ((by rw [hg]; exact (below_size (hb0_ HBW.out)) : w.heap.size ≤ gb279)); have GE279 := Aside0.mk ((Nat.le_trans HW0.out (by rw [hg]; exact (below_size (hb0_ HBW.out)) : w.heap.size ≤ gb279) : w0.heap.size ≤ gb279)); replace HBW := Aside0.mk (below_step HBW.out hb); clear hb hbox hg))
   go_ret
   exact ⟨_, rfl, (show IsS102 w0 _ gb279 (l0.take 2000) 0 from ⟨_, _, by refine kb_ ?_; exact BK279.out, GE279.out, HR278.out⟩), hbA_ HB.out, by repeat (first | (with_reducible first | exact HBW.out | apply below_alloc | apply pw_below_drewN | apply below_drew1 | refine below_set ?_ GW279.out) | exact HBW.out)⟩
  ·rw [if_neg c3] at H
   exact absurd H (by simp)
 ·rw [if_neg c2] at H
  have c2b0 : decide (2000 < (l0.length : Int)) = false := decide_eq_false c2
  have c2b1 : decide (2000 < l0.length) = false := decide_eq_false (by omega)
  clear c2
  simp only [Option.some.injEq, Prod.mk.injEq] at H
  obtain ⟨rfl, rfl⟩ := H
  go_enter Try.func39, Try.ntmps39
  go_wp2_with (first | ((with_reducible refine gate_dst (N := 10) rfl ?_); refine box_ (N := 10) (cs := #[.slice A0 l0.length c0, .int .i64 0]) (t := 102) (fun gb280 hg w6 hbox hb => ?_); replace HB := (bs_ HB hb); have BK280 := Aside0.mk (hbox); have GW280 := Aside0.mk ((by rw [hg]; exact (below_size (hb0_ HBW.out)) : w.heap.size ≤ gb280)); have GE280 := Aside0.mk ((Nat.le_trans HW0.out (by rw [hg]; exact (below_size (hb0_ HBW.out)) : w.heap.size ≤ gb280) : w0.heap.size ≤ gb280)); replace HBW := Aside0.mk (below_step HBW.out hb); clear hb hbox hg))
  go_ret
  exact ⟨_, rfl, (show IsS102 w0 _ gb280 l0 0 from ⟨_, _, by refine kb_ ?_; exact BK280.out, GE280.out, HR0.out⟩), hbA_ HB.out, by repeat (first | (with_reducible first | exact HBW.out | apply below_alloc | apply pw_below_drewN | apply below_drew1 | refine below_set ?_ GW280.out) | exact HBW.out)⟩
def spec_l20Rd_pick.j0 : Nat → Int → Bool → List Int → Int → Option (Int × Int)
 | 0, _, _, _, _ => none
 | k + 1, x1, x24, x1000, x1001 => if x24 = true then (some (0, x1001)) else (if (wrap64 (x1001 - 1)) < (x1000.length : Int) then (if 0 ≤ (wrap64 (x1001 - 1)) then (if x1 = 0 then (none) else (some (Int.tmod (wrap64 (rd x1000 (wrap64 (x1001 - 1)))) x1, x1001))) else (none)) else (if (x1000.length : Int) = 0 then (none) else (if 0 ≤ (Int.tmod (wrap64 (x1001 - 1)) (x1000.length : Int)) then (if (Int.tmod (wrap64 (x1001 - 1)) (x1000.length : Int)) < (x1000.length : Int) then (if 0 ≤ (Int.tmod (wrap64 ((wrap64 ((wrap64 (x1001 - 1)) * 7)) + 3)) (x1000.length : Int)) then (if (Int.tmod (wrap64 ((wrap64 ((wrap64 (x1001 - 1)) * 7)) + 3)) (x1000.length : Int)) < (x1000.length : Int) then (if x1 = 0 then (none) else (some (Int.tmod (Go.bits .xor .i64 (wrap64 ((wrap64 ((wrap64 ((wrap64 ((wrap64 (rd x1000 (Int.tmod (wrap64 (x1001 - 1)) (x1000.length : Int)))) * 131)) + (wrap64 ((wrap64 (rd x1000 (Int.tmod (wrap64 ((wrap64 ((wrap64 (x1001 - 1)) * 7)) + 3)) (x1000.length : Int)))) * 1117)))) + (wrap64 ((wrap64 (x1001 - 1)) * 29)))) + (wrap64 ((wrap64 (Int.tdiv (wrap64 (x1001 - 1)) (x1000.length : Int))) * 53)))) (wrap64 (Int.tdiv (wrap64 ((wrap64 ((wrap64 ((wrap64 ((wrap64 (rd x1000 (Int.tmod (wrap64 (x1001 - 1)) (x1000.length : Int)))) * 131)) + (wrap64 ((wrap64 (rd x1000 (Int.tmod (wrap64 ((wrap64 ((wrap64 (x1001 - 1)) * 7)) + 3)) (x1000.length : Int)))) * 1117)))) + (wrap64 ((wrap64 (x1001 - 1)) * 29)))) + (wrap64 ((wrap64 (Int.tdiv (wrap64 (x1001 - 1)) (x1000.length : Int))) * 53)))) 64))) x1, x1001))) else (none)) else (none)) else (none)) else (none))))
def spec_l20Rd_pick.f (k : Nat) (s0_0 : List Int) (s0_1 : Int) (a1 : Int) : Option (Int × Int) := if a1 < 1 then (spec_l20Rd_pick.j0 k a1 true s0_0 (wrap64 (s0_1 + 1))) else (spec_l20Rd_pick.j0 k a1 ((s0_0.length : Int) == 0) s0_0 (wrap64 (s0_1 + 1)))
theorem spec_l20Rd_pick.mono_l : ∀ k, (∀ y0 y1 y2 y3, LeO (spec_l20Rd_pick.j0 k y0 y1 y2 y3) (spec_l20Rd_pick.j0 (k + 1) y0 y1 y2 y3))
 | 0 => fun _ _ _ _ r h => by simp [spec_l20Rd_pick.j0] at h
 | k + 1 => by
  have ih0 := spec_l20Rd_pick.mono_l k
  ·intro y0 y1 y2 y3
   unfold spec_l20Rd_pick.j0
   repeat' first | (with_reducible first | apply ih0 | exact LeO.refl _ | exact LeO.none _ | refine LeO.ite ?_ ?_ | refine LeO.bind ?_ fun _ => ?_) | apply ih0 | exact LeO.none _ | refine LeO.ite ?_ ?_ | refine LeO.bind ?_ fun _ => ?_
theorem spec_l20Rd_pick.mono : ∀ a0 a1 a2 k, LeO (spec_l20Rd_pick.f k a0 a1 a2) (spec_l20Rd_pick.f (k + 1) a0 a1 a2) := by
 intro a0 a1 a2 k
 have ih0 := spec_l20Rd_pick.mono_l k
 unfold spec_l20Rd_pick.f
 repeat' first | (with_reducible first | apply ih0 | exact LeO.refl _ | exact LeO.none _ | refine LeO.ite ?_ ?_ | refine LeO.bind ?_ fun _ => ?_) | apply ih0 | exact LeO.none _ | refine LeO.ite ?_ ?_ | refine LeO.bind ?_ fun _ => ?_
set_option maxHeartbeats 8000000 in
set_option maxRecDepth 100000 in
theorem spec_l20Rd_pick.calls (k : Nat) (g : Nat) (s0_0 : List Int) (s0_1 : Int) (a1 : Int) (r1 : Int) (r2 : Int) (w0 w : World) (hI : IsS102 w0 w g s0_0 s0_1) (hB : Below w0.heap.size w0 w) (h : spec_l20Rd_pick.f k s0_0 s0_1 a1 = some (r1, r2)) :
  Calls Try.prog 40 #[.pointer (some ⟨g, 0, none⟩), .int .i64 a1] w fun e w' => e = .returned (.int .i64 r1) ∧ IsS102 w0 w' g s0_0 r2 ∧ Below w0.heap.size w0 w' ∧ KeepBut w w' g none := by
 have HI0 := Aside0.mk hI
 have HK := Aside0.mk (KeepBut.refl w g none)
 have HL := Aside0.mk hB.size; clear hI; have HW0 := Aside0.mk hB.size; have HB := Aside0.mk hB; clear hB
 have H : (if a1 < 1 then (spec_l20Rd_pick.j0 k a1 true s0_0 (wrap64 (s0_1 + 1))) else (spec_l20Rd_pick.j0 k a1 ((s0_0.length : Int) == 0) s0_0 (wrap64 (s0_1 + 1)))) = some (r1, r2) := h
 clear h; have HC3 := Aside0.mk H; clear H
 obtain ⟨ASz4_0, cSz4_0, HGz4, hgz4, HSz4_0⟩ := HI0.out
 have hcz4_0 := cellS102_0 HGz4
 have hcz4_1 := cellS102_1 HGz4
 have hfz4_1 := blk_frozen HGz4 1; clear HGz4 hgz4
 go_enter Try.func40, Try.ntmps40
 go_upto_region 2 with (fail)
 repeat (go_quiet (fail); go_upto_region 2 with (fail))
 go_cut [24] (fun v24 wc => ∃ (kq : Nat) (x24_2 : Bool), v24 = .bool x24_2 ∧ Aside0 (spec_l20Rd_pick.j0 kq a1 x24_2 s0_0 (wrap64 (s0_1 + 1)) = some (r1, r2)) ∧ Aside0 (kq ≤ k) ∧ Aside0 (IsS102 w0 wc g s0_0 (wrap64 (s0_1 + 1))) ∧ Aside0 (KeepBut w wc g none) ∧ Aside0 (Below w0.heap.size w0 wc))
 case first =>
  have H := HC3.out; clear HC3
  by_cases c5 : a1 < 1
  ·rw [if_pos c5] at H
   have c5b0 : decide (a1 < 1) = true := decide_eq_true c5
   clear c5
   (first | rw [c5b0] | (simp only [i64_w, i32_w]; rw [c5b0]) | skip)
   have H' := Aside0.mk H
   clear H
   go_wp2
   repeat (go_quiet (fail); try go_wp2)
   go_meet
   case rel => exact ⟨_, (true), (by first | rfl | (simp; done) | (simp [*]; done)), H', ⟨by first | omega | exact Nat.le_refl _⟩, ⟨is102_ HI0.out⟩, ⟨hkA_ HK.out⟩, ⟨hb102_ HB.out⟩⟩
  ·rw [if_neg c5] at H
   have c5b0 : decide (a1 < 1) = false := decide_eq_false c5
   clear c5
   (first | rw [c5b0] | (simp only [i64_w, i32_w]; rw [c5b0]) | skip)
   have H' := Aside0.mk H
   clear H
   obtain ⟨ASz6_0, cSz6_0, HGz6, hgz6, HSz6_0⟩ := HI0.out
   have hcz6_0 := cellS102_0 HGz6
   have hcz6_1 := cellS102_1 HGz6
   have hfz6_1 := blk_frozen HGz6 1; clear HGz6 hgz6
   go_wp2
   repeat (go_quiet (fail); try go_wp2)
   go_meet
   case rel => exact ⟨_, (((s0_0.length : Int) == 0)), (by first | rfl | (simp; done) | (simp [*]; done)), H', ⟨by first | omega | exact Nat.le_refl _⟩, ⟨is102_ HI0.out⟩, ⟨hkA_ HK.out⟩, ⟨hb102_ HB.out⟩⟩
 case rest =>
  clear HC3; (try clear p2); (try clear c4); (try clear c5); (try clear c5b0); (try clear p6); (try clear hcz4_0); (try clear hcz4_1); (try clear hcz6_0); (try clear hcz6_1); (try clear hfz4_1); (try clear hfz6_1)
  obtain ⟨kq, x24_2, rfl, HA, HJ2, HI0, HK, HB⟩ := hcut
  cases kq with
  | zero => exact absurd HA.out (by simp [spec_l20Rd_pick.j0])
  | succ kj2 =>
   have H := HA.out; clear HA
   simp only [spec_l20Rd_pick.j0] at H
   by_cases c7 : x24_2 = true
   ·subst c7
    rw [if_pos rfl] at H
    simp only [Option.some.injEq, Prod.mk.injEq] at H
    obtain ⟨rfl, rfl⟩ := H
    go_wp2
    repeat (go_quiet (fail); try go_wp2)
    go_ret
    exact ⟨by first | rfl | (simp [errW_none, errW_some] <;> rfl) | (simp [*, errW_none, errW_some] <;> rfl), is102_ HI0.out, hb102_ HB.out, hkA_ HK.out⟩
   ·replace c7 := Bool.eq_false_iff.mpr c7
    subst c7
    rw [if_neg (show ¬ (false = true) by decide)] at H
    by_cases c8 : (wrap64 ((wrap64 (s0_1 + 1)) - 1)) < (s0_0.length : Int)
    ·rw [if_pos c8] at H
     have c8b0 : decide ((wrap64 ((wrap64 (s0_1 + 1)) - 1)) < (s0_0.length : Int)) = true := decide_eq_true c8
     clear c8
     obtain ⟨ji9, hji9⟩ : ∃ j_ : Int, (wrap64 ((wrap64 (s0_1 + 1)) - 1)) = j_ := ⟨_, rfl⟩
     (first | rw [hji9] at H | simp only [hji9] at H)
     (try rw [hji9] at c8b0)
     have hji9w : (IntKind.i64.wrap ((wrap64 (s0_1 + 1)) - 1)) = ji9 := (i64_w _).trans hji9
     by_cases c10 : 0 ≤ (ji9)
     ·rw [if_pos c10] at H
      have c10b0 : decide (0 ≤ (ji9)) = true := decide_eq_true c10
      clear c10
      by_cases c11 : a1 = 0
      ·rw [if_pos c11] at H
       exact absurd H (by simp)
      ·rw [if_neg c11] at H
       have c11b0 : (a1 == 0) = false := beq_eq_false_iff_ne.mpr c11
       have c11b1 : (a1 != 0) = true := bne_iff_ne.mpr c11
       simp only [Option.some.injEq, Prod.mk.injEq] at H
       obtain ⟨rfl, rfl⟩ := H
       obtain ⟨ASz12_0, cSz12_0, HGz12, hgz12, HSz12_0⟩ := HI0.out
       have hcz12_0 := cellS102_0 HGz12
       have hcz12_1 := cellS102_1 HGz12
       have hfz12_1 := blk_frozen HGz12 1; clear HGz12 hgz12
       have p281 : 0 ≤ ((ji9) : Int) := of_decide_eq_true (by first | (with_reducible assumption) | assumption)
       have q281 : (ji9) < (s0_0.length : Int) := of_decide_eq_true (by first | (with_reducible assumption) | assumption)
       obtain ⟨ad281, e281, hx281_0⟩ := Kd.at_int HSz12_0 (ji9) p281 q281
       cases e281
       replace hx281_0 := pw_cell_below HB.out hx281_0
       replace p281 := eq_true p281
       replace q281 := eq_true q281
       go_wp2
       repeat (go_quiet (fail); try go_wp2)
       go_ret
       exact ⟨by first | rfl | (simp [errW_none, errW_some] <;> rfl) | (simp only [← hji9]; first | rfl | (simp [errW_none, errW_some] <;> rfl)) | (simp [*, errW_none, errW_some] <;> rfl), is102_ HI0.out, hb102_ HB.out, hkA_ HK.out⟩
     ·rw [if_neg c10] at H
      exact absurd H (by simp)
    ·rw [if_neg c8] at H
     have c8b0 : decide ((wrap64 ((wrap64 (s0_1 + 1)) - 1)) < (s0_0.length : Int)) = false := decide_eq_false c8
     clear c8
     by_cases c13 : (s0_0.length : Int) = 0
     ·rw [if_pos c13] at H
      exact absurd H (by simp)
     ·rw [if_neg c13] at H
      have c13b0 : ((s0_0.length : Int) == 0) = false := beq_eq_false_iff_ne.mpr c13
      have c13b1 : ((s0_0.length : Int) != 0) = true := bne_iff_ne.mpr c13
      have c13b2 : ¬ (s0_0 = []) := fun h_ => c13 (by rw [h_]; rfl)
      obtain ⟨ji14, hji14⟩ : ∃ j_ : Int, (Int.tmod (wrap64 ((wrap64 (s0_1 + 1)) - 1)) (s0_0.length : Int)) = j_ := ⟨_, rfl⟩
      (first | rw [hji14] at H | simp only [hji14] at H)
      by_cases c15 : 0 ≤ (ji14)
      ·rw [if_pos c15] at H
       have c15b0 : decide (0 ≤ (ji14)) = true := decide_eq_true c15
       clear c15
       by_cases c16 : (ji14) < (s0_0.length : Int)
       ·rw [if_pos c16] at H
        have c16b0 : decide ((ji14) < (s0_0.length : Int)) = true := decide_eq_true c16
        clear c16
        obtain ⟨ji17, hji17⟩ : ∃ j_ : Int, (Int.tmod (wrap64 ((wrap64 ((wrap64 ((wrap64 (s0_1 + 1)) - 1)) * 7)) + 3)) (s0_0.length : Int)) = j_ := ⟨_, rfl⟩
        (first | rw [hji17] at H | simp only [hji17] at H)
        by_cases c18 : 0 ≤ (ji17)
        ·rw [if_pos c18] at H
         have c18b0 : decide (0 ≤ (ji17)) = true := decide_eq_true c18
         clear c18
         by_cases c19 : (ji17) < (s0_0.length : Int)
         ·rw [if_pos c19] at H
          have c19b0 : decide ((ji17) < (s0_0.length : Int)) = true := decide_eq_true c19
          clear c19
          by_cases c20 : a1 = 0
          ·rw [if_pos c20] at H
           exact absurd H (by simp)
          ·rw [if_neg c20] at H
           have c20b0 : (a1 == 0) = false := beq_eq_false_iff_ne.mpr c20
           have c20b1 : (a1 != 0) = true := bne_iff_ne.mpr c20
           simp only [Option.some.injEq, Prod.mk.injEq] at H
           obtain ⟨rfl, rfl⟩ := H
           obtain ⟨ASz21_0, cSz21_0, HGz21, hgz21, HSz21_0⟩ := HI0.out
           have hcz21_0 := cellS102_0 HGz21
           have hcz21_1 := cellS102_1 HGz21
           have hfz21_1 := blk_frozen HGz21 1; clear HGz21 hgz21
           have p282 : 0 ≤ ((ji14) : Int) := of_decide_eq_true (by first | (with_reducible assumption) | assumption)
           have q282 : (ji14) < (s0_0.length : Int) := of_decide_eq_true (by first | (with_reducible assumption) | assumption)
           obtain ⟨ad282, e282, hx282_0⟩ := Kd.at_int HSz21_0 (ji14) p282 q282
           cases e282
           replace hx282_0 := pw_cell_below HB.out hx282_0
           replace p282 := eq_true p282
           replace q282 := eq_true q282
           have p283 : 0 ≤ ((ji17) : Int) := of_decide_eq_true (by first | (with_reducible assumption) | assumption)
           have q283 : (ji17) < (s0_0.length : Int) := of_decide_eq_true (by first | (with_reducible assumption) | assumption)
           obtain ⟨ad283, e283, hx283_0⟩ := Kd.at_int HSz21_0 (ji17) p283 q283
           obtain rfl : ad282 = ad283 := (by injection e283)
           replace hx283_0 := pw_cell_below HB.out hx283_0
           replace p283 := eq_true p283
           replace q283 := eq_true q283
           go_wp2
           repeat (go_quiet (fail); try go_wp2)
           go_ret
           exact ⟨by first | rfl | (simp [errW_none, errW_some] <;> rfl) | (simp only [← hji14, ← hji17]; first | rfl | (simp [errW_none, errW_some] <;> rfl)) | (simp [*, errW_none, errW_some] <;> rfl), is102_ HI0.out, hb102_ HB.out, hkA_ HK.out⟩
         ·rw [if_neg c19] at H
          exact absurd H (by simp)
        ·rw [if_neg c18] at H
         exact absurd H (by simp)
       ·rw [if_neg c16] at H
        exact absurd H (by simp)
      ·rw [if_neg c15] at H
       exact absurd H (by simp)
def spec_l20Rd_bytes.l0 : Nat → Int → List Int → List Int → Int → Option (List Int × Int)
 | 0, _, _, _, _ => none
 | k + 1, x1, x5, x1000, x1001 => if x1 > 0 then ((spec_l20Rd_pick.f k x1000 x1001 3).bind fun bt287 => (if bt287.1 = 0 then ((spec_l20Rd_pick.f k x1000 bt287.2 256).bind fun bt289 => (if x5.length < 140737488355328 then (spec_l20Rd_bytes.l0 k (wrap64 (x1 - 1)) (x5 ++ [(bt289.1) % 256]) x1000 bt289.2) else (none))) else ((spec_l20Rd_pick.f k x1000 bt287.2 3).bind fun bt294 => (if x5.length < 140737488355328 then (spec_l20Rd_bytes.l0 k (wrap64 (x1 - 1)) (x5 ++ [(wrap64 (bt294.1 + 97)) % 256]) x1000 bt294.2) else (none))))) else (some (x5, x1001))
def spec_l20Rd_bytes.f (k : Nat) (s0_0 : List Int) (s0_1 : Int) (a1 : Int) : Option (List Int × Int) := spec_l20Rd_bytes.l0 k a1 (([] : List Int)) s0_0 s0_1
theorem spec_l20Rd_bytes.mono_l : ∀ k, (∀ y0 y1 y2 y3, LeO (spec_l20Rd_bytes.l0 k y0 y1 y2 y3) (spec_l20Rd_bytes.l0 (k + 1) y0 y1 y2 y3))
 | 0 => fun _ _ _ _ r h => by simp [spec_l20Rd_bytes.l0] at h
 | k + 1 => by
  have ih0 := spec_l20Rd_bytes.mono_l k
  ·intro y0 y1 y2 y3
   unfold spec_l20Rd_bytes.l0
   repeat' first | (with_reducible first | apply ih0 | apply spec_l20Rd_pick.mono | exact LeO.refl _ | exact LeO.none _ | refine LeO.ite ?_ ?_ | refine LeO.bind ?_ fun _ => ?_) | apply ih0 | apply spec_l20Rd_pick.mono | exact LeO.none _ | refine LeO.ite ?_ ?_ | refine LeO.bind ?_ fun _ => ?_
theorem spec_l20Rd_bytes.mono : ∀ a0 a1 a2 k, LeO (spec_l20Rd_bytes.f k a0 a1 a2) (spec_l20Rd_bytes.f (k + 1) a0 a1 a2) := by
 intro a0 a1 a2 k
 have ih0 := spec_l20Rd_bytes.mono_l k
 unfold spec_l20Rd_bytes.f
 repeat' first | (with_reducible first | apply ih0 | apply spec_l20Rd_pick.mono | exact LeO.refl _ | exact LeO.none _ | refine LeO.ite ?_ ?_ | refine LeO.bind ?_ fun _ => ?_) | apply ih0 | apply spec_l20Rd_pick.mono | exact LeO.none _ | refine LeO.ite ?_ ?_ | refine LeO.bind ?_ fun _ => ?_
set_option maxHeartbeats 8000000 in
set_option maxRecDepth 100000 in
theorem spec_l20Rd_bytes.calls (k : Nat) (g : Nat) (s0_0 : List Int) (s0_1 : Int) (a1 : Int) (r1 : List Int) (r2 : Int) (w0 w : World) (hI : IsS102 w0 w g s0_0 s0_1) (hB : Below w0.heap.size w0 w) (h : spec_l20Rd_bytes.f k s0_0 s0_1 a1 = some (r1, r2)) :
  Calls Try.prog 79 #[.pointer (some ⟨g, 0, none⟩), .int .i64 a1] w fun e w' => ∃ v0_ : Value, e = .returned (v0_) ∧ Kd.R (Kd.int .u8) 5 w' w.heap.size (fun _ => True) v0_ r1 ∧ IsS102 w0 w' g s0_0 r2 ∧ Below w0.heap.size w0 w' ∧ KeepBut w w' g none := by
 have HI0 := Aside0.mk hI
 have HK := Aside0.mk (KeepBut.refl w g none)
 have HL := Aside0.mk hB.size; clear hI; have HW0 := Aside0.mk hB.size; have HB := Aside0.mk hB; clear hB
 have H : (spec_l20Rd_bytes.l0 k a1 (([] : List Int)) s0_0 s0_1) = some (r1, r2) := h
 clear h
 obtain ⟨y284, hy284⟩ : ∃ y_ : List Int, y_ = (([] : List Int)) := ⟨_, rfl⟩
 (first | replace H := sb_ hy284 H | rw [← hy284] at H)
 have Ny284 := Aside0.mk hy284; clear hy284
 have H' := Aside0.mk H
 clear H
 go_enter Try.func79, Try.ntmps79
 go_wp2_with (first | ((with_reducible refine gate_dst (N := 6) rfl ?_); refine Kd.R_lit (Kd.int .u8) _ 5 ?hg (N := 6) ?hd (xs := ([] : List Int)) (inner := []) (ok := fun _ => True) (okp := fun _ => True) ?hr ?hp (fun _ hk => hk) trivial (Below.refl _ _) (Nat.le_refl _) (by simp) ?_; (case hd => rfl); (case hg => rfl); (case hr => first | (go_simp; done) | (go_simp; rfl)); (case hp => exact (Reps.none _ _)); intro v285 w3 ho4 hb hg_ hnew_; clear hg_ hnew_; (first | rw [← Ny284.out] at ho4 | (simp only [Int.reduceToNat] at ho4; rw [← Ny284.out] at ho4)); have HO286 := Aside0.mk (Kd.R_lower ho4 (keep_size (w := w) (g := g) (row := none) (hkA_ HK.out))); replace HI0 := (ib102_ HI0 hb); replace HK := (kw_ HK hb); replace HB := (bs102_ HB hb); clear hb ho4))
 go_loopg [1, 5] k (fun kq v1 v5 w' => ∃ (x1_1 : Int) (x5_1 : List Int) (x1001_1 : Int), v1 = .int .i64 x1_1 ∧ Aside0 (spec_l20Rd_bytes.l0 kq x1_1 x5_1 s0_0 x1001_1 = some (r1, r2)) ∧ Aside0 (kq ≤ k) ∧ Aside0 (Kd.R (Kd.int .u8) 5 w' w.heap.size (fun _ => True) v5 x5_1) ∧ Aside0 (IsS102 w0 w' g s0_0 x1001_1) ∧ Aside0 (KeepBut w w' g none) ∧ Aside0 (Below w0.heap.size w0 w'))
 case atStart => exact ⟨(a1), (y284), (s0_1), (by first | rfl | (simp; done) | (simp [*]; done)), H', ⟨Nat.le_refl _⟩, ⟨kR_ HO286.out⟩, ⟨is102_ HI0.out⟩, ⟨hkA_ HK.out⟩, ⟨hb102_ HB.out⟩⟩
 case round =>
  clear H'; (try clear p2)
  obtain ⟨x1_1, x5_1, x1001_1, rfl, HA, HK1, HO_5, HI0, HK, HB⟩ := hrel
  cases gk with
  | zero => exact absurd HA.out (by simp [spec_l20Rd_bytes.l0])
  | succ k1 =>
   have H := HA.out; clear HA
   simp only [spec_l20Rd_bytes.l0] at H
   by_cases c5 : x1_1 > 0
   ·rw [if_pos c5] at H
    have c5b0 : decide (0 < x1_1) = true := decide_eq_true c5
    clear c5
    replace H := Option.bind_eq_some_iff.mp H
    obtain ⟨⟨t287, t288⟩, A60, H⟩ := H
    (try dsimp only at H)
    have A6 := Aside0.mk A60; clear A60
    by_cases c7 : t287 = 0
    ·rw [if_pos c7] at H
     have c7b0 : (t287 == 0) = true := beq_iff_eq.mpr c7
     have c7b1 : (t287 != 0) = false := bne_eq_false_iff_eq.mpr c7
     clear c7
     replace H := Option.bind_eq_some_iff.mp H
     obtain ⟨⟨t289, t290⟩, A80, H⟩ := H
     (try dsimp only at H)
     have A8 := Aside0.mk A80; clear A80
     by_cases c9 : x5_1.length < 140737488355328
     ·rw [if_pos c9] at H
      have LMc9 := Aside0.mk c9; clear c9
      obtain ⟨y291, hy291⟩ : ∃ y_ : List Int, y_ = (x5_1 ++ [(t289) % 256]) := ⟨_, rfl⟩
      (first | replace H := sb_ hy291 H | rw [← hy291] at H)
      have Ny291 := Aside0.mk hy291; clear hy291
      have H' := Aside0.mk H
      clear H
      go_wp2_with (first | ((with_reducible refine gate_callee (f := 40) rfl ?_); refine goesL_ (some 12) rfl rfl Try.func40 (by kernel_rfl) rfl #[.pointer (some ⟨g, 0, none⟩), .int .i64 3] rfl ar_ ?_; (with_reducible refine (spec_l20Rd_pick.calls k1 g s0_0 x1001_1 3 t287 t288 w0 _ ?side1 ?side2 A6.out).mono ?_); (case side1 => exact is102_ HI0.out); (case side2 => exact hb102_ HB.out); rintro e w10 ⟨rfl, hi, hb, hk⟩; refine ⟨_, rfl, ?_⟩; replace HO_5 := (rk102_ HI0 HO_5 hk); replace HK := (kk_ HK hk); replace HB := Aside0.mk (hb); replace HI0 := Aside0.mk (hi); (try clear hb); (try clear hb2); (try clear hk); (try clear hi)) | ((with_reducible refine gate_callee (f := 40) rfl ?_); refine goesL_ (some 16) rfl rfl Try.func40 (by kernel_rfl) rfl #[.pointer (some ⟨g, 0, none⟩), .int .i64 256] rfl ar_ ?_; (with_reducible refine (spec_l20Rd_pick.calls k1 g s0_0 t288 256 t289 t290 w0 _ ?side1 ?side2 A8.out).mono ?_); (case side1 => exact is102_ HI0.out); (case side2 => exact hb102_ HB.out); rintro e w11 ⟨rfl, hi, hb, hk⟩; refine ⟨_, rfl, ?_⟩; replace HO_5 := (rk102_ HI0 HO_5 hk); replace HK := (kk_ HK hk); replace HB := Aside0.mk (hb); replace HI0 := Aside0.mk (hi); (try clear hb); (try clear hb2); (try clear hk); (try clear hi)) | ((with_reducible refine gate_builtin (b := .append) (xs := #[.tmp 14, .tmp 18]) rfl ?_); at_builtin; refine Kd.R_append (Kd.int .u8) w.heap.size rfl (.tmp 14) (.tmp 18) 22 5 (.int .u8 0) 1 rfl Try.underlying22 info5 rfl (by decide) (by omega) u5 x5_1 ((t289) % 256) [.int .u8 ((t289) % 256)] (fun _ => True) (fun _ => False) rfl rfl ?aP (fun _ hk => hk.elim) ?aF ?aO (Below.refl _ _) ?aS ?aL ?_; (case aP => exact rfl); (case aF => exact (fun _ _ => trivial)); (case aO => exact (kR_ HO_5.out)); (case aS => exact (keep_size (w := w) (g := g) (row := none) (hkA_ HK.out))); (case aL => have := LMc9.out; omega); intro v292 w12 ho hb hg hat; rw [← Ny291.out] at ho; replace HI0 := Aside0.mk (IsS102.grown (is102_ HI0.out) hg (IsS102.own_ne HI0.out HO_5.out (by decide))); replace HB := Aside0.mk (below_weaken (hb102_ HB.out) HL.out hb); replace HK := Aside0.mk (KeepBut.trans (hkA_ HK.out) (KeepBut.of_grown hg g) (Kd.R_base2 HO_5.out)); have HO293 := Aside0.mk (ho); clear HO_5; clear ho hb hg hat))
      go_roundg k1
      case measure => have := HK1.out; omega
      case rel => exact ⟨(wrap64 (x1_1 - 1)), (y291), (t290), (by first | rfl | (simp; done) | (simp [*]; done)), H', ⟨by have := HK1.out; omega⟩, ⟨kR_ HO293.out⟩, ⟨is102_ HI0.out⟩, ⟨hkA_ HK.out⟩, ⟨hb102_ HB.out⟩⟩
     ·rw [if_neg c9] at H
      exact absurd H (by simp)
    ·rw [if_neg c7] at H
     have c7b0 : (t287 == 0) = false := beq_eq_false_iff_ne.mpr c7
     have c7b1 : (t287 != 0) = true := bne_iff_ne.mpr c7
     replace H := Option.bind_eq_some_iff.mp H
     obtain ⟨⟨t294, t295⟩, A130, H⟩ := H
     (try dsimp only at H)
     have A13 := Aside0.mk A130; clear A130
     by_cases c14 : x5_1.length < 140737488355328
     ·rw [if_pos c14] at H
      have LMc14 := Aside0.mk c14; clear c14
      obtain ⟨y296, hy296⟩ : ∃ y_ : List Int, y_ = (x5_1 ++ [(wrap64 (t294 + 97)) % 256]) := ⟨_, rfl⟩
      (first | replace H := sb_ hy296 H | rw [← hy296] at H)
      have Ny296 := Aside0.mk hy296; clear hy296
      have H' := Aside0.mk H
      clear H
      go_wp2_with (first | ((with_reducible refine gate_callee (f := 40) rfl ?_); refine goesL_ (some 12) rfl rfl Try.func40 (by kernel_rfl) rfl #[.pointer (some ⟨g, 0, none⟩), .int .i64 3] rfl ar_ ?_; (with_reducible refine (spec_l20Rd_pick.calls k1 g s0_0 x1001_1 3 t287 t288 w0 _ ?side1 ?side2 A6.out).mono ?_); (case side1 => exact is102_ HI0.out); (case side2 => exact hb102_ HB.out); rintro e w15 ⟨rfl, hi, hb, hk⟩; refine ⟨_, rfl, ?_⟩; replace HO_5 := (rk102_ HI0 HO_5 hk); replace HK := (kk_ HK hk); replace HB := Aside0.mk (hb); replace HI0 := Aside0.mk (hi); (try clear hb); (try clear hb2); (try clear hk); (try clear hi)) | ((with_reducible refine gate_callee (f := 40) rfl ?_); refine goesL_ (some 22) rfl rfl Try.func40 (by kernel_rfl) rfl #[.pointer (some ⟨g, 0, none⟩), .int .i64 3] rfl ar_ ?_; (with_reducible refine (spec_l20Rd_pick.calls k1 g s0_0 t288 3 t294 t295 w0 _ ?side1 ?side2 A13.out).mono ?_); (case side1 => exact is102_ HI0.out); (case side2 => exact hb102_ HB.out); rintro e w16 ⟨rfl, hi, hb, hk⟩; refine ⟨_, rfl, ?_⟩; replace HO_5 := (rk102_ HI0 HO_5 hk); replace HK := (kk_ HK hk); replace HB := Aside0.mk (hb); replace HI0 := Aside0.mk (hi); (try clear hb); (try clear hb2); (try clear hk); (try clear hi)) | ((with_reducible refine gate_builtin (b := .append) (xs := #[.tmp 20, .tmp 25]) rfl ?_); at_builtin; refine Kd.R_append (Kd.int .u8) w.heap.size rfl (.tmp 20) (.tmp 25) 22 5 (.int .u8 0) 1 rfl Try.underlying22 info5 rfl (by decide) (by omega) u5 x5_1 ((wrap64 (t294 + 97)) % 256) [.int .u8 ((wrap64 (t294 + 97)) % 256)] (fun _ => True) (fun _ => False) rfl rfl ?aP (fun _ hk => hk.elim) ?aF ?aO (Below.refl _ _) ?aS ?aL ?_; (case aP => exact rfl); (case aF => exact (fun _ _ => trivial)); (case aO => exact (kR_ HO_5.out)); (case aS => exact (keep_size (w := w) (g := g) (row := none) (hkA_ HK.out))); (case aL => have := LMc14.out; omega); intro v297 w17 ho hb hg hat; rw [← Ny296.out] at ho; replace HI0 := Aside0.mk (IsS102.grown (is102_ HI0.out) hg (IsS102.own_ne HI0.out HO_5.out (by decide))); replace HB := Aside0.mk (below_weaken (hb102_ HB.out) HL.out hb); replace HK := Aside0.mk (KeepBut.trans (hkA_ HK.out) (KeepBut.of_grown hg g) (Kd.R_base2 HO_5.out)); have HO298 := Aside0.mk (ho); clear HO_5; clear ho hb hg hat))
      go_roundg k1
      case measure => have := HK1.out; omega
      case rel => exact ⟨(wrap64 (x1_1 - 1)), (y296), (t295), (by first | rfl | (simp; done) | (simp [*]; done)), H', ⟨by have := HK1.out; omega⟩, ⟨kR_ HO298.out⟩, ⟨is102_ HI0.out⟩, ⟨hkA_ HK.out⟩, ⟨hb102_ HB.out⟩⟩
     ·rw [if_neg c14] at H
      exact absurd H (by simp)
   ·rw [if_neg c5] at H
    have c5b0 : decide (0 < x1_1) = false := decide_eq_false c5
    clear c5
    simp only [Option.some.injEq, Prod.mk.injEq] at H
    obtain ⟨rfl, rfl⟩ := H
    go_wp2
    go_ret
    exact ⟨_, by first | rfl | (simp [errW_none, errW_some] <;> rfl) | (simp [*, errW_none, errW_some] <;> rfl), kR_ HO_5.out, is102_ HI0.out, hb102_ HB.out, hkA_ HK.out⟩
def spec_l20Rd_odd.f (k : Nat) (s0_0 : List Int) (s0_1 : Int) (a1 : Int) : Option (Bool × Int) := if a1 > 0 then ((spec_l20Rd_pick.f k s0_0 s0_1 a1).bind fun bt299 => (some ((bt299.1 == (wrap64 (a1 - 1))), bt299.2))) else (some (false, s0_1))
theorem spec_l20Rd_odd.mono : ∀ a0 a1 a2 k, LeO (spec_l20Rd_odd.f k a0 a1 a2) (spec_l20Rd_odd.f (k + 1) a0 a1 a2) := by
 intro a0 a1 a2 k
 unfold spec_l20Rd_odd.f
 repeat' first | (with_reducible first | apply spec_l20Rd_pick.mono | exact LeO.refl _ | exact LeO.none _ | refine LeO.ite ?_ ?_ | refine LeO.bind ?_ fun _ => ?_) | apply spec_l20Rd_pick.mono | exact LeO.none _ | refine LeO.ite ?_ ?_ | refine LeO.bind ?_ fun _ => ?_
set_option maxHeartbeats 8000000 in
set_option maxRecDepth 100000 in
theorem spec_l20Rd_odd.calls (k : Nat) (g : Nat) (s0_0 : List Int) (s0_1 : Int) (a1 : Int) (r1 : Bool) (r2 : Int) (w0 w : World) (hI : IsS102 w0 w g s0_0 s0_1) (hB : Below w0.heap.size w0 w) (h : spec_l20Rd_odd.f k s0_0 s0_1 a1 = some (r1, r2)) :
  Calls Try.prog 80 #[.pointer (some ⟨g, 0, none⟩), .int .i64 a1] w fun e w' => e = .returned (.bool r1) ∧ IsS102 w0 w' g s0_0 r2 ∧ Below w0.heap.size w0 w' ∧ KeepBut w w' g none := by
 have HI0 := Aside0.mk hI
 have HK := Aside0.mk (KeepBut.refl w g none)
 have HL := Aside0.mk hB.size; clear hI; have HW0 := Aside0.mk hB.size; have HB := Aside0.mk hB; clear hB
 have H : (if a1 > 0 then ((spec_l20Rd_pick.f k s0_0 s0_1 a1).bind fun bt299 => (some ((bt299.1 == (wrap64 (a1 - 1))), bt299.2))) else (some (false, s0_1))) = some (r1, r2) := h
 clear h
 by_cases c3 : a1 > 0
 ·rw [if_pos c3] at H
  have c3b0 : decide (0 < a1) = true := decide_eq_true c3
  clear c3
  replace H := Option.bind_eq_some_iff.mp H
  obtain ⟨⟨t299, t300⟩, A40, H⟩ := H
  (try dsimp only at H)
  have A4 := Aside0.mk A40; clear A40
  simp only [Option.some.injEq, Prod.mk.injEq] at H
  obtain ⟨rfl, rfl⟩ := H
  go_enter Try.func80, Try.ntmps80
  go_wp2_with (first | (go_at_call 40; (with_reducible refine (spec_l20Rd_pick.calls k g s0_0 s0_1 a1 t299 t300 w0 _ ?side1 ?side2 A4.out).mono ?_); (case side1 => exact is102_ HI0.out); (case side2 => exact hb102_ HB.out); rintro e w5 ⟨rfl, hi, hb, hk⟩; replace HK := (kk_ HK hk); replace HB := Aside0.mk (hb); replace HI0 := Aside0.mk (hi); (try clear hb); (try clear hb2); (try clear hk); (try clear hi)))
  go_ret
  exact ⟨by first | rfl | (simp [errW_none, errW_some] <;> rfl) | (simp [*, errW_none, errW_some] <;> rfl), is102_ HI0.out, hb102_ HB.out, hkA_ HK.out⟩
 ·rw [if_neg c3] at H
  have c3b0 : decide (0 < a1) = false := decide_eq_false c3
  clear c3
  simp only [Option.some.injEq, Prod.mk.injEq] at H
  obtain ⟨rfl, rfl⟩ := H
  go_enter Try.func80, Try.ntmps80
  go_wp2
  go_ret
  exact ⟨by first | rfl | (simp [errW_none, errW_some] <;> rfl) | (simp [*, errW_none, errW_some] <;> rfl), is102_ HI0.out, hb102_ HB.out, hkA_ HK.out⟩
def spec_l20Rd_seq.f (k : Nat) (s0_0 : List Int) (s0_1 : Int) : Option (Int × Int) := (spec_l20Rd_pick.f k s0_0 s0_1 9).bind fun bt301 => ((spec_l20Rd_pick.f k s0_0 bt301.2 9).bind fun bt303 => ((spec_l20Rd_pick.f k s0_0 bt303.2 5).bind fun bt305 => ((spec_l20Rd_pick.f k s0_0 bt305.2 256).bind fun bt307 => ((spec_l20Rd_pick.f k s0_0 bt307.2 256).bind fun bt309 => ((some (([bt301.1, wrap64 (65535 - bt303.1), wrap64 ((wrap64 (32768 + bt305.1)) - 2), wrap64 ((wrap64 (bt307.1 * 256)) + bt309.1)] : List Int) : List Int)).bind fun y311 => ((spec_l20Rd_pick.f k s0_0 bt309.2 4).bind fun bt314 => (if 0 ≤ bt314.1 then (if bt314.1 < (y311.length : Int) then (some (rd y311 bt314.1, bt314.2)) else (none)) else (none))))))))
theorem spec_l20Rd_seq.mono : ∀ a0 a1 k, LeO (spec_l20Rd_seq.f k a0 a1) (spec_l20Rd_seq.f (k + 1) a0 a1) := by
 intro a0 a1 k
 unfold spec_l20Rd_seq.f
 repeat' first | (with_reducible first | apply spec_l20Rd_pick.mono | exact LeO.refl _ | exact LeO.none _ | refine LeO.ite ?_ ?_ | refine LeO.bind ?_ fun _ => ?_) | apply spec_l20Rd_pick.mono | exact LeO.none _ | refine LeO.ite ?_ ?_ | refine LeO.bind ?_ fun _ => ?_
set_option maxHeartbeats 8000000 in
set_option maxRecDepth 100000 in
theorem spec_l20Rd_seq.calls (k : Nat) (g : Nat) (s0_0 : List Int) (s0_1 : Int) (r1 : Int) (r2 : Int) (w0 w : World) (hI : IsS102 w0 w g s0_0 s0_1) (hB : Below w0.heap.size w0 w) (h : spec_l20Rd_seq.f k s0_0 s0_1 = some (r1, r2)) :
  Calls Try.prog 95 #[.pointer (some ⟨g, 0, none⟩)] w fun e w' => e = .returned (.int .i64 r1) ∧ IsS102 w0 w' g s0_0 r2 ∧ Below w0.heap.size w0 w' ∧ KeepBut w w' g none := by
 have HI0 := Aside0.mk hI
 have HK := Aside0.mk (KeepBut.refl w g none)
 have HL := Aside0.mk hB.size; clear hI; have HW0 := Aside0.mk hB.size; have HB := Aside0.mk hB; clear hB
 have H : ((spec_l20Rd_pick.f k s0_0 s0_1 9).bind fun bt301 => ((spec_l20Rd_pick.f k s0_0 bt301.2 9).bind fun bt303 => ((spec_l20Rd_pick.f k s0_0 bt303.2 5).bind fun bt305 => ((spec_l20Rd_pick.f k s0_0 bt305.2 256).bind fun bt307 => ((spec_l20Rd_pick.f k s0_0 bt307.2 256).bind fun bt309 => ((some (([bt301.1, wrap64 (65535 - bt303.1), wrap64 ((wrap64 (32768 + bt305.1)) - 2), wrap64 ((wrap64 (bt307.1 * 256)) + bt309.1)] : List Int) : List Int)).bind fun y311 => ((spec_l20Rd_pick.f k s0_0 bt309.2 4).bind fun bt314 => (if 0 ≤ bt314.1 then (if bt314.1 < (y311.length : Int) then (some (rd y311 bt314.1, bt314.2)) else (none)) else (none))))))))) = some (r1, r2) := h
 clear h
 replace H := Option.bind_eq_some_iff.mp H
 obtain ⟨⟨t301, t302⟩, A20, H⟩ := H
 (try dsimp only at H)
 have A2 := Aside0.mk A20; clear A20
 replace H := Option.bind_eq_some_iff.mp H
 obtain ⟨⟨t303, t304⟩, A30, H⟩ := H
 (try dsimp only at H)
 have A3 := Aside0.mk A30; clear A30
 replace H := Option.bind_eq_some_iff.mp H
 obtain ⟨⟨t305, t306⟩, A40, H⟩ := H
 (try dsimp only at H)
 have A4 := Aside0.mk A40; clear A40
 replace H := Option.bind_eq_some_iff.mp H
 obtain ⟨⟨t307, t308⟩, A50, H⟩ := H
 (try dsimp only at H)
 have A5 := Aside0.mk A50; clear A50
 replace H := Option.bind_eq_some_iff.mp H
 obtain ⟨⟨t309, t310⟩, A60, H⟩ := H
 (try dsimp only at H)
 have A6 := Aside0.mk A60; clear A60
 obtain ⟨y311, hy311⟩ : ∃ y_ : List Int, y_ = (([t301, wrap64 (65535 - t303), wrap64 ((wrap64 (32768 + t305)) - 2), wrap64 ((wrap64 (t307 * 256)) + t309)] : List Int)) := ⟨_, rfl⟩
 (first | replace H := sb_ hy311 H | rw [← hy311] at H)
 have Ny311 := Aside0.mk hy311; clear hy311
 replace H := Option.bind_eq_some_iff.mp H
 obtain ⟨⟨t314, t315⟩, A70, H⟩ := H
 (try dsimp only at H)
 have A7 := Aside0.mk A70; clear A70
 by_cases c8 : 0 ≤ t314
 ·rw [if_pos c8] at H
  have c8b0 : decide (0 ≤ t314) = true := decide_eq_true c8
  clear c8
  by_cases c9 : t314 < (y311.length : Int)
  ·rw [if_pos c9] at H
   have c9b0 : decide (t314 < (y311.length : Int)) = true := decide_eq_true c9
   clear c9
   simp only [Option.some.injEq, Prod.mk.injEq] at H
   obtain ⟨rfl, rfl⟩ := H
   go_enter Try.func95, Try.ntmps95
   go_wp2_with (first | ((with_reducible refine gate_callee (f := 40) rfl ?_); refine goesL_ (some 4) rfl rfl Try.func40 (by kernel_rfl) rfl #[.pointer (some ⟨g, 0, none⟩), .int .i64 9] rfl ar_ ?_; (with_reducible refine (spec_l20Rd_pick.calls k g s0_0 s0_1 9 t301 t302 w0 _ ?side1 ?side2 A2.out).mono ?_); (case side1 => exact is102_ HI0.out); (case side2 => exact hb102_ HB.out); rintro e w10 ⟨rfl, hi, hb, hk⟩; refine ⟨_, rfl, ?_⟩; replace HK := (kk_ HK hk); replace HB := Aside0.mk (hb); replace HI0 := Aside0.mk (hi); (try clear hb); (try clear hb2); (try clear hk); (try clear hi)) | ((with_reducible refine gate_callee (f := 40) rfl ?_); refine goesL_ (some 6) rfl rfl Try.func40 (by kernel_rfl) rfl #[.pointer (some ⟨g, 0, none⟩), .int .i64 9] rfl ar_ ?_; (with_reducible refine (spec_l20Rd_pick.calls k g s0_0 t302 9 t303 t304 w0 _ ?side1 ?side2 A3.out).mono ?_); (case side1 => exact is102_ HI0.out); (case side2 => exact hb102_ HB.out); rintro e w11 ⟨rfl, hi, hb, hk⟩; refine ⟨_, rfl, ?_⟩; replace HK := (kk_ HK hk); replace HB := Aside0.mk (hb); replace HI0 := Aside0.mk (hi); (try clear hb); (try clear hb2); (try clear hk); (try clear hi)) | ((with_reducible refine gate_callee (f := 40) rfl ?_); refine goesL_ (some 9) rfl rfl Try.func40 (by kernel_rfl) rfl #[.pointer (some ⟨g, 0, none⟩), .int .i64 5] rfl ar_ ?_; (with_reducible refine (spec_l20Rd_pick.calls k g s0_0 t304 5 t305 t306 w0 _ ?side1 ?side2 A4.out).mono ?_); (case side1 => exact is102_ HI0.out); (case side2 => exact hb102_ HB.out); rintro e w12 ⟨rfl, hi, hb, hk⟩; refine ⟨_, rfl, ?_⟩; replace HK := (kk_ HK hk); replace HB := Aside0.mk (hb); replace HI0 := Aside0.mk (hi); (try clear hb); (try clear hb2); (try clear hk); (try clear hi)) | ((with_reducible refine gate_callee (f := 40) rfl ?_); refine goesL_ (some 13) rfl rfl Try.func40 (by kernel_rfl) rfl #[.pointer (some ⟨g, 0, none⟩), .int .i64 256] rfl ar_ ?_; (with_reducible refine (spec_l20Rd_pick.calls k g s0_0 t306 256 t307 t308 w0 _ ?side1 ?side2 A5.out).mono ?_); (case side1 => exact is102_ HI0.out); (case side2 => exact hb102_ HB.out); rintro e w13 ⟨rfl, hi, hb, hk⟩; refine ⟨_, rfl, ?_⟩; replace HK := (kk_ HK hk); replace HB := Aside0.mk (hb); replace HI0 := Aside0.mk (hi); (try clear hb); (try clear hb2); (try clear hk); (try clear hi)) | ((with_reducible refine gate_callee (f := 40) rfl ?_); refine goesL_ (some 16) rfl rfl Try.func40 (by kernel_rfl) rfl #[.pointer (some ⟨g, 0, none⟩), .int .i64 256] rfl ar_ ?_; (with_reducible refine (spec_l20Rd_pick.calls k g s0_0 t308 256 t309 t310 w0 _ ?side1 ?side2 A6.out).mono ?_); (case side1 => exact is102_ HI0.out); (case side2 => exact hb102_ HB.out); rintro e w14 ⟨rfl, hi, hb, hk⟩; refine ⟨_, rfl, ?_⟩; replace HK := (kk_ HK hk); replace HB := Aside0.mk (hb); replace HI0 := Aside0.mk (hi); (try clear hb); (try clear hb2); (try clear hk); (try clear hi)) | ((with_reducible refine gate_dst (N := 18) rfl ?_); refine Kd.R_lit (Kd.int .i64) _ 3 ?hg (N := 18) ?hd (xs := ([t301, wrap64 (65535 - t303), wrap64 ((wrap64 (32768 + t305)) - 2), wrap64 ((wrap64 (t307 * 256)) + t309)] : List Int)) (inner := [.int .i64 t301, .int .i64 (wrap64 (65535 - t303)), .int .i64 (wrap64 ((wrap64 (32768 + t305)) - 2)), .int .i64 (wrap64 ((wrap64 (t307 * 256)) + t309))]) (ok := fun _ => True) (okp := fun _ => True) ?hr ?hp (fun _ hk => hk) trivial (Below.refl _ _) (Nat.le_refl _) (by simp) ?_; (case hd => rfl); (case hg => rfl); (case hr => first | (go_simp; done) | (go_simp; rfl)); (case hp => exact (Reps.one (show Kd.M (Kd.int .i64) _ _ _ t301 [.int .i64 t301] from rfl) (Reps.one (show Kd.M (Kd.int .i64) _ _ _ (wrap64 (65535 - t303)) [.int .i64 (wrap64 (65535 - t303))] from rfl) (Reps.one (show Kd.M (Kd.int .i64) _ _ _ (wrap64 ((wrap64 (32768 + t305)) - 2)) [.int .i64 (wrap64 ((wrap64 (32768 + t305)) - 2))] from rfl) (Reps.one (show Kd.M (Kd.int .i64) _ _ _ (wrap64 ((wrap64 (t307 * 256)) + t309)) [.int .i64 (wrap64 ((wrap64 (t307 * 256)) + t309))] from rfl) (Reps.none _ _)))))); intro v312 w15 ho16 hb hg_ hnew_; clear hg_ hnew_; (first | rw [← Ny311.out] at ho16 | (simp only [Int.reduceToNat] at ho16; rw [← Ny311.out] at ho16)); have HO313 := Aside0.mk (Kd.R_lower ho16 (keep_size (w := w) (g := g) (row := none) (hkA_ HK.out))); replace HI0 := (ib102_ HI0 hb); replace HK := (kw_ HK hb); replace HB := (bs102_ HB hb); clear hb ho16) | ((with_reducible refine gate_callee (f := 40) rfl ?_); refine goesL_ (some 20) rfl rfl Try.func40 (by kernel_rfl) rfl #[.pointer (some ⟨g, 0, none⟩), .int .i64 4] rfl ar_ ?_; (with_reducible refine (spec_l20Rd_pick.calls k g s0_0 t310 4 t314 t315 w0 _ ?side1 ?side2 A7.out).mono ?_); (case side1 => exact is102_ HI0.out); (case side2 => exact hb102_ HB.out); rintro e w17 ⟨rfl, hi, hb, hk⟩; refine ⟨_, rfl, ?_⟩; replace HO313 := (rk102_ HI0 HO313 hk); replace HK := (kk_ HK hk); replace HB := Aside0.mk (hb); replace HI0 := Aside0.mk (hi); (try clear hb); (try clear hb2); (try clear hk); (try clear hi); obtain ⟨Ao18, co18, eo18⟩ := Kd.R_slice HO313.out; subst eo18; have p316 : 0 ≤ (t314 : Int) := of_decide_eq_true (by first | (with_reducible assumption) | assumption); have q316 : t314 < (y311.length : Int) := of_decide_eq_true (by first | (with_reducible assumption) | assumption); obtain ⟨ad316, e316, hx316_0⟩ := Kd.at_int (Kd.R_reads' HO313.out).2.2 t314 p316 q316; cases e316; replace p316 := eq_true p316; replace q316 := eq_true q316))
   go_ret
   exact ⟨by first | rfl | (simp [errW_none, errW_some] <;> rfl) | (simp [*, errW_none, errW_some] <;> rfl), is102_ HI0.out, hb102_ HB.out, hkA_ HK.out⟩
  ·rw [if_neg c9] at H
   exact absurd H (by simp)
 ·rw [if_neg c8] at H
  exact absurd H (by simp)
end Go.Proofs.Ytpbeljcgcdilnaa.PFnSegmentBytes
