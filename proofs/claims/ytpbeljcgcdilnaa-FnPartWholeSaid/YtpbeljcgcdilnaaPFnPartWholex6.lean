/- Printed by wip/xp/xprint.sh out of the translation, for this claim: what each function answers, as a plain function, and that the machine does just that. No condition. -/
import Derived.Test.YtpbeljcgcdilnaaPFnPartWholex0
import Derived.Test.YtpbeljcgcdilnaaPFnPartWholex3
import Derived.Test.YtpbeljcgcdilnaaPFnPartWholex4
import Derived.Test.YtpbeljcgcdilnaaPFnPartWholex5
namespace Go.Proofs.Ytpbeljcgcdilnaa.PFnPartWhole
open Go.RowKit Go.Proofs.YtpbeljcgcdilnaaW.PrintWords Go.Proofs.YtpbeljcgcdilnaaW.PrintLast Go.Proofs.YtpbeljcgcdilnaaW.PrintMore
attribute [local go_sem] max2_int min2_int max_two min_two max_three min_three max_four min_four   -- for this text's walks alone
set_option linter.unusedVariables false
set_option linter.unusedSimpArgs false
def laws_samePacket.f (a0_0 : Int) (a0_1 : Int) (a0_2 : Int) (a0_3 : Int) (a0_4 : Int) (a0_5 : Int) (a0_6 : Bool) (a0_7 : Bool) (l0_8 : List Int) (a1_0 : Int) (a1_1 : Int) (a1_2 : Int) (a1_3 : Int) (a1_4 : Int) (a1_5 : Int) (a1_6 : Bool) (a1_7 : Bool) (l1_8 : List Int) : Option (Bool) := if a0_0 = a1_0 then (if a0_1 = a1_1 then (if a0_2 = a1_2 then (if a0_3 = a1_3 then (if a0_4 = a1_4 then (if a0_5 = a1_5 then (if (a0_6 == a1_6) = true then (if (a0_7 == a1_7) = true then ((laws_sameBytes.f l0_8 l1_8).bind fun t390 => (some t390)) else (some false)) else (some false)) else (some false)) else (some false)) else (some false)) else (some false)) else (some false)) else (some false)
set_option maxHeartbeats 8000000 in
set_option maxRecDepth 100000 in
theorem laws_samePacket.calls (a0_0 : Int) (a0_1 : Int) (a0_2 : Int) (a0_3 : Int) (a0_4 : Int) (a0_5 : Int) (a0_6 : Bool) (a0_7 : Bool) (A0_8 : Option Addr) (c0_8 : Nat) (l0_8 : List Int) (a1_0 : Int) (a1_1 : Int) (a1_2 : Int) (a1_3 : Int) (a1_4 : Int) (a1_5 : Int) (a1_6 : Bool) (a1_7 : Bool) (A1_8 : Option Addr) (c1_8 : Nat) (l1_8 : List Int) (r : Bool) (w : World) (hr0_8 : Kd.C (Kd.int .u8) w A0_8 l0_8.length l0_8) (hc0_8 : l0_8.length ≤ c0_8) (hr1_8 : Kd.C (Kd.int .u8) w A1_8 l1_8.length l1_8) (hc1_8 : l1_8.length ≤ c1_8) (h : laws_samePacket.f a0_0 a0_1 a0_2 a0_3 a0_4 a0_5 a0_6 a0_7 l0_8 a1_0 a1_1 a1_2 a1_3 a1_4 a1_5 a1_6 a1_7 l1_8 = some r) :
  Calls Try.prog 12 #[.agg #[.int .i64 a0_0, .int .i64 a0_1, .int .i64 a0_2, .int .i64 a0_3, .int .i64 a0_4, .int .i64 a0_5, .bool a0_6, .bool a0_7, .slice A0_8 l0_8.length c0_8], .agg #[.int .i64 a1_0, .int .i64 a1_1, .int .i64 a1_2, .int .i64 a1_3, .int .i64 a1_4, .int .i64 a1_5, .bool a1_6, .bool a1_7, .slice A1_8 l1_8.length c1_8]] w fun e w' => e = .returned (.bool r) ∧ Below w.heap.size w w' := by
 have hu28 := Try.underlying28; have HR0_8 := Aside0.mk hr0_8; have HC0_8 := Aside0.mk hc0_8; clear hr0_8 hc0_8; have HR1_8 := Aside0.mk hr1_8; have HC1_8 := Aside0.mk hc1_8; clear hr1_8 hc1_8
 have HB := Aside0.mk (Below.refl w.heap.size w)
 have H : (if a0_0 = a1_0 then (if a0_1 = a1_1 then (if a0_2 = a1_2 then (if a0_3 = a1_3 then (if a0_4 = a1_4 then (if a0_5 = a1_5 then (if (a0_6 == a1_6) = true then (if (a0_7 == a1_7) = true then ((laws_sameBytes.f l0_8 l1_8).bind fun t390 => (some t390)) else (some false)) else (some false)) else (some false)) else (some false)) else (some false)) else (some false)) else (some false)) else (some false)) = some r := h
 clear h
 by_cases c3 : a0_0 = a1_0
 ·rw [if_pos c3] at H
  have c3b0 : (a0_0 == a1_0) = true := beq_iff_eq.mpr c3
  have c3b1 : (a0_0 != a1_0) = false := bne_eq_false_iff_eq.mpr c3
  clear c3
  by_cases c4 : a0_1 = a1_1
  ·rw [if_pos c4] at H
   have c4b0 : (a0_1 == a1_1) = true := beq_iff_eq.mpr c4
   have c4b1 : (a0_1 != a1_1) = false := bne_eq_false_iff_eq.mpr c4
   clear c4
   by_cases c5 : a0_2 = a1_2
   ·rw [if_pos c5] at H
    have c5b0 : (a0_2 == a1_2) = true := beq_iff_eq.mpr c5
    have c5b1 : (a0_2 != a1_2) = false := bne_eq_false_iff_eq.mpr c5
    clear c5
    by_cases c6 : a0_3 = a1_3
    ·rw [if_pos c6] at H
     have c6b0 : (a0_3 == a1_3) = true := beq_iff_eq.mpr c6
     have c6b1 : (a0_3 != a1_3) = false := bne_eq_false_iff_eq.mpr c6
     clear c6
     by_cases c7 : a0_4 = a1_4
     ·rw [if_pos c7] at H
      have c7b0 : (a0_4 == a1_4) = true := beq_iff_eq.mpr c7
      have c7b1 : (a0_4 != a1_4) = false := bne_eq_false_iff_eq.mpr c7
      clear c7
      by_cases c8 : a0_5 = a1_5
      ·rw [if_pos c8] at H
       have c8b0 : (a0_5 == a1_5) = true := beq_iff_eq.mpr c8
       have c8b1 : (a0_5 != a1_5) = false := bne_eq_false_iff_eq.mpr c8
       clear c8
       by_cases c9 : (a0_6 == a1_6) = true
       ·rw [if_pos c9] at H
        have c9b0 : (a0_6 == a1_6) = true := c9
        (try (have c9b1 : decide (a0_6 = a1_6) = true := by simpa using c9))
        (try (have c9b2 : (a0_6 == a1_6) = true := by simpa using c9))
        clear c9
        by_cases c10 : (a0_7 == a1_7) = true
        ·rw [if_pos c10] at H
         have c10b0 : (a0_7 == a1_7) = true := c10
         (try (have c10b1 : decide (a0_7 = a1_7) = true := by simpa using c10))
         (try (have c10b2 : (a0_7 == a1_7) = true := by simpa using c10))
         clear c10
         replace H := Option.bind_eq_some_iff.mp H
         obtain ⟨t390, A110, H⟩ := H
         (try dsimp only at H)
         have A11 := Aside0.mk A110; clear A110
         obtain rfl := Option.some.inj H
         go_enter Try.func12, Try.ntmps12
         go_wp2_with (first | ((with_reducible refine gate_dst (N := 2) rfl ?_); refine box_ (N := 2) (cs := #[.int .i64 a0_0, .int .i64 a0_1, .int .i64 a0_2, .int .i64 a0_3, .int .i64 a0_4, .int .i64 a0_5, .bool a0_6, .bool a0_7, .slice A0_8 l0_8.length c0_8]) (t := 28) (fun gb388 hg w12 hbox hb => ?_); have BK388 := Aside0.mk (hbox); have GW388 := ge_ hg HB; have GE388 := ge_ hg HB; replace HB := (bs_ HB hb); clear hb hbox hg) | ((with_reducible refine gate_dst (N := 3) rfl ?_); refine box_ (N := 3) (cs := #[.int .i64 a1_0, .int .i64 a1_1, .int .i64 a1_2, .int .i64 a1_3, .int .i64 a1_4, .int .i64 a1_5, .bool a1_6, .bool a1_7, .slice A1_8 l1_8.length c1_8]) (t := 28) (fun gb389 hg w13 hbox hb => ?_); have BK389 := Aside0.mk (hbox); have GW389 := ge_ hg HB; have GE389 := ge_ hg HB; replace HB := (bs_ HB hb); have NB388_389 := nl_ hg BK388; have NB389_388 := ng_ hg BK388; replace BK388 := (bbA_ BK388 hb); clear hb hbox hg; have hnb14 := NB388_389.out; have hnc14 := NB389_388.out; have Z15 := zz9 BK388; have Z16 := zz9 BK389) | (go_at_call 35; (with_reducible refine (laws_sameBytes.calls _ _ l0_8 _ _ l1_8 t390 _ ?side1 ?side2 ?side3 ?side4 A11.out).mono ?_); (case side1 => exact kC_ (Kd.C_below HR0_8.out HB.out)); (case side2 => exact HC0_8.out); (case side3 => exact kC_ (Kd.C_below HR1_8.out HB.out)); (case side4 => exact HC1_8.out); rintro e w' ⟨rfl, ⟨nd, rfl⟩⟩))
         go_ret
         exact ⟨by first | rfl | (simp [errW_none, errW_some] <;> rfl) | (simp [*, errW_none, errW_some] <;> rfl), hbA_ HB.out⟩
        ·rw [if_neg c10] at H
         have c10b0 : (a0_7 == a1_7) = false := by simpa using c10
         (try (have c10b1 : decide (a0_7 = a1_7) = false := by simpa using c10))
         (try (have c10b2 : (a0_7 == a1_7) = false := by simpa using c10))
         (try (have c10b3 : ¬ (a0_7 = a1_7) := by simpa using c10))
         clear c10
         obtain rfl := Option.some.inj H
         go_enter Try.func12, Try.ntmps12
         go_wp2_with (first | ((with_reducible refine gate_dst (N := 2) rfl ?_); refine box_ (N := 2) (cs := #[.int .i64 a0_0, .int .i64 a0_1, .int .i64 a0_2, .int .i64 a0_3, .int .i64 a0_4, .int .i64 a0_5, .bool a0_6, .bool a0_7, .slice A0_8 l0_8.length c0_8]) (t := 28) (fun gb388 hg w17 hbox hb => ?_); have BK388 := Aside0.mk (hbox); have GW388 := ge_ hg HB; have GE388 := ge_ hg HB; replace HB := (bs_ HB hb); clear hb hbox hg) | ((with_reducible refine gate_dst (N := 3) rfl ?_); refine box_ (N := 3) (cs := #[.int .i64 a1_0, .int .i64 a1_1, .int .i64 a1_2, .int .i64 a1_3, .int .i64 a1_4, .int .i64 a1_5, .bool a1_6, .bool a1_7, .slice A1_8 l1_8.length c1_8]) (t := 28) (fun gb389 hg w18 hbox hb => ?_); have BK389 := Aside0.mk (hbox); have GW389 := ge_ hg HB; have GE389 := ge_ hg HB; replace HB := (bs_ HB hb); have NB388_389 := nl_ hg BK388; have NB389_388 := ng_ hg BK388; replace BK388 := (bbA_ BK388 hb); clear hb hbox hg; have hnb19 := NB388_389.out; have hnc19 := NB389_388.out; have Z20 := zz9 BK388; have Z21 := zz9 BK389))
         go_ret
         exact ⟨by first | rfl | (simp [errW_none, errW_some] <;> rfl) | (simp [*, errW_none, errW_some] <;> rfl), hbA_ HB.out⟩
       ·rw [if_neg c9] at H
        have c9b0 : (a0_6 == a1_6) = false := by simpa using c9
        (try (have c9b1 : decide (a0_6 = a1_6) = false := by simpa using c9))
        (try (have c9b2 : (a0_6 == a1_6) = false := by simpa using c9))
        (try (have c9b3 : ¬ (a0_6 = a1_6) := by simpa using c9))
        clear c9
        obtain rfl := Option.some.inj H
        go_enter Try.func12, Try.ntmps12
        go_wp2_with (first | ((with_reducible refine gate_dst (N := 2) rfl ?_); refine box_ (N := 2) (cs := #[.int .i64 a0_0, .int .i64 a0_1, .int .i64 a0_2, .int .i64 a0_3, .int .i64 a0_4, .int .i64 a0_5, .bool a0_6, .bool a0_7, .slice A0_8 l0_8.length c0_8]) (t := 28) (fun gb388 hg w22 hbox hb => ?_); have BK388 := Aside0.mk (hbox); have GW388 := ge_ hg HB; have GE388 := ge_ hg HB; replace HB := (bs_ HB hb); clear hb hbox hg) | ((with_reducible refine gate_dst (N := 3) rfl ?_); refine box_ (N := 3) (cs := #[.int .i64 a1_0, .int .i64 a1_1, .int .i64 a1_2, .int .i64 a1_3, .int .i64 a1_4, .int .i64 a1_5, .bool a1_6, .bool a1_7, .slice A1_8 l1_8.length c1_8]) (t := 28) (fun gb389 hg w23 hbox hb => ?_); have BK389 := Aside0.mk (hbox); have GW389 := ge_ hg HB; have GE389 := ge_ hg HB; replace HB := (bs_ HB hb); have NB388_389 := nl_ hg BK388; have NB389_388 := ng_ hg BK388; replace BK388 := (bbA_ BK388 hb); clear hb hbox hg; have hnb24 := NB388_389.out; have hnc24 := NB389_388.out; have Z25 := zz9 BK388; have Z26 := zz9 BK389))
        go_ret
        exact ⟨by first | rfl | (simp [errW_none, errW_some] <;> rfl) | (simp [*, errW_none, errW_some] <;> rfl), hbA_ HB.out⟩
      ·rw [if_neg c8] at H
       have c8b0 : (a0_5 == a1_5) = false := beq_eq_false_iff_ne.mpr c8
       have c8b1 : (a0_5 != a1_5) = true := bne_iff_ne.mpr c8
       obtain rfl := Option.some.inj H
       go_enter Try.func12, Try.ntmps12
       go_wp2_with (first | ((with_reducible refine gate_dst (N := 2) rfl ?_); refine box_ (N := 2) (cs := #[.int .i64 a0_0, .int .i64 a0_1, .int .i64 a0_2, .int .i64 a0_3, .int .i64 a0_4, .int .i64 a0_5, .bool a0_6, .bool a0_7, .slice A0_8 l0_8.length c0_8]) (t := 28) (fun gb388 hg w27 hbox hb => ?_); have BK388 := Aside0.mk (hbox); have GW388 := ge_ hg HB; have GE388 := ge_ hg HB; replace HB := (bs_ HB hb); clear hb hbox hg) | ((with_reducible refine gate_dst (N := 3) rfl ?_); refine box_ (N := 3) (cs := #[.int .i64 a1_0, .int .i64 a1_1, .int .i64 a1_2, .int .i64 a1_3, .int .i64 a1_4, .int .i64 a1_5, .bool a1_6, .bool a1_7, .slice A1_8 l1_8.length c1_8]) (t := 28) (fun gb389 hg w28 hbox hb => ?_); have BK389 := Aside0.mk (hbox); have GW389 := ge_ hg HB; have GE389 := ge_ hg HB; replace HB := (bs_ HB hb); have NB388_389 := nl_ hg BK388; have NB389_388 := ng_ hg BK388; replace BK388 := (bbA_ BK388 hb); clear hb hbox hg; have hnb29 := NB388_389.out; have hnc29 := NB389_388.out; have Z30 := zz9 BK388; have Z31 := zz9 BK389))
       go_ret
       exact ⟨by first | rfl | (simp [errW_none, errW_some] <;> rfl) | (simp [*, errW_none, errW_some] <;> rfl), hbA_ HB.out⟩
     ·rw [if_neg c7] at H
      have c7b0 : (a0_4 == a1_4) = false := beq_eq_false_iff_ne.mpr c7
      have c7b1 : (a0_4 != a1_4) = true := bne_iff_ne.mpr c7
      obtain rfl := Option.some.inj H
      go_enter Try.func12, Try.ntmps12
      go_wp2_with (first | ((with_reducible refine gate_dst (N := 2) rfl ?_); refine box_ (N := 2) (cs := #[.int .i64 a0_0, .int .i64 a0_1, .int .i64 a0_2, .int .i64 a0_3, .int .i64 a0_4, .int .i64 a0_5, .bool a0_6, .bool a0_7, .slice A0_8 l0_8.length c0_8]) (t := 28) (fun gb388 hg w32 hbox hb => ?_); have BK388 := Aside0.mk (hbox); have GW388 := ge_ hg HB; have GE388 := ge_ hg HB; replace HB := (bs_ HB hb); clear hb hbox hg) | ((with_reducible refine gate_dst (N := 3) rfl ?_); refine box_ (N := 3) (cs := #[.int .i64 a1_0, .int .i64 a1_1, .int .i64 a1_2, .int .i64 a1_3, .int .i64 a1_4, .int .i64 a1_5, .bool a1_6, .bool a1_7, .slice A1_8 l1_8.length c1_8]) (t := 28) (fun gb389 hg w33 hbox hb => ?_); have BK389 := Aside0.mk (hbox); have GW389 := ge_ hg HB; have GE389 := ge_ hg HB; replace HB := (bs_ HB hb); have NB388_389 := nl_ hg BK388; have NB389_388 := ng_ hg BK388; replace BK388 := (bbA_ BK388 hb); clear hb hbox hg; have hnb34 := NB388_389.out; have hnc34 := NB389_388.out; have Z35 := zz9 BK388; have Z36 := zz9 BK389))
      go_ret
      exact ⟨by first | rfl | (simp [errW_none, errW_some] <;> rfl) | (simp [*, errW_none, errW_some] <;> rfl), hbA_ HB.out⟩
    ·rw [if_neg c6] at H
     have c6b0 : (a0_3 == a1_3) = false := beq_eq_false_iff_ne.mpr c6
     have c6b1 : (a0_3 != a1_3) = true := bne_iff_ne.mpr c6
     obtain rfl := Option.some.inj H
     go_enter Try.func12, Try.ntmps12
     go_wp2_with (first | ((with_reducible refine gate_dst (N := 2) rfl ?_); refine box_ (N := 2) (cs := #[.int .i64 a0_0, .int .i64 a0_1, .int .i64 a0_2, .int .i64 a0_3, .int .i64 a0_4, .int .i64 a0_5, .bool a0_6, .bool a0_7, .slice A0_8 l0_8.length c0_8]) (t := 28) (fun gb388 hg w37 hbox hb => ?_); have BK388 := Aside0.mk (hbox); have GW388 := ge_ hg HB; have GE388 := ge_ hg HB; replace HB := (bs_ HB hb); clear hb hbox hg) | ((with_reducible refine gate_dst (N := 3) rfl ?_); refine box_ (N := 3) (cs := #[.int .i64 a1_0, .int .i64 a1_1, .int .i64 a1_2, .int .i64 a1_3, .int .i64 a1_4, .int .i64 a1_5, .bool a1_6, .bool a1_7, .slice A1_8 l1_8.length c1_8]) (t := 28) (fun gb389 hg w38 hbox hb => ?_); have BK389 := Aside0.mk (hbox); have GW389 := ge_ hg HB; have GE389 := ge_ hg HB; replace HB := (bs_ HB hb); have NB388_389 := nl_ hg BK388; have NB389_388 := ng_ hg BK388; replace BK388 := (bbA_ BK388 hb); clear hb hbox hg; have hnb39 := NB388_389.out; have hnc39 := NB389_388.out; have Z40 := zz9 BK388; have Z41 := zz9 BK389))
     go_ret
     exact ⟨by first | rfl | (simp [errW_none, errW_some] <;> rfl) | (simp [*, errW_none, errW_some] <;> rfl), hbA_ HB.out⟩
   ·rw [if_neg c5] at H
    have c5b0 : (a0_2 == a1_2) = false := beq_eq_false_iff_ne.mpr c5
    have c5b1 : (a0_2 != a1_2) = true := bne_iff_ne.mpr c5
    obtain rfl := Option.some.inj H
    go_enter Try.func12, Try.ntmps12
    go_wp2_with (first | ((with_reducible refine gate_dst (N := 2) rfl ?_); refine box_ (N := 2) (cs := #[.int .i64 a0_0, .int .i64 a0_1, .int .i64 a0_2, .int .i64 a0_3, .int .i64 a0_4, .int .i64 a0_5, .bool a0_6, .bool a0_7, .slice A0_8 l0_8.length c0_8]) (t := 28) (fun gb388 hg w42 hbox hb => ?_); have BK388 := Aside0.mk (hbox); have GW388 := ge_ hg HB; have GE388 := ge_ hg HB; replace HB := (bs_ HB hb); clear hb hbox hg) | ((with_reducible refine gate_dst (N := 3) rfl ?_); refine box_ (N := 3) (cs := #[.int .i64 a1_0, .int .i64 a1_1, .int .i64 a1_2, .int .i64 a1_3, .int .i64 a1_4, .int .i64 a1_5, .bool a1_6, .bool a1_7, .slice A1_8 l1_8.length c1_8]) (t := 28) (fun gb389 hg w43 hbox hb => ?_); have BK389 := Aside0.mk (hbox); have GW389 := ge_ hg HB; have GE389 := ge_ hg HB; replace HB := (bs_ HB hb); have NB388_389 := nl_ hg BK388; have NB389_388 := ng_ hg BK388; replace BK388 := (bbA_ BK388 hb); clear hb hbox hg; have hnb44 := NB388_389.out; have hnc44 := NB389_388.out; have Z45 := zz9 BK388; have Z46 := zz9 BK389))
    go_ret
    exact ⟨by first | rfl | (simp [errW_none, errW_some] <;> rfl) | (simp [*, errW_none, errW_some] <;> rfl), hbA_ HB.out⟩
  ·rw [if_neg c4] at H
   have c4b0 : (a0_1 == a1_1) = false := beq_eq_false_iff_ne.mpr c4
   have c4b1 : (a0_1 != a1_1) = true := bne_iff_ne.mpr c4
   obtain rfl := Option.some.inj H
   go_enter Try.func12, Try.ntmps12
   go_wp2_with (first | ((with_reducible refine gate_dst (N := 2) rfl ?_); refine box_ (N := 2) (cs := #[.int .i64 a0_0, .int .i64 a0_1, .int .i64 a0_2, .int .i64 a0_3, .int .i64 a0_4, .int .i64 a0_5, .bool a0_6, .bool a0_7, .slice A0_8 l0_8.length c0_8]) (t := 28) (fun gb388 hg w47 hbox hb => ?_); have BK388 := Aside0.mk (hbox); have GW388 := ge_ hg HB; have GE388 := ge_ hg HB; replace HB := (bs_ HB hb); clear hb hbox hg) | ((with_reducible refine gate_dst (N := 3) rfl ?_); refine box_ (N := 3) (cs := #[.int .i64 a1_0, .int .i64 a1_1, .int .i64 a1_2, .int .i64 a1_3, .int .i64 a1_4, .int .i64 a1_5, .bool a1_6, .bool a1_7, .slice A1_8 l1_8.length c1_8]) (t := 28) (fun gb389 hg w48 hbox hb => ?_); have BK389 := Aside0.mk (hbox); have GW389 := ge_ hg HB; have GE389 := ge_ hg HB; replace HB := (bs_ HB hb); have NB388_389 := nl_ hg BK388; have NB389_388 := ng_ hg BK388; replace BK388 := (bbA_ BK388 hb); clear hb hbox hg; have hnb49 := NB388_389.out; have hnc49 := NB389_388.out; have Z50 := zz9 BK388; have Z51 := zz9 BK389))
   go_ret
   exact ⟨by first | rfl | (simp [errW_none, errW_some] <;> rfl) | (simp [*, errW_none, errW_some] <;> rfl), hbA_ HB.out⟩
 ·rw [if_neg c3] at H
  have c3b0 : (a0_0 == a1_0) = false := beq_eq_false_iff_ne.mpr c3
  have c3b1 : (a0_0 != a1_0) = true := bne_iff_ne.mpr c3
  obtain rfl := Option.some.inj H
  go_enter Try.func12, Try.ntmps12
  go_wp2_with (first | ((with_reducible refine gate_dst (N := 2) rfl ?_); refine box_ (N := 2) (cs := #[.int .i64 a0_0, .int .i64 a0_1, .int .i64 a0_2, .int .i64 a0_3, .int .i64 a0_4, .int .i64 a0_5, .bool a0_6, .bool a0_7, .slice A0_8 l0_8.length c0_8]) (t := 28) (fun gb388 hg w52 hbox hb => ?_); have BK388 := Aside0.mk (hbox); have GW388 := ge_ hg HB; have GE388 := ge_ hg HB; replace HB := (bs_ HB hb); clear hb hbox hg) | ((with_reducible refine gate_dst (N := 3) rfl ?_); refine box_ (N := 3) (cs := #[.int .i64 a1_0, .int .i64 a1_1, .int .i64 a1_2, .int .i64 a1_3, .int .i64 a1_4, .int .i64 a1_5, .bool a1_6, .bool a1_7, .slice A1_8 l1_8.length c1_8]) (t := 28) (fun gb389 hg w53 hbox hb => ?_); have BK389 := Aside0.mk (hbox); have GW389 := ge_ hg HB; have GE389 := ge_ hg HB; replace HB := (bs_ HB hb); have NB388_389 := nl_ hg BK388; have NB389_388 := ng_ hg BK388; replace BK388 := (bbA_ BK388 hb); clear hb hbox hg; have hnb54 := NB388_389.out; have hnc54 := NB389_388.out; have Z55 := zz9 BK388; have Z56 := zz9 BK389))
  go_ret
  exact ⟨by first | rfl | (simp [errW_none, errW_some] <;> rfl) | (simp [*, errW_none, errW_some] <;> rfl), hbA_ HB.out⟩
def impl_bytesOf.l0 : Nat → Int → List Int → Int → Option (List Int)
 | 0, _, _, _ => none
 | k + 1, x0, x5, x6 => if x6 ≥ 0 then (if 0 ≤ x6 then (if x6 < (x5.length : Int) then (impl_bytesOf.l0 k (x0 / 256) (x5.set (x6 : Int).toNat ((x0) % 256)) (wrap64 (x6 - 1))) else (none)) else (none)) else (some x5)
def impl_bytesOf.f (k : Nat) (a0 : Int) (a1 : Int) : Option (List Int) := if 0 ≤ a1 then (if (a1 : Int).toNat ≤ 281474976710656 then (impl_bytesOf.l0 k a0 (List.replicate (a1 : Int).toNat 0) (wrap64 (a1 - 1))) else (none)) else (none)
theorem impl_bytesOf.mono_l : ∀ k, (∀ y0 y1 y2, LeO (impl_bytesOf.l0 k y0 y1 y2) (impl_bytesOf.l0 (k + 1) y0 y1 y2))
 | 0 => fun _ _ _ r h => by simp [impl_bytesOf.l0] at h
 | k + 1 => by
  have ih0 := impl_bytesOf.mono_l k
  ·intro y0 y1 y2
   unfold impl_bytesOf.l0
   repeat' first | (with_reducible first | apply ih0 | exact LeO.refl _ | exact LeO.none _ | refine LeO.ite ?_ ?_ | refine LeO.bind ?_ fun _ => ?_) | apply ih0 | exact LeO.none _ | refine LeO.ite ?_ ?_ | refine LeO.bind ?_ fun _ => ?_
theorem impl_bytesOf.mono : ∀ a0 a1 k, LeO (impl_bytesOf.f k a0 a1) (impl_bytesOf.f (k + 1) a0 a1) := by
 intro a0 a1 k
 have ih0 := impl_bytesOf.mono_l k
 unfold impl_bytesOf.f
 repeat' first | (with_reducible first | apply ih0 | exact LeO.refl _ | exact LeO.none _ | refine LeO.ite ?_ ?_ | refine LeO.bind ?_ fun _ => ?_) | apply ih0 | exact LeO.none _ | refine LeO.ite ?_ ?_ | refine LeO.bind ?_ fun _ => ?_
set_option maxHeartbeats 8000000 in
set_option maxRecDepth 100000 in
theorem impl_bytesOf.calls (k : Nat) (a0 : Int) (a1 : Int) (r : List Int) (w : World) (h : impl_bytesOf.f k a0 a1 = some r) :
  Calls Try.prog 72 #[.int .i64 a0, .int .i64 a1] w fun e w' => ∃ v0_ : Value, e = .returned (v0_) ∧ Kd.R (Kd.int .u8) 5 w' w.heap.size (fun _ => True) v0_ r ∧ Below w.heap.size w w' := by
 have HB := Aside0.mk (Below.refl w.heap.size w)
 have H : (if 0 ≤ a1 then (if (a1 : Int).toNat ≤ 281474976710656 then (impl_bytesOf.l0 k a0 (List.replicate (a1 : Int).toNat 0) (wrap64 (a1 - 1))) else (none)) else (none)) = some r := h
 clear h
 by_cases c3 : 0 ≤ a1
 ·rw [if_pos c3] at H
  have c3b0 := eq_true c3
  have c3b1 : decide (0 ≤ a1) = true := decide_eq_true c3
  clear c3
  by_cases c4 : (a1 : Int).toNat ≤ 281474976710656
  ·rw [if_pos c4] at H
   have c4b0 := eq_true c4
   have c4b1 : decide ((a1 : Int).toNat ≤ 281474976710656) = true := decide_eq_true c4
   clear c4
   obtain ⟨y391, hy391⟩ : ∃ y_ : List Int, y_ = (List.replicate (a1 : Int).toNat 0) := ⟨_, rfl⟩
   (first | replace H := sb_ hy391 H | rw [← hy391] at H)
   have Ny391 := Aside0.mk hy391; clear hy391
   have H' := Aside0.mk H
   clear H
   go_enter Try.func72, Try.ntmps72
   go_wp2_with (first | ((with_reducible refine gate_dst (N := 8) rfl ?_); refine Kd.R_make (Kd.int .u8) _ 5 rfl (N := 8) rfl 22 _ _ rfl a1 rfl rfl Try.underlying22 (.int .u8 0) 1 info5 rfl (by decide) (by omega) 0 (ok := fun _ => True) (okp := fun _ => True) rfl (fun _ hk => hk) trivial (of_decide_eq_true (by first | (with_reducible assumption) | assumption)) (Nat.le_trans (Nat.mul_le_mul_right _ (of_decide_eq_true (by first | (with_reducible assumption) | assumption) : a1.toNat ≤ 281474976710656)) (by omega)) (Below.refl _ _) (Nat.le_refl _) ?_; intro v392 w5 ho6 hb hg_ hnew_; clear hg_ hnew_; (first | rw [← Ny391.out] at ho6 | (simp only [Int.reduceToNat] at ho6; rw [← Ny391.out] at ho6)); have HO393 := Aside0.mk (Kd.R_lower ho6 (below_size (hbA_ HB.out))); replace HB := (bs_ HB hb); clear hb ho6))
   go_loopg [0, 6] k (fun kq v0 v6 w' => ∃ (x0_1 : Int) (x5_1 : List Int) (x6_1 : Int), v0 = .int .i64 x0_1 ∧ v6 = .int .i64 x6_1 ∧ Aside0 (impl_bytesOf.l0 kq x0_1 x5_1 x6_1 = some r) ∧ Aside0 (kq ≤ k) ∧ Aside0 (Kd.R (Kd.int .u8) 5 w' w.heap.size (fun _ => True) v392 x5_1) ∧ Aside0 (Below w.heap.size w w'))
   case atStart => exact ⟨(a0), (y391), (wrap64 (a1 - 1)), (by first | rfl | (simp; done) | (simp [*]; done)), (by first | rfl | (simp; done) | (simp [*]; done)), H', ⟨Nat.le_refl _⟩, ⟨kR_ HO393.out⟩, ⟨hbA_ HB.out⟩⟩
   case round =>
    clear H'; (try clear p2); (try clear c3); (try clear c3b0); (try clear c3b1); (try clear c4); (try clear c4b0); (try clear c4b1); (try clear p6)
    obtain ⟨x0_1, x5_1, x6_1, rfl, rfl, HA, HK1, HO_5, HB⟩ := hrel
    cases gk with
    | zero => exact absurd HA.out (by simp [impl_bytesOf.l0])
    | succ k1 =>
     have H := HA.out; clear HA
     simp only [impl_bytesOf.l0] at H
     by_cases c7 : x6_1 ≥ 0
     ·rw [if_pos c7] at H
      have c7b0 : decide (0 ≤ x6_1) = true := decide_eq_true c7
      clear c7
      by_cases c8 : 0 ≤ x6_1
      ·rw [if_pos c8] at H
       have c8b0 : decide (0 ≤ x6_1) = true := decide_eq_true c8
       clear c8
       by_cases c9 : x6_1 < (x5_1.length : Int)
       ·rw [if_pos c9] at H
        have c9b0 : decide (x6_1 < (x5_1.length : Int)) = true := decide_eq_true c9
        clear c9
        obtain ⟨y394, hy394⟩ : ∃ y_ : List Int, y_ = (x5_1.set (x6_1 : Int).toNat ((x0_1) % 256)) := ⟨_, rfl⟩
        (first | replace H := sb_ hy394 H | rw [← hy394] at H)
        have Ny394 := Aside0.mk hy394; clear hy394
        have H' := Aside0.mk H
        clear H
        have p10 : 0 ≤ (x6_1 : Int) := of_decide_eq_true (by first | (with_reducible assumption) | assumption)
        have q10 : (x6_1 : Int) < ((x5_1.length : Int) : Int) := of_decide_eq_true (by first | (with_reducible assumption) | assumption)
        obtain ⟨go10, co10, eo10, gb10, gl10, cl10, HG10⟩ := Kd.R_form HO_5.out (by omega)
        (first | cases eo10 | (injection eo10 with ea_ en_ ec_; (first | subst ea_ | (injection ea_ with ea_; subst ea_)); subst ec_; clear en_))
        have GB10 := Aside0.mk gb10; have GG10 := Aside0.mk HG10; clear gb10 gl10 HG10
        obtain ⟨hx10_0, hf10_0⟩ := Kd.R_celln 0 HO_5.out (x6_1 : Int) p10 q10
        replace p10 := eq_true p10
        replace q10 := eq_true q10
        have HP11 := Kd.R_putg HO_5.out (x6_1 : Int) ((x0_1) % 256)
        go_wp2_with (first | ((with_reducible refine gate_store (t := 5) (p := 19) rfl ?_); refine store_event (t := 5) (p := 19) (v := ?vo_w12) (w1 := (wr.setCell ⟨go10, (x6_1 : Int).toNat, none⟩ (.int .u8 ((x0_1) % 256)))) ?hg ?ho ?hn ?hr ?_; (case ho => rfl); (case hg => rfl); (case hn => rfl); (case hr => first | (go_simp; done) | (go_simp; rfl)); intro w12 hw; have hg : wr.grownBy w12 (some go10) := (by rw [hw]; exact HP11.2); have hp_ : Kd.R (Kd.int .u8) 5 w12 w.heap.size (fun _ => True) (.slice (some ⟨go10, 0, none⟩) x5_1.length co10) y394 := (by rw [hw, Ny394.out]; exact HP11.1); clear HP11; replace HO_5 := Aside0.mk (hp_); replace HB := Aside0.mk ((by rw [hw]; exact below_set (HB.out) GB10.out : Below w.heap.size w w12)); clear hg hw hp_))
        go_roundg k1
        case measure => have := HK1.out; omega
        case rel => exact ⟨(x0_1 / 256), (y394), (wrap64 (x6_1 - 1)), (by first | rfl | (simp; done) | (simp [*]; done)), (by first | rfl | (simp; done) | (simp [*]; done)), H', ⟨by have := HK1.out; omega⟩, ⟨kR_ HO_5.out⟩, ⟨hbA_ HB.out⟩⟩
       ·rw [if_neg c9] at H
        exact absurd H (by simp)
      ·rw [if_neg c8] at H
       exact absurd H (by simp)
     ·rw [if_neg c7] at H
      have c7b0 : decide (0 ≤ x6_1) = false := decide_eq_false c7
      clear c7
      obtain rfl := Option.some.inj H
      go_wp2
      go_ret
      exact ⟨_, by first | rfl | (simp [errW_none, errW_some] <;> rfl) | (simp [*, errW_none, errW_some] <;> rfl), kR_ HO_5.out, hbA_ HB.out⟩
  ·rw [if_neg c4] at H
   exact absurd H (by simp)
 ·rw [if_neg c3] at H
  exact absurd H (by simp)
def impl_BytesOf.f (k : Nat) (a0 : Int) (a1 : Int) : Option (List Int) := (impl_in.f a1 1 4).bind fun t395 => (if t395 = true then (if 0 ≤ (wrap64 (8 * a1)) then ((impl_in.f a0 0 (wrap64 ((shl .i64 1 (wrap64 (8 * a1))) - 1))).bind fun t396 => (if t396 = true then ((impl_bytesOf.f k a0 a1).bind fun t397 => (some t397)) else (some ([] : List Int)))) else (none)) else (some ([] : List Int)))
theorem impl_BytesOf.mono : ∀ a0 a1 k, LeO (impl_BytesOf.f k a0 a1) (impl_BytesOf.f (k + 1) a0 a1) := by
 intro a0 a1 k
 unfold impl_BytesOf.f
 repeat' first | (with_reducible first | apply impl_bytesOf.mono | exact LeO.refl _ | exact LeO.none _ | refine LeO.ite ?_ ?_ | refine LeO.bind ?_ fun _ => ?_) | apply impl_bytesOf.mono | exact LeO.none _ | refine LeO.ite ?_ ?_ | refine LeO.bind ?_ fun _ => ?_
set_option maxHeartbeats 8000000 in
set_option maxRecDepth 100000 in
theorem impl_BytesOf.calls (k : Nat) (a0 : Int) (a1 : Int) (r : List Int) (w : World) (h : impl_BytesOf.f k a0 a1 = some r) :
  Calls Try.prog 47 #[.int .i64 a0, .int .i64 a1] w fun e w' => ∃ v0_ : Value, e = .returned (v0_) ∧ Kd.R (Kd.int .u8) 5 w' w.heap.size (fun _ => True) v0_ r ∧ Below w.heap.size w w' := by
 have HB := Aside0.mk (Below.refl w.heap.size w)
 have H : ((impl_in.f a1 1 4).bind fun t395 => (if t395 = true then (if 0 ≤ (wrap64 (8 * a1)) then ((impl_in.f a0 0 (wrap64 ((shl .i64 1 (wrap64 (8 * a1))) - 1))).bind fun t396 => (if t396 = true then ((impl_bytesOf.f k a0 a1).bind fun t397 => (some t397)) else (some ([] : List Int)))) else (none)) else (some ([] : List Int)))) = some r := h
 clear h
 replace H := Option.bind_eq_some_iff.mp H
 obtain ⟨t395, A30, H⟩ := H
 (try dsimp only at H)
 have A3 := Aside0.mk A30; clear A30
 by_cases c4 : t395 = true
 ·subst c4
  rw [if_pos rfl] at H
  obtain ⟨ji5, hji5⟩ : ∃ j_ : Int, (wrap64 (8 * a1)) = j_ := ⟨_, rfl⟩
  (first | rw [hji5] at H | simp only [hji5] at H)
  (try rw [hji5] at A3)
  have hji5w : (IntKind.i64.wrap (8 * a1)) = ji5 := (i64_w _).trans hji5
  by_cases c6 : 0 ≤ (ji5)
  ·rw [if_pos c6] at H
   have c6b0 := eq_true c6
   have c6b1 : decide (0 ≤ (ji5)) = true := decide_eq_true c6
   clear c6
   obtain ⟨ji7, hji7⟩ : ∃ j_ : Int, (shl .i64 1 (ji5)) = j_ := ⟨_, rfl⟩
   (first | rw [hji7] at H | simp only [hji7] at H)
   (try rw [hji7] at A3)
   have hji7_ : (IntKind.i64.wrap (1 * 2 ^ min (ji5).toNat 64)) = ji7 := hji7
   have hji7z : (ji5) ≤ 64 → (IntKind.i64.wrap (1 * 2 ^ (ji5).toNat)) = ji7 := shl_small hji7
   have hji7u : (IntKind.i64.wrap (2 ^ min (ji5).toNat 64)) = ji7 := by have h_ := hji7_; rw [Int.one_mul] at h_; exact h_
   have hji7v : (ji5) ≤ 64 → (IntKind.i64.wrap (2 ^ (ji5).toNat)) = ji7 := fun hle_ => by have h_ := hji7z hle_; rw [Int.one_mul] at h_; exact h_
   have hji7y : (wrap64 (1 * 2 ^ min (ji5).toNat 64)) = ji7 := (i64_w _).symm.trans hji7_
   have hji7x : (ji5) ≤ 64 → (wrap64 (1 * 2 ^ (ji5).toNat)) = ji7 := fun h_ => (i64_w _).symm.trans (hji7z h_)
   replace H := Option.bind_eq_some_iff.mp H
   obtain ⟨t396, A80, H⟩ := H
   (try dsimp only at H)
   have A8 := Aside0.mk A80; clear A80
   by_cases c9 : t396 = true
   ·subst c9
    rw [if_pos rfl] at H
    replace H := Option.bind_eq_some_iff.mp H
    obtain ⟨t397, A100, H⟩ := H
    (try dsimp only at H)
    have A10 := Aside0.mk A100; clear A100
    obtain rfl := Option.some.inj H
    go_enter Try.func47, Try.ntmps47
    go_wp2_with (first | ((with_reducible refine gate_callee (f := 49) rfl ?_); refine goesL_ (some 6) rfl rfl Try.func49 (by kernel_rfl) rfl #[.int .i64 a1, .int .i64 1, .int .i64 4] rfl ar_ ?_; (with_reducible refine (impl_in.calls a1 1 4 true _ A3.out).mono ?_); rintro e w' ⟨rfl, ⟨nd, rfl⟩⟩; refine ⟨_, rfl, ?_⟩) | (go_at_call 49; (with_reducible refine (impl_in.calls a0 0 (wrap64 ((ji7) - 1)) true _ A8.out).mono ?_); rintro e w' ⟨rfl, ⟨nd, rfl⟩⟩) | ((with_reducible refine gate_callee (f := 72) rfl ?_); refine goesL_ (some 19) rfl rfl Try.func72 (by kernel_rfl) rfl #[.int .i64 a0, .int .i64 a1] rfl ar_ ?_; (with_reducible refine (impl_bytesOf.calls k a0 a1 t397 _ A10.out).mono ?_); rintro e w11 ⟨v398, rfl, ho0, hb⟩; refine ⟨_, rfl, ?_⟩; have HO399 := Aside0.mk (Kd.R_lower ho0 (below_size (hbA_ HB.out))); replace HB := (bs_ HB hb); (try clear hb); (try clear hb2); (try clear hk); (try clear hi); (try clear ho0)))
    go_ret
    exact ⟨_, by first | rfl | (simp [errW_none, errW_some] <;> rfl) | (simp only [← hji5, ← hji7]; first | rfl | (simp [errW_none, errW_some] <;> rfl)) | (simp [*, errW_none, errW_some] <;> rfl), kR_ HO399.out, hbA_ HB.out⟩
   ·replace c9 := Bool.eq_false_iff.mpr c9
    subst c9
    rw [if_neg (show ¬ (false = true) by decide)] at H
    obtain rfl := Option.some.inj H
    go_enter Try.func47, Try.ntmps47
    go_wp2_with (first | ((with_reducible refine gate_callee (f := 49) rfl ?_); refine goesL_ (some 6) rfl rfl Try.func49 (by kernel_rfl) rfl #[.int .i64 a1, .int .i64 1, .int .i64 4] rfl ar_ ?_; (with_reducible refine (impl_in.calls a1 1 4 true _ A3.out).mono ?_); rintro e w' ⟨rfl, ⟨nd, rfl⟩⟩; refine ⟨_, rfl, ?_⟩) | (go_at_call 49; (with_reducible refine (impl_in.calls a0 0 (wrap64 ((ji7) - 1)) false _ A8.out).mono ?_); rintro e w' ⟨rfl, ⟨nd, rfl⟩⟩))
    go_ret
    exact ⟨_, by first | rfl | (simp [errW_none, errW_some] <;> rfl) | (simp only [← hji5, ← hji7]; first | rfl | (simp [errW_none, errW_some] <;> rfl)) | (simp [*, errW_none, errW_some] <;> rfl), by first | exact Kd.R_nil _ _ _ _ _ | exact Kd.N_nil _ _ _ _ _ | exact Kd.V_nil _ _ _ _ _ | exact Kd.Q_nil _ _ _ _ _ | exact Kd.S_nil _ _ _ _ _, hbA_ HB.out⟩
  ·rw [if_neg c6] at H
   exact absurd H (by simp)
 ·replace c4 := Bool.eq_false_iff.mpr c4
  subst c4
  rw [if_neg (show ¬ (false = true) by decide)] at H
  obtain rfl := Option.some.inj H
  go_enter Try.func47, Try.ntmps47
  go_wp2_with (first | ((with_reducible refine gate_callee (f := 49) rfl ?_); refine goesL_ (some 6) rfl rfl Try.func49 (by kernel_rfl) rfl #[.int .i64 a1, .int .i64 1, .int .i64 4] rfl ar_ ?_; (with_reducible refine (impl_in.calls a1 1 4 false _ A3.out).mono ?_); rintro e w' ⟨rfl, ⟨nd, rfl⟩⟩; refine ⟨_, rfl, ?_⟩))
  go_ret
  exact ⟨_, by first | rfl | (simp [errW_none, errW_some] <;> rfl) | (simp [*, errW_none, errW_some] <;> rfl), by first | exact Kd.R_nil _ _ _ _ _ | exact Kd.N_nil _ _ _ _ _ | exact Kd.V_nil _ _ _ _ _ | exact Kd.Q_nil _ _ _ _ _ | exact Kd.S_nil _ _ _ _ _, hbA_ HB.out⟩
def laws_alive.f (k : Nat)  : Option (Bool) := (impl_BytesOf.f k 5 1).bind fun t400 => (if (t400.length : Int) = 1 then ((impl_BytesOf.f k 256 1).bind fun t403 => (some ((t403.length : Int) == 0))) else (some false))
theorem laws_alive.mono : ∀ k, LeO (laws_alive.f k ) (laws_alive.f (k + 1) ) := by
 intro  k
 unfold laws_alive.f
 repeat' first | (with_reducible first | apply impl_BytesOf.mono | exact LeO.refl _ | exact LeO.none _ | refine LeO.ite ?_ ?_ | refine LeO.bind ?_ fun _ => ?_) | apply impl_BytesOf.mono | exact LeO.none _ | refine LeO.ite ?_ ?_ | refine LeO.bind ?_ fun _ => ?_
set_option maxHeartbeats 8000000 in
set_option maxRecDepth 100000 in
theorem laws_alive.calls (k : Nat)  (r : Bool) (w : World) (h : laws_alive.f k  = some r) :
  Calls Try.prog 13 #[] w fun e w' => e = .returned (.bool r) ∧ Below w.heap.size w w' := by
 have HB := Aside0.mk (Below.refl w.heap.size w)
 have H : ((impl_BytesOf.f k 5 1).bind fun t400 => (if (t400.length : Int) = 1 then ((impl_BytesOf.f k 256 1).bind fun t403 => (some ((t403.length : Int) == 0))) else (some false))) = some r := h
 clear h
 replace H := Option.bind_eq_some_iff.mp H
 obtain ⟨t400, A10, H⟩ := H
 (try dsimp only at H)
 have A1 := Aside0.mk A10; clear A10
 by_cases c2 : (t400.length : Int) = 1
 ·rw [if_pos c2] at H
  have c2b0 : ((t400.length : Int) == 1) = true := beq_iff_eq.mpr c2
  have c2b1 : ((t400.length : Int) != 1) = false := bne_eq_false_iff_eq.mpr c2
  clear c2
  replace H := Option.bind_eq_some_iff.mp H
  obtain ⟨t403, A30, H⟩ := H
  (try dsimp only at H)
  have A3 := Aside0.mk A30; clear A30
  obtain rfl := Option.some.inj H
  go_enter Try.func13, Try.ntmps13
  go_wp2_with (first | ((with_reducible refine gate_callee (f := 47) rfl ?_); refine goesL_ (some 1) rfl rfl Try.func47 (by kernel_rfl) rfl #[.int .i64 5, .int .i64 1] rfl ar_ ?_; (with_reducible refine (impl_BytesOf.calls k 5 1 t400 _ A1.out).mono ?_); rintro e w4 ⟨v401, rfl, ho0, hb⟩; refine ⟨_, rfl, ?_⟩; have HO402 := Aside0.mk (Kd.R_lower ho0 (below_size (hbA_ HB.out))); replace HB := (bs_ HB hb); (try clear hb); (try clear hb2); (try clear hk); (try clear hi); (try clear ho0); obtain ⟨Ao5, co5, eo5⟩ := Kd.R_slice HO402.out; subst eo5) | (go_at_call 47; (with_reducible refine (impl_BytesOf.calls k 256 1 t403 _ A3.out).mono ?_); rintro e w6 ⟨v404, rfl, ho0, hb⟩; have HO405 := Aside0.mk (Kd.R_lower (Kd.R_new' ho0 (Kd.R_lt (kR_ HO402.out))) (below_size (hbA_ HB.out))); replace HO402 := Aside0.mk (Kd.R_elder' (kR_ HO402.out) (Kd.R_base ho0) hb); replace HB := (bs_ HB hb); (try clear hb); (try clear hb2); (try clear hk); (try clear hi); (try clear ho0); obtain ⟨Ao7, co7, eo7⟩ := Kd.R_slice HO405.out; subst eo7))
  go_ret
  exact ⟨by first | rfl | (simp [errW_none, errW_some] <;> rfl) | (simp [*, errW_none, errW_some] <;> rfl), hbA_ HB.out⟩
 ·rw [if_neg c2] at H
  have c2b0 : ((t400.length : Int) == 1) = false := beq_eq_false_iff_ne.mpr c2
  have c2b1 : ((t400.length : Int) != 1) = true := bne_iff_ne.mpr c2
  obtain rfl := Option.some.inj H
  go_enter Try.func13, Try.ntmps13
  go_wp2_with (first | ((with_reducible refine gate_callee (f := 47) rfl ?_); refine goesL_ (some 1) rfl rfl Try.func47 (by kernel_rfl) rfl #[.int .i64 5, .int .i64 1] rfl ar_ ?_; (with_reducible refine (impl_BytesOf.calls k 5 1 t400 _ A1.out).mono ?_); rintro e w8 ⟨v401, rfl, ho0, hb⟩; refine ⟨_, rfl, ?_⟩; have HO402 := Aside0.mk (Kd.R_lower ho0 (below_size (hbA_ HB.out))); replace HB := (bs_ HB hb); (try clear hb); (try clear hb2); (try clear hk); (try clear hi); (try clear ho0); obtain ⟨Ao9, co9, eo9⟩ := Kd.R_slice HO402.out; subst eo9))
  go_ret
  exact ⟨by first | rfl | (simp [errW_none, errW_some] <;> rfl) | (simp [*, errW_none, errW_some] <;> rfl), hbA_ HB.out⟩
mutual
def laws_FnPartWhole.j0 : Nat → Bool → Bool → List (S28) → Int → Int → Int → Int → Int → Int → Int → Bool → Bool → List Int → Option (Bool)
 | 0, _, _, _, _, _, _, _, _, _, _, _, _, _ => none
 | k + 1, x5, x36, x411000, x411001, x424000, x424001, x424002, x424003, x424004, x424005, x424006, x424007, x424008 => if x36 = true then (some false) else (if x5 = true then (laws_FnPartWhole.l0 k 0 0 x411000 x411001 x424000 x424001 x424002 x424003 x424004 x424005 x424006 x424007 x424008) else ((laws_alive.f k).bind fun t438 => (some t438)))
def laws_FnPartWhole.l0 : Nat → Int → Int → List (S28) → Int → Int → Int → Int → Int → Int → Int → Bool → Bool → List Int → Option (Bool)
 | 0, _, _, _, _, _, _, _, _, _, _, _, _, _ => none
 | k + 1, x8, x9, x411000, x411001, x424000, x424001, x424002, x424003, x424004, x424005, x424006, x424007, x424008 => if x9 < (x411000.length : Int) then (if 0 ≤ x9 then ((some (([] : List (S28)) : List (S28))).bind fun y441 => (if x9 ≤ (x411000.length : Int) then ((some (x411000.take (x9 : Int).toNat : List (S28))).bind fun y444 => (if y441.length + y444.length < 1759218604441 then ((some (y441 ++ y444 : List (S28))).bind fun y449 => (if 0 ≤ (wrap64 (x9 + 1)) then (if (wrap64 (x9 + 1)) ≤ (x411000.length : Int) then ((some (x411000.drop ((wrap64 (x9 + 1)) : Int).toNat : List (S28))).bind fun y452 => (if y449.length + y452.length < 1759218604441 then ((impl_PartWhole.f k (y449 ++ y452) x411001).bind fun bt461 => (if bt461.2.2.2.2.2.2.2.2.2 = true then (some false) else (laws_FnPartWhole.l0 k (wrap64 (x8 + (((rd_T28 x411000 x9).f8).length : Int))) (wrap64 (x9 + 1)) x411000 x411001 x424000 x424001 x424002 x424003 x424004 x424005 x424006 x424007 x424008))) else (none))) else (none)) else (none))) else (none))) else (none))) else (none)) else (if (x424008.length : Int) = x8 then (if x424005 = 0 then (if x424006 = true then (some false) else ((impl_PacketOk.f x424000 x424001 x424002 x424003 x424004 x424005 x424006 x424007 x424008).bind fun t439 => (some t439))) else (some false)) else (some false))
end
def laws_FnPartWhole.f (k : Nat) (l0 : List Int) : Option (Bool) := if (l0.length : Int) > 1048576 then (some true) else ((spec_DrawPartWhole.f k l0).bind fun bt406 => ((impl_PartWhole.f k bt406.1 bt406.2).bind fun bt411 => ((spec_PartWhole.f k bt406.1 bt406.2).bind fun bt424 => (if (bt411.2.2.2.2.2.2.2.2.2 != bt424.2.2.2.2.2.2.2.2.2) = true then (laws_FnPartWhole.j0 k bt411.2.2.2.2.2.2.2.2.2 true bt406.1 bt406.2 bt411.1 bt411.2.1 bt411.2.2.1 bt411.2.2.2.1 bt411.2.2.2.2.1 bt411.2.2.2.2.2.1 bt411.2.2.2.2.2.2.1 bt411.2.2.2.2.2.2.2.1 bt411.2.2.2.2.2.2.2.2.1) else ((laws_samePacket.f bt411.1 bt411.2.1 bt411.2.2.1 bt411.2.2.2.1 bt411.2.2.2.2.1 bt411.2.2.2.2.2.1 bt411.2.2.2.2.2.2.1 bt411.2.2.2.2.2.2.2.1 bt411.2.2.2.2.2.2.2.2.1 bt424.1 bt424.2.1 bt424.2.2.1 bt424.2.2.2.1 bt424.2.2.2.2.1 bt424.2.2.2.2.2.1 bt424.2.2.2.2.2.2.1 bt424.2.2.2.2.2.2.2.1 bt424.2.2.2.2.2.2.2.2.1).bind fun t437 => (laws_FnPartWhole.j0 k bt411.2.2.2.2.2.2.2.2.2 (!t437) bt406.1 bt406.2 bt411.1 bt411.2.1 bt411.2.2.1 bt411.2.2.2.1 bt411.2.2.2.2.1 bt411.2.2.2.2.2.1 bt411.2.2.2.2.2.2.1 bt411.2.2.2.2.2.2.2.1 bt411.2.2.2.2.2.2.2.2.1))))))
theorem laws_FnPartWhole.mono_l : ∀ k, (∀ y0 y1 y2 y3 y4 y5 y6 y7 y8 y9 y10 y11 y12, LeO (laws_FnPartWhole.j0 k y0 y1 y2 y3 y4 y5 y6 y7 y8 y9 y10 y11 y12) (laws_FnPartWhole.j0 (k + 1) y0 y1 y2 y3 y4 y5 y6 y7 y8 y9 y10 y11 y12)) ∧ (∀ y0 y1 y2 y3 y4 y5 y6 y7 y8 y9 y10 y11 y12, LeO (laws_FnPartWhole.l0 k y0 y1 y2 y3 y4 y5 y6 y7 y8 y9 y10 y11 y12) (laws_FnPartWhole.l0 (k + 1) y0 y1 y2 y3 y4 y5 y6 y7 y8 y9 y10 y11 y12))
 | 0 => ⟨fun _ _ _ _ _ _ _ _ _ _ _ _ _ r h => by simp [laws_FnPartWhole.j0] at h, fun _ _ _ _ _ _ _ _ _ _ _ _ _ r h => by simp [laws_FnPartWhole.l0] at h⟩
 | k + 1 => by
  obtain ⟨ih0, ih1⟩ := laws_FnPartWhole.mono_l k
  refine ⟨?_, ?_⟩
  ·intro y0 y1 y2 y3 y4 y5 y6 y7 y8 y9 y10 y11 y12
   unfold laws_FnPartWhole.j0
   repeat' first | (with_reducible first | apply ih0 | apply ih1 | apply impl_PartWhole.mono | apply laws_alive.mono | apply spec_DrawPartWhole.mono | apply spec_PartWhole.mono | exact LeO.refl _ | exact LeO.none _ | refine LeO.ite ?_ ?_ | refine LeO.bind ?_ fun _ => ?_) | apply ih0 | apply ih1 | apply impl_PartWhole.mono | apply laws_alive.mono | apply spec_DrawPartWhole.mono | apply spec_PartWhole.mono | exact LeO.none _ | refine LeO.ite ?_ ?_ | refine LeO.bind ?_ fun _ => ?_
  ·intro y0 y1 y2 y3 y4 y5 y6 y7 y8 y9 y10 y11 y12
   unfold laws_FnPartWhole.l0
   repeat' first | (with_reducible first | apply ih0 | apply ih1 | apply impl_PartWhole.mono | apply laws_alive.mono | apply spec_DrawPartWhole.mono | apply spec_PartWhole.mono | exact LeO.refl _ | exact LeO.none _ | refine LeO.ite ?_ ?_ | refine LeO.bind ?_ fun _ => ?_) | apply ih0 | apply ih1 | apply impl_PartWhole.mono | apply laws_alive.mono | apply spec_DrawPartWhole.mono | apply spec_PartWhole.mono | exact LeO.none _ | refine LeO.ite ?_ ?_ | refine LeO.bind ?_ fun _ => ?_
theorem laws_FnPartWhole.mono : ∀ a0 k, LeO (laws_FnPartWhole.f k a0) (laws_FnPartWhole.f (k + 1) a0) := by
 intro a0 k
 obtain ⟨ih0, ih1⟩ := laws_FnPartWhole.mono_l k
 unfold laws_FnPartWhole.f
 repeat' first | (with_reducible first | apply ih0 | apply ih1 | apply impl_PartWhole.mono | apply laws_alive.mono | apply spec_DrawPartWhole.mono | apply spec_PartWhole.mono | exact LeO.refl _ | exact LeO.none _ | refine LeO.ite ?_ ?_ | refine LeO.bind ?_ fun _ => ?_) | apply ih0 | apply ih1 | apply impl_PartWhole.mono | apply laws_alive.mono | apply spec_DrawPartWhole.mono | apply spec_PartWhole.mono | exact LeO.none _ | refine LeO.ite ?_ ?_ | refine LeO.bind ?_ fun _ => ?_
def laws_FnPartWhole.T15 : Bool × List (List Nat × List Nat) := (true, [([], []), ([0], [0]), ([], []), ([], []), ([3], [3]), ([], []), ([4, 5], [4, 5]), ([2, 6], [2, 6]), ([], []), ([8], [8]), ([], []), ([10], [10]), ([9, 11], [9, 11]), ([7, 12, 7], [7, 12]), ([1, 13], [1, 13]), ([], []), ([15, 14, 13, 0, 1, 2, 3, 4, 5, 6, 7, 8, 9, 10, 11, 12, 13, 14, 15], [14, 15])])
def laws_FnPartWhole.B15 : List Nat := [0, 1, 0, 0, 8, 0, 56, 124, 0, 256, 0, 1024, 3840, 8188, 16383, 0, 65535]
theorem laws_FnPartWhole.tab15 : rtab .any (opsOf Try.f3 15) = laws_FnPartWhole.T15 := by kernel_rfl
theorem laws_FnPartWhole.bits15 : waitsOk laws_FnPartWhole.T15.2 laws_FnPartWhole.B15 = true := by kernel_rfl
set_option maxHeartbeats 8000000 in
set_option maxRecDepth 100000 in
theorem laws_FnPartWhole.calls (k : Nat) (A0 : Option Addr) (c0 : Nat) (l0 : List Int) (r : Bool) (w : World) (hr0 : Kd.C (Kd.int .u8) w A0 l0.length l0) (hc0 : l0.length ≤ c0) (h : laws_FnPartWhole.f k l0 = some r) (hlw : r = true) :
  Calls Try.prog 3 #[.slice A0 l0.length c0] w fun e w' => e = .returned (.bool r) ∧ Below w.heap.size w w' := by
 have hu25 := Try.underlying25; have hu28 := Try.underlying28; have HLW := Aside0.mk hlw; clear hlw; have HR0 := Aside0.mk hr0; have HC0 := Aside0.mk hc0; clear hr0 hc0
 have HB := Aside0.mk (Below.refl w.heap.size w)
 have H : (if (l0.length : Int) > 1048576 then (some true) else ((spec_DrawPartWhole.f k l0).bind fun bt406 => ((impl_PartWhole.f k bt406.1 bt406.2).bind fun bt411 => ((spec_PartWhole.f k bt406.1 bt406.2).bind fun bt424 => (if (bt411.2.2.2.2.2.2.2.2.2 != bt424.2.2.2.2.2.2.2.2.2) = true then (laws_FnPartWhole.j0 k bt411.2.2.2.2.2.2.2.2.2 true bt406.1 bt406.2 bt411.1 bt411.2.1 bt411.2.2.1 bt411.2.2.2.1 bt411.2.2.2.2.1 bt411.2.2.2.2.2.1 bt411.2.2.2.2.2.2.1 bt411.2.2.2.2.2.2.2.1 bt411.2.2.2.2.2.2.2.2.1) else ((laws_samePacket.f bt411.1 bt411.2.1 bt411.2.2.1 bt411.2.2.2.1 bt411.2.2.2.2.1 bt411.2.2.2.2.2.1 bt411.2.2.2.2.2.2.1 bt411.2.2.2.2.2.2.2.1 bt411.2.2.2.2.2.2.2.2.1 bt424.1 bt424.2.1 bt424.2.2.1 bt424.2.2.2.1 bt424.2.2.2.2.1 bt424.2.2.2.2.2.1 bt424.2.2.2.2.2.2.1 bt424.2.2.2.2.2.2.2.1 bt424.2.2.2.2.2.2.2.2.1).bind fun t437 => (laws_FnPartWhole.j0 k bt411.2.2.2.2.2.2.2.2.2 (!t437) bt406.1 bt406.2 bt411.1 bt411.2.1 bt411.2.2.1 bt411.2.2.2.1 bt411.2.2.2.2.1 bt411.2.2.2.2.2.1 bt411.2.2.2.2.2.2.1 bt411.2.2.2.2.2.2.2.1 bt411.2.2.2.2.2.2.2.2.1))))))) = some r := h
 clear h
 by_cases c2 : (l0.length : Int) > 1048576
 ·rw [if_pos c2] at H
  have c2b0 : decide (1048576 < (l0.length : Int)) = true := decide_eq_true c2
  have c2b1 : decide (1048576 < l0.length) = true := decide_eq_true (by omega)
  clear c2
  obtain rfl := Option.some.inj H
  go_enter Try.func3, Try.ntmps3
  go_wp2
  go_ret
  exact ⟨by first | rfl | (simp [errW_none, errW_some] <;> rfl) | (simp [*, errW_none, errW_some] <;> rfl), hbA_ HB.out⟩
 ·rw [if_neg c2] at H
  have c2b0 : decide (1048576 < (l0.length : Int)) = false := decide_eq_false c2
  have c2b1 : decide (1048576 < l0.length) = false := decide_eq_false (by omega)
  clear c2
  replace H := Option.bind_eq_some_iff.mp H
  obtain ⟨⟨t406, t409⟩, A30, H⟩ := H
  (try dsimp only at H)
  have A3 := Aside0.mk A30; clear A30
  replace H := Option.bind_eq_some_iff.mp H
  obtain ⟨⟨t411, t412, t413, t414, t415, t416, t417, t418, t419, t422⟩, A40, H⟩ := H
  (try dsimp only at H)
  have A4 := Aside0.mk A40; clear A40
  replace H := Option.bind_eq_some_iff.mp H
  obtain ⟨⟨t424, t425, t426, t427, t428, t429, t430, t431, t432, t435⟩, A50, H⟩ := H
  (try dsimp only at H)
  have A5 := Aside0.mk A50; clear A50; have HC6 := Aside0.mk H; clear H
  go_enter Try.func3, Try.ntmps3
  go_upto_region 6 with (first | ((with_reducible refine gate_callee (f := 9) rfl ?_); refine goesL_ (some 17) rfl rfl Try.func9 (by kernel_rfl) rfl #[.slice A0 l0.length c0] rfl ar_ ?_; (with_reducible refine (spec_DrawPartWhole.calls k _ _ l0 t406 t409 _ ?side1 ?side2 A3.out).mono ?_); (case side1 => exact kC_ HR0.out); (case side2 => exact HC0.out); rintro e w7 ⟨v407, rfl, ho0, hb⟩; refine ⟨_, rfl, ?_⟩; have HO408 := Aside0.mk (Kd.N_lower (Kd.N_mono (ok' := fun k_ => True) ho0 (fun k_ hk_ => trivial)) (below_size (hbA_ HB.out))); replace HB := (bs_ HB hb); (try clear hb); (try clear hb2); (try clear hk); (try clear hi); (try clear ho0)) | ((with_reducible refine gate_dst (N := 3) rfl ?_); refine box_ (N := 3) (cs := #[.slice none 0 0, .int .i64 0]) (t := 25) (fun gb410 hg w8 hbox hb => ?_); replace HO408 := Aside0.mk (Kd.N_below (Kd.N_elderB (kN_ HO408.out) gb410 (Nat.le_of_eq hg.symm)) hb); have BK410 := Aside0.mk (hbox); have GW410 := ge_ hg HB; have GE410 := ge_ hg HB; replace HB := (bs_ HB hb); clear hb hbox hg; obtain ⟨Ao9, co9, eo9⟩ := Kd.N_slice HO408.out; subst eo9; have Z10 := zz2 BK410) | ((with_reducible refine gate_callee (f := 10) rfl ?_); refine goesL_ (some 20) rfl rfl Try.func10 (by kernel_rfl) rfl #[.agg #[.slice Ao9 t406.length co9, .int .i64 t409]] rfl ar_ ?_; (with_reducible refine (impl_PartWhole.calls k _ _ t406 t409 t411 t412 t413 t414 t415 t416 t417 t418 t419 t422 _ ?side1 ?side2 A4.out).mono ?_); (case side1 => refine (Kd.N_reads' (e := 28) (base := w.heap.size) (ok := fun k_ => (True ∧ k_ ≠ gb410)) (n := t406.length) (c := co9) ?_).2.2; exact (by refine kN_ ?_; exact (nfN_ gb410 HO408.out (fun _ hk => hk.2) (fun _ h_ => op1_ h_)))); (case side2 => exact (Kd.N_reads' HO408.out).2.1); rintro e w11 ⟨v420, rfl, ho0, hb⟩; refine ⟨_, rfl, ?_⟩; replace HO408 := Aside0.mk (Kd.N_elder' (by refine kN_ ?_; exact (nfN_ gb410 HO408.out (fun _ hk => hk.2) (fun _ h_ => op1_ h_))) (Kd.R_base ho0) hb); have HO421 := Aside0.mk (Kd.R_lower ho0 (below_size (hbA_ HB.out))); replace BK410 := Aside0.mk (blk_below (g := gb410) (o := .cells #[.slice Ao9 t406.length co9, .int .i64 t409] 25 (0, 0)) (by refine kb_ ?_; refine pz2 (cs := #[.slice none 0 0, .int .i64 0]) ?_; refine kb_ ?_; exact BK410.out) hb); replace HB := (bs_ HB hb); (try clear hb); (try clear hb2); (try clear hk); (try clear hi); (try clear ho0)) | ((with_reducible refine gate_dst (N := 4) rfl ?_); refine box_ (N := 4) (cs := #[.int .i64 0, .int .i64 0, .int .i64 0, .int .i64 0, .int .i64 0, .int .i64 0, .bool false, .bool false, .slice none 0 0]) (t := 28) (fun gb423 hg w12 hbox hb => ?_); replace HO408 := Aside0.mk (Kd.N_below (Kd.N_elderB (kN_ HO408.out) gb423 (Nat.le_of_eq hg.symm)) hb); replace HO421 := Aside0.mk (Kd.R_below (kR_ HO421.out) hb); have BK423 := Aside0.mk (hbox); have GW423 := ge_ hg HB; have GE423 := ge_ hg HB; replace HB := (bs_ HB hb); have NB410_423 := nl_ hg BK410; have NB423_410 := ng_ hg BK410; replace BK410 := (bbA_ BK410 hb); clear hb hbox hg; have hnb13 := NB423_410.out; have hnc13 := NB410_423.out; have Z14 := zz9 BK423; obtain ⟨Ao15, co15, eo15⟩ := Kd.R_slice HO421.out; subst eo15; have Z16 := zz2 BK410) | ((with_reducible refine gate_callee (f := 11) rfl ?_); refine goesL_ (some 25) rfl rfl Try.func11 (by kernel_rfl) rfl #[.agg #[.slice Ao9 t406.length co9, .int .i64 t409]] rfl ar_ ?_; (with_reducible refine (spec_PartWhole.calls k _ _ t406 t409 t424 t425 t426 t427 t428 t429 t430 t431 t432 t435 _ ?side1 ?side2 A5.out).mono ?_); (case side1 => refine (Kd.N_reads' (e := 28) (base := w.heap.size) (ok := fun k_ => (((True ∧ k_ ≠ gb410) ∧ some k_ ≠ (.slice Ao15 t419.length co15 : Value).ownBlock) ∧ k_ ≠ gb423)) (n := t406.length) (c := co9) ?_).2.2; exact (by refine kN_ ?_; exact (nfN_ gb423 HO408.out (fun _ hk => hk.2) (fun _ h_ => op1_ h_)))); (case side2 => exact (Kd.N_reads' HO408.out).2.1); rintro e w17 ⟨v433, rfl, ho0, hb⟩; refine ⟨_, rfl, ?_⟩; replace HO408 := Aside0.mk (Kd.N_elder' (by refine kN_ ?_; exact (nfN_ gb423 HO408.out (fun _ hk => hk.2) (fun _ h_ => op1_ h_))) (Kd.R_base ho0) hb); have HO434 := Aside0.mk (Kd.R_lower (Kd.R_new' ho0 (Kd.R_lt (by refine kR_ ?_; exact (rfm_ ((Kd.R_types HO421.out BK423.out (by decide))) (fun _ h_ => op1_ h_))))) (below_size (hbA_ HB.out))); replace HO421 := Aside0.mk (Kd.R_elder' (by refine kR_ ?_; exact (rfm_ ((Kd.R_types HO421.out BK423.out (by decide))) (fun _ h_ => op1_ h_))) (Kd.R_base ho0) hb); replace BK410 := Aside0.mk (blk_below (g := gb410) (o := .cells #[.slice Ao9 t406.length co9, .int .i64 t409] 25 (0, 0)) (by exact kf_ BK410.out) hb); replace BK423 := Aside0.mk (blk_below (g := gb423) (o := .cells #[.int .i64 t411, .int .i64 t412, .int .i64 t413, .int .i64 t414, .int .i64 t415, .int .i64 t416, .bool t417, .bool t418, .slice Ao15 t419.length co15] 28 (0, 0)) (by refine kb_ ?_; refine pz9 (cs := #[.int .i64 0, .int .i64 0, .int .i64 0, .int .i64 0, .int .i64 0, .int .i64 0, .bool false, .bool false, .slice none 0 0]) ?_; refine kb_ ?_; exact BK423.out) hb); replace HB := (bs_ HB hb); (try clear hb); (try clear hb2); (try clear hk); (try clear hi); (try clear ho0)) | ((with_reducible refine gate_dst (N := 6) rfl ?_); refine box_ (N := 6) (cs := #[.int .i64 0, .int .i64 0, .int .i64 0, .int .i64 0, .int .i64 0, .int .i64 0, .bool false, .bool false, .slice none 0 0]) (t := 28) (fun gb436 hg w18 hbox hb => ?_); replace HO408 := Aside0.mk (Kd.N_below (Kd.N_elderB (kN_ HO408.out) gb436 (Nat.le_of_eq hg.symm)) hb); replace HO421 := Aside0.mk (Kd.R_below (kR_ HO421.out) hb); replace HO434 := Aside0.mk (Kd.R_below (kR_ HO434.out) hb); have BK436 := Aside0.mk (hbox); have GW436 := ge_ hg HB; have GE436 := ge_ hg HB; replace HB := (bs_ HB hb); have NB410_436 := nl_ hg BK410; have NB436_410 := ng_ hg BK410; replace BK410 := (bbA_ BK410 hb); have NB423_436 := nl_ hg BK423; have NB436_423 := ng_ hg BK423; replace BK423 := (bbA_ BK423 hb); clear hb hbox hg; have hnb19 := NB436_410.out; have hnc19 := NB410_436.out; have hnb20 := NB436_423.out; have hnc20 := NB423_436.out; have Z21 := zz9 BK436; obtain ⟨Ao22, co22, eo22⟩ := Kd.R_slice HO434.out; subst eo22))
  (try simp only [Act.put, List.setIfInBounds_toArray, List.set_cons_zero, List.set_cons_succ])
  go_cut [36] (fun v36 wc => ∃ (kq : Nat) (x36_5 : Bool), v36 = .bool x36_5 ∧ Aside0 (laws_FnPartWhole.j0 kq t422 x36_5 t406 t409 t411 t412 t413 t414 t415 t416 t417 t418 t419 = some r) ∧ Aside0 (kq ≤ k) ∧ Aside0 (Kd.N k28 28 wc w.heap.size (fun k_ => some k_ ≠ ((.slice Ao15 t419.length co15) : Value).ownBlock ∧ some k_ ≠ ((.slice Ao22 t432.length co22) : Value).ownBlock ∧ k_ ≠ gb410 ∧ k_ ≠ gb423 ∧ k_ ≠ gb436) (.slice Ao9 t406.length co9) t406) ∧ Aside0 (Kd.R (Kd.int .u8) 5 wc w.heap.size (fun k_ => some k_ ≠ ((.slice Ao22 t432.length co22) : Value).ownBlock) (.slice Ao15 t419.length co15) t419) ∧ Aside0 (Kd.R (Kd.int .u8) 5 wc w.heap.size (fun k_ => some k_ ≠ ((.slice Ao15 t419.length co15) : Value).ownBlock) (.slice Ao22 t432.length co22) t432) ∧ Aside0 (wc.heap[gb410]? = some (.cells #[(.slice Ao9 t406.length co9), .int .i64 t409] 25 (0, 0))) ∧ Aside0 (wc.heap[gb423]? = some (.cells #[.int .i64 t411, .int .i64 t412, .int .i64 t413, .int .i64 t414, .int .i64 t415, .int .i64 t416, .bool t417, .bool t418, (.slice Ao15 t419.length co15)] 28 (0, 0))) ∧ Aside0 (wc.heap[gb436]? = some (.cells #[.int .i64 t424, .int .i64 t425, .int .i64 t426, .int .i64 t427, .int .i64 t428, .int .i64 t429, .bool t430, .bool t431, (.slice Ao22 t432.length co22)] 28 (0, 0))) ∧ Aside0 (Below w.heap.size w wc))
  case first =>
   have H := HC6.out; clear HC6
   by_cases c23 : (t422 != t435) = true
   ·rw [if_pos c23] at H
    have c23b0 : (t422 != t435) = true := c23
    (try (have c23b1 : decide (t422 = t435) = false := by simpa using c23))
    (try (have c23b2 : (t422 == t435) = false := by simpa using c23))
    (try (have c23b3 : ¬ (t422 = t435) := by simpa using c23))
    clear c23
    (first | rw [c23b0] | (simp only [i64_w, i32_w]; rw [c23b0]) | skip)
    have H' := Aside0.mk H
    clear H
    go_wp2
    go_meet
    case rel => exact ⟨_, (true), (by first | rfl | (simp; done) | (simp [*]; done)), H', ⟨by first | omega | exact Nat.le_refl _⟩, ⟨by refine kN_ ?_; exact nfN_ gb436 HO408.out (fun _ hk => hk.2) (fun _ hk => ⟨hk.1.1.1.1.2, ⟨hk.1.1.2, ⟨hk.1.1.1.1.1.2, ⟨hk.1.1.1.2, hk.1.2⟩⟩⟩⟩)⟩, ⟨by refine kR_ ?_; exact rfm_ ((Kd.R_types HO421.out BK436.out (by decide))) (fun _ hk => hk.1.2)⟩, ⟨by refine kR_ ?_; exact rfm_ ((Kd.R_types HO434.out BK436.out (by decide))) (fun _ hk => hk.1.2)⟩, ⟨by exact kf_ BK410.out⟩, ⟨by exact kf_ BK423.out⟩, ⟨by refine kb_ ?_; refine pz9 (cs := #[.int .i64 0, .int .i64 0, .int .i64 0, .int .i64 0, .int .i64 0, .int .i64 0, .bool false, .bool false, .slice none 0 0]) ?_; refine kb_ ?_; exact BK436.out⟩, ⟨hbA_ HB.out⟩⟩
   ·rw [if_neg c23] at H
    have c23b0 : (t422 != t435) = false := by simpa using c23
    (try (have c23b1 : decide (t422 = t435) = true := by simpa using c23))
    (try (have c23b2 : (t422 == t435) = true := by simpa using c23))
    clear c23
    (first | rw [c23b0] | (simp only [i64_w, i32_w]; rw [c23b0]) | skip)
    replace H := Option.bind_eq_some_iff.mp H
    obtain ⟨t437, A240, H⟩ := H
    (try dsimp only at H)
    have A24 := Aside0.mk A240; clear A240
    have H' := Aside0.mk H
    clear H; have hnb25 := NB423_410.out; have hnc25 := NB410_423.out; have hnb26 := NB423_436.out; have hnc26 := NB436_423.out; have Z27 := zz9 BK423; have hnb28 := NB436_410.out; have hnc28 := NB410_436.out; have Z29 := zz9 BK436
    go_wp2_with (first | (go_at_call 12; (with_reducible refine (laws_samePacket.calls t411 t412 t413 t414 t415 t416 t417 t418 _ _ t419 t424 t425 t426 t427 t428 t429 t430 t431 _ _ t432 t437 _ ?side1 ?side2 ?side3 ?side4 A24.out).mono ?_); (case side1 => refine (Kd.R_reads' (e := 5) (base := w.heap.size) (ok := fun k_ => (True ∧ some k_ ≠ (.slice Ao22 t432.length co22 : Value).ownBlock)) (n := t419.length) (c := co15) ?_).2.2; exact (by refine kR_ ?_; exact (rfm_ ((Kd.R_types HO421.out BK436.out (by decide))) (fun _ h_ => op1_ h_)))); (case side2 => exact (Kd.R_reads' HO421.out).2.1); (case side3 => refine (Kd.R_reads' (e := 5) (base := w.heap.size) (ok := fun k_ => (True ∧ some k_ ≠ (.slice Ao15 t419.length co15 : Value).ownBlock)) (n := t432.length) (c := co22) ?_).2.2; exact (by refine kR_ ?_; exact (rfm_ ((Kd.R_types HO434.out BK436.out (by decide))) (fun _ h_ => op1_ h_)))); (case side4 => exact (Kd.R_reads' HO434.out).2.1); rintro e w30 ⟨rfl, hb⟩; replace HO408 := Aside0.mk (Kd.N_below (by refine kN_ ?_; exact (nfN_ gb436 HO408.out (fun _ hk => hk.2) (fun _ h_ => op1_ h_))) hb); replace HO421 := Aside0.mk (Kd.R_below (by refine kR_ ?_; exact (rfm_ ((Kd.R_types HO421.out BK436.out (by decide))) (fun _ h_ => op1_ h_))) hb); replace HO434 := Aside0.mk (Kd.R_below (by refine kR_ ?_; exact (rfm_ ((Kd.R_types HO434.out BK436.out (by decide))) (fun _ h_ => op1_ h_))) hb); replace BK410 := Aside0.mk (blk_below (g := gb410) (o := .cells #[.slice Ao9 t406.length co9, .int .i64 t409] 25 (0, 0)) (by exact kf_ BK410.out) hb); replace BK423 := Aside0.mk (blk_below (g := gb423) (o := .cells #[.int .i64 t411, .int .i64 t412, .int .i64 t413, .int .i64 t414, .int .i64 t415, .int .i64 t416, .bool t417, .bool t418, .slice Ao15 t419.length co15] 28 (0, 0)) (by exact kf_ BK423.out) hb); replace BK436 := Aside0.mk (blk_below (g := gb436) (o := .cells #[.int .i64 t424, .int .i64 t425, .int .i64 t426, .int .i64 t427, .int .i64 t428, .int .i64 t429, .bool t430, .bool t431, .slice Ao22 t432.length co22] 28 (0, 0)) (by refine kb_ ?_; refine pz9 (cs := #[.int .i64 0, .int .i64 0, .int .i64 0, .int .i64 0, .int .i64 0, .int .i64 0, .bool false, .bool false, .slice none 0 0]) ?_; refine kb_ ?_; exact BK436.out) hb); replace HB := (bs_ HB hb); (try clear hb); (try clear hb2); (try clear hk); (try clear hi)))
    go_meet
    case rel => exact ⟨_, (!t437), (by first | rfl | (simp; done) | (simp [*]; done)), H', ⟨by first | omega | exact Nat.le_refl _⟩, ⟨by refine kN_ ?_; exact Kd.N_mono HO408.out (fun _ hk => ⟨hk.1.1.1.2, ⟨hk.1.2, ⟨hk.1.1.1.1.2, ⟨hk.1.1.2, hk.2⟩⟩⟩⟩)⟩, ⟨by refine kR_ ?_; exact Kd.R_mono HO421.out (fun _ hk => hk.2)⟩, ⟨by refine kR_ ?_; exact Kd.R_mono HO434.out (fun _ hk => hk.2)⟩, ⟨by refine kb_ ?_; exact BK410.out⟩, ⟨by refine kb_ ?_; exact BK423.out⟩, ⟨by refine kb_ ?_; exact BK436.out⟩, ⟨hbA_ HB.out⟩⟩
  case rest =>
   clear HC6; (try clear c1); (try clear c2); (try clear c2b0); (try clear c2b1); (try clear p2); (try clear c3); (try clear c9); (try clear c10); (try clear c11); (try clear c13); (try clear c19); (try clear c20); (try clear c23); (try clear c23b0); (try clear c23b1); (try clear c23b2); (try clear c25); (try clear c26); (try clear c28); (try clear Z10); (try clear Z14); (try clear Z16); (try clear Z21); (try clear Z27); (try clear Z29)
   obtain ⟨kq, x36_5, rfl, HA, HJ5, HO_411000, HO_424008, HO_437008, BK410, BK423, BK436, HB⟩ := hcut
   cases kq with
   | zero => exact absurd HA.out (by simp [laws_FnPartWhole.j0])
   | succ kj5 =>
    have H := HA.out; clear HA
    simp only [laws_FnPartWhole.j0] at H
    by_cases c31 : x36_5 = true
    ·subst c31
     rw [if_pos rfl] at H
     exact absurd (Option.some.inj H) (by rw [HLW.out]; exact Bool.false_ne_true)
    ·replace c31 := Bool.eq_false_iff.mpr c31
     subst c31
     rw [if_neg (show ¬ (false = true) by decide)] at H
     by_cases c32 : t422 = true
     ·subst c32
      rw [if_pos rfl] at H
      have H' := Aside0.mk H
      clear H
      go_wp2
      go_loopg [8, 9] kj5 (fun kq v8 v9 w' => ∃ (x8_2 : Int) (x9_2 : Int), v8 = .int .i64 x8_2 ∧ v9 = .int .i64 x9_2 ∧ Aside0 (laws_FnPartWhole.l0 kq x8_2 x9_2 t406 t409 t411 t412 t413 t414 t415 t416 t417 t418 t419 = some r) ∧ Aside0 (kq ≤ kj5) ∧ Aside0 (Kd.N k28 28 w' w.heap.size (fun k_ => some k_ ≠ ((.slice Ao15 t419.length co15) : Value).ownBlock ∧ some k_ ≠ ((.slice Ao22 t432.length co22) : Value).ownBlock ∧ k_ ≠ gb410 ∧ k_ ≠ gb423 ∧ k_ ≠ gb436) (.slice Ao9 t406.length co9) t406) ∧ Aside0 (Kd.R (Kd.int .u8) 5 w' w.heap.size (fun k_ => some k_ ≠ ((.slice Ao22 t432.length co22) : Value).ownBlock) (.slice Ao15 t419.length co15) t419) ∧ Aside0 (Kd.R (Kd.int .u8) 5 w' w.heap.size (fun k_ => some k_ ≠ ((.slice Ao15 t419.length co15) : Value).ownBlock) (.slice Ao22 t432.length co22) t432) ∧ Aside0 (w'.heap[gb410]? = some (.cells #[(.slice Ao9 t406.length co9), .int .i64 t409] 25 (0, 0))) ∧ Aside0 (w'.heap[gb423]? = some (.cells #[.int .i64 t411, .int .i64 t412, .int .i64 t413, .int .i64 t414, .int .i64 t415, .int .i64 t416, .bool t417, .bool t418, (.slice Ao15 t419.length co15)] 28 (0, 0))) ∧ Aside0 (w'.heap[gb436]? = some (.cells #[.int .i64 t424, .int .i64 t425, .int .i64 t426, .int .i64 t427, .int .i64 t428, .int .i64 t429, .bool t430, .bool t431, (.slice Ao22 t432.length co22)] 28 (0, 0))) ∧ Aside0 (Below w.heap.size w w'))
      case atStart => exact ⟨(0), (0), (by first | rfl | (simp; done) | (simp [*]; done)), (by first | rfl | (simp; done) | (simp [*]; done)), H', ⟨Nat.le_refl _⟩, ⟨by refine kN_ ?_; exact HO_411000.out⟩, ⟨kR_ HO_424008.out⟩, ⟨kR_ HO_437008.out⟩, ⟨by refine kb_ ?_; exact BK410.out⟩, ⟨by refine kb_ ?_; exact BK423.out⟩, ⟨by refine kb_ ?_; exact BK436.out⟩, ⟨hbA_ HB.out⟩⟩
      case round =>
       clear H'; (try clear c1); (try clear c2); (try clear c2b0); (try clear c2b1); (try clear p2); (try clear c3); (try clear c9); (try clear c10); (try clear c11); (try clear c13); (try clear c19); (try clear c20); (try clear c23); (try clear c23b0); (try clear c23b1); (try clear c23b2); (try clear c25); (try clear c26); (try clear c28); (try clear c31); (try clear c32); (try clear Z10); (try clear Z14); (try clear Z16); (try clear Z21); (try clear Z27); (try clear Z29); (try clear p2)
       obtain ⟨x8_2, x9_2, rfl, rfl, HA, HK2, HO_411000, HO_424008, HO_437008, BK410, BK423, BK436, HB⟩ := hrel
       cases gk with
       | zero => exact absurd HA.out (by simp [laws_FnPartWhole.l0])
       | succ k2 =>
        have H := HA.out; clear HA
        simp only [laws_FnPartWhole.l0] at H
        by_cases c33 : x9_2 < (t406.length : Int)
        ·rw [if_pos c33] at H
         have c33b0 : decide (x9_2 < (t406.length : Int)) = true := decide_eq_true c33
         clear c33
         by_cases c34 : 0 ≤ x9_2
         ·rw [if_pos c34] at H
          have c34b0 : decide (0 ≤ x9_2) = true := decide_eq_true c34
          clear c34
          obtain ⟨y441, hy441⟩ : ∃ y_ : List (S28), y_ = (([] : List (S28))) := ⟨_, rfl⟩
          (first | replace H := sb_ hy441 H | rw [← hy441] at H)
          have Ny441 := Aside0.mk hy441; clear hy441
          have c35b0 := eq_true (of_decide_eq_true (by first | (with_reducible assumption) | assumption) : 0 ≤ x9_2)
          by_cases c36 : x9_2 ≤ (t406.length : Int)
          ·rw [if_pos c36] at H
           have c36b0 := eq_true c36
           have c36b1 : decide (x9_2 ≤ (t406.length : Int)) = true := decide_eq_true c36
           clear c36
           obtain ⟨y444, hy444⟩ : ∃ y_ : List (S28), y_ = (t406.take (x9_2 : Int).toNat) := ⟨_, rfl⟩
           (first | replace H := sb_ hy444 H | rw [← hy444] at H)
           have Ny444 := Aside0.mk hy444; clear hy444
           by_cases c37 : y441.length + y444.length < 1759218604441
           ·rw [if_pos c37] at H
            have LMc37 := Aside0.mk c37; clear c37
            obtain ⟨y449, hy449⟩ : ∃ y_ : List (S28), y_ = (y441 ++ y444) := ⟨_, rfl⟩
            (first | replace H := sb_ hy449 H | rw [← hy449] at H)
            have Ny449 := Aside0.mk hy449; clear hy449
            obtain ⟨ji38, hji38⟩ : ∃ j_ : Int, (wrap64 (x9_2 + 1)) = j_ := ⟨_, rfl⟩
            (first | rw [hji38] at H | simp only [hji38] at H)
            have hji38w : (IntKind.i64.wrap (x9_2 + 1)) = ji38 := (i64_w _).trans hji38
            by_cases c39 : 0 ≤ (ji38)
            ·rw [if_pos c39] at H
             have c39b0 := eq_true c39
             have c39b1 : decide (0 ≤ (ji38)) = true := decide_eq_true c39
             clear c39
             by_cases c40 : (ji38) ≤ (t406.length : Int)
             ·rw [if_pos c40] at H
              have c40b0 := eq_true c40
              have c40b1 : decide ((ji38) ≤ (t406.length : Int)) = true := decide_eq_true c40
              clear c40
              obtain ⟨y452, hy452⟩ : ∃ y_ : List (S28), y_ = (t406.drop ((ji38) : Int).toNat) := ⟨_, rfl⟩
              (first | replace H := sb_ hy452 H | rw [← hy452] at H)
              have Ny452 := Aside0.mk hy452; clear hy452
              by_cases c41 : y449.length + y452.length < 1759218604441
              ·rw [if_pos c41] at H
               have LMc41 := Aside0.mk c41; clear c41
               obtain ⟨y457, hy457⟩ : ∃ y_ : List (S28), y_ = (y449 ++ y452) := ⟨_, rfl⟩
               (first | replace H := sb_ hy457 H | rw [← hy457] at H)
               have Ny457 := Aside0.mk hy457; clear hy457
               replace H := Option.bind_eq_some_iff.mp H
               obtain ⟨⟨t461, t462, t463, t464, t465, t466, t467, t468, t469, t472⟩, A420, H⟩ := H
               (try dsimp only at H)
               have A42 := Aside0.mk A420; clear A420
               by_cases c43 : t472 = true
               ·subst c43
                rw [if_pos rfl] at H
                exact absurd (Option.some.inj H) (by rw [HLW.out]; exact Bool.false_ne_true)
               ·replace c43 := Bool.eq_false_iff.mpr c43
                subst c43
                rw [if_neg (show ¬ (false = true) by decide)] at H
                have H' := Aside0.mk H
                clear H; have hnb44 := NB410_423.out; have hnc44 := NB423_410.out; have hnb45 := NB410_436.out; have hnc45 := NB436_410.out; have Z46 := zz2 BK410
                have p440 : 0 ≤ (x9_2 : Int) := of_decide_eq_true (by first | (with_reducible assumption) | assumption)
                have q440 : x9_2 < (t406.length : Int) := of_decide_eq_true (by first | (with_reducible assumption) | assumption)
                obtain ⟨ad440, A440_8, c440_8, e440, hx440_0, hx440_1, hx440_2, hx440_3, hx440_4, hx440_5, hx440_6, hx440_7, hx440_8, hl440_8, hi440_8⟩ := at_T28 (Kd.N_reads' HO_411000.out).2.2 x9_2 p440 q440
                cases e440
                obtain ⟨ce440, hce440, hMe440, hcc440⟩ := Kd.N_get HO_411000.out z28 x9_2 p440 (by first | exact q440 | exact of_decide_eq_true (by first | (with_reducible assumption) | assumption) | (have e_ := (Kd.N_reads' HO_411000.out).1; omega))
                obtain ⟨ua440_8, uc440_8, rfl, ul440_8, ge440_8⟩ := k28_openF hMe440
                have hv440_8 := hcc440 8 _ rfl
                rw [add_field _ _ 8 (by omega)] at hv440_8
                replace hv440_8 := Option.some.inj (hv440_8.symm.trans hx440_8)
                injection hv440_8 with hva_ hvn_ hvc_
                rw [hva_] at ge440_8
                rw [hvc_] at ul440_8
                have HL440_8 := Aside0.mk (show Kd.V (Kd.int .u8) 5 _ w.heap.size _ _ ((rd_T28 t406 x9_2).f8) from Kd.V_mk ul440_8 ge440_8)
                clear hva_ hvn_ hvc_ ge440_8 ul440_8 hcc440 hce440; have HR440_8 := Aside0.mk hi440_8; have HC440_8 := Aside0.mk hl440_8; clear hi440_8 hl440_8
                replace p440 := eq_true p440
                replace q440 := eq_true q440
                try go_wp2
                replace HO_411000 := Aside0.mk (Kd.N_drew HO_411000.out); replace HO_424008 := Aside0.mk (Kd.R_drew HO_424008.out); replace HO_437008 := Aside0.mk (Kd.R_drew HO_437008.out); replace HL440_8 := Aside0.mk (Kd.V_drew HL440_8.out); replace BK410 := Aside0.mk (blk_drew BK410.out); replace BK423 := Aside0.mk (blk_drew BK423.out); replace BK436 := Aside0.mk (blk_drew BK436.out); replace HR440_8 := Aside0.mk (Kd.C_drew HR440_8.out); replace HB := (bd_ HB)
                have q48 : (x9_2 : Int) ≤ ((t406.length : Int) : Int) := of_decide_eq_true (by first | (with_reducible assumption) | assumption)
                obtain ⟨i048, hi048, _, hsz48, _⟩ := info_parts info28
                have hroom48 : t406.length ≤ co9 := (Kd.N_reads' HO_411000.out).2.1
                have hC48 : Kd.F k28 _ _ (some ad440) t406.length t406 := (Kd.V_at (base := w.heap.size) (Kd.N_V HO_411000.out)).2.2
                have hcut48 := cut_to (P := Try.prog) 23 28 .i64 Try.underlying23 hi048 (some ad440) t406.length co9 x9_2 (of_decide_eq_true (by first | (with_reducible assumption) | assumption)) q48 hroom48
                have hr48 := Kd.F_take (m := (x9_2 : Int).toNat) hC48 (by omega)
                have hy48 : y444.length = (x9_2 : Int).toNat := (by rw [Ny444.out, List.length_take]; omega)
                rw [← Ny444.out] at hr48
                rw [← hy48] at hcut48
                have HO448 := Aside0.mk (show Kd.V k28 28 _ w.heap.size _ (.slice (some ad440) y444.length co9) y444 from Kd.V_mk (by omega) hr48)
                have HC448 := Aside0.mk (show y444.length ≤ co9 from by omega)
                clear hr48 hC48 hroom48 hi048 hsz48; have KY48 := Aside0.mk hy48; clear hy48
                replace q48 := eq_true q48
                have q49 : ((ji38) : Int) ≤ ((t406.length : Int) : Int) := of_decide_eq_true (by first | (with_reducible assumption) | assumption)
                obtain ⟨i049, hi049, _, hsz49, _⟩ := info_parts info28
                have hroom49 : t406.length ≤ co9 := (Kd.N_reads' HO_411000.out).2.1
                have hC49 : Kd.F k28 _ _ (some ad440) t406.length t406 := (Kd.V_at (base := w.heap.size) (Kd.N_V HO_411000.out)).2.2
                have q049 : (0 : Int) ≤ ((ji38) : Int) := of_decide_eq_true (by first | (with_reducible assumption) | assumption)
                have hcut49 := cut_from (P := Try.prog) 23 28 .i64 Try.underlying23 hi049 9 hsz49 (some ad440) t406.length co9 (ji38) q049 q49
                have hr49 := Kd.F_cut (m := ((ji38) : Int).toNat) (c := co9) hC49 (by omega) hroom49
                obtain ⟨A49, hA49⟩ : ∃ A1, A1 = (if co9 = ((ji38) : Int).toNat then (some ad440) else ((some ad440) : Option Addr).map (·.add (((ji38) : Int).toNat * 9))) := ⟨_, rfl⟩
                obtain ⟨c49, hc49⟩ : ∃ c1, c1 = co9 - ((ji38) : Int).toNat := ⟨_, rfl⟩
                have hy49 : y452.length = t406.length - ((ji38) : Int).toNat := (by rw [Ny452.out, List.length_drop] <;> omega)
                rw [show (t406).drop ((ji38) : Int).toNat = y452 from Ny452.out.symm] at hr49
                replace hr49 : Kd.F k28 _ _ A49 y452.length y452 := (by rw [hA49]; exact hr49)
                rw [← hy49, ← hA49, ← hc49] at hcut49
                have HO456 := Aside0.mk (show Kd.V k28 28 _ w.heap.size _ (.slice A49 y452.length c49) y452 from Kd.V_mk (by rw [hy49, hc49]; exact Nat.sub_le_sub_right hroom49 _) hr49)
                have HC456 := Aside0.mk (show y452.length ≤ c49 from by rw [hy49, hc49]; exact Nat.sub_le_sub_right hroom49 _)
                clear hr49 hC49 hroom49 hi049 hsz49 hc49; have KY49 := Aside0.mk hy49; have KA49 := Aside0.mk hA49; clear hy49 hA49
                replace q49 := eq_true q49
                refine start_ (n := 17) (S := fun w' => w'.cell? ⟨gb410, 0, none⟩ = some (.slice (some ad440) t406.length co9) ∧ w'.cell? ⟨gb410, 1, none⟩ = some (.int .i64 t409)) (ds := []) #[false, false, false, false, false, false, false, false, false, false, false, false, false, false, false, false, false] (by kernel_rfl) rfl rfl (cz2 BK410.out) (fun hHeld => ?_); refine with_tabW laws_FnPartWhole.tab15 laws_FnPartWhole.bits15 (fun HT_ HW_ => ?_)
                generalize wr.drew = w47 at HO_411000 HO_424008 HO_437008 HL440_8 BK410 BK423 BK436 HR440_8 HB HO448 HO456 hHeld ⊢
                refine pu_ (i := 0) (N := some 56) HT_ ?_; refine pu_ (i := 3) (N := some 59) HT_ ?_; refine pu_ (i := 5) (N := some 61) HT_ ?_; refine pu_ (i := 8) (N := some 64) HT_ ?_; refine pu_ (i := 10) (N := some 66) HT_ ?_; refine pu_ (i := 11) (N := some 67) HT_ ?_; refine tk_ (i := 1) (N := some 57) HT_ HW_ hHeld ?_; refine tk_ (i := 4) (N := some 60) HT_ HW_ hHeld ?_; refine pu_ (i := 6) (N := some 62) HT_ ?_; refine tk_ (i := 9) (N := some 65) HT_ HW_ hHeld ?_; refine pu_ (i := 12) (N := some 68) HT_ ?_
                refine join_ (σ := Value × Value × Value × Nat) 1 #[true, true, true, true, true, true, true, true, true, true, true, true, true, true, true, true, false] (fun s_ => [(58, s_.1), (63, s_.2.1), (69, s_.2.2.1), (10, .pointer (some ⟨s_.2.2.2, 0, none⟩)), (70, .agg #[s_.2.2.1, .int .i64 t409])]) (fun s_ w' => (w'.cell? ⟨gb410, 0, none⟩ = some (.slice (some ad440) t406.length co9) ∧ w'.cell? ⟨gb410, 1, none⟩ = some (.int .i64 t409)) ∧ (Kd.V (Kd.int .u8) 5 w' w.heap.size (fun k_ => some k_ ≠ (s_.2.2.1 : Value).ownBlock ∧ some k_ ≠ (.slice (some ad440) t406.length co9 : Value).ownBlock ∧ some k_ ≠ (.slice Ao15 t419.length co15 : Value).ownBlock ∧ some k_ ≠ (.slice Ao22 t432.length co22 : Value).ownBlock ∧ k_ ≠ gb410 ∧ k_ ≠ gb423 ∧ k_ ≠ gb436 ∧ k_ ≠ s_.2.2.2) (.slice A440_8 ((rd_T28 t406 x9_2).f8).length c440_8) ((rd_T28 t406 x9_2).f8)) ∧ (Kd.V k28 28 w' w.heap.size (fun k_ => some k_ ≠ (s_.2.2.1 : Value).ownBlock ∧ some k_ ≠ (.slice Ao15 t419.length co15 : Value).ownBlock ∧ some k_ ≠ (.slice Ao22 t432.length co22 : Value).ownBlock ∧ k_ ≠ gb410 ∧ k_ ≠ gb423 ∧ k_ ≠ gb436 ∧ k_ ≠ s_.2.2.2) (.slice (some ad440) y444.length co9) y444) ∧ (Kd.V k28 28 w' w.heap.size (fun k_ => some k_ ≠ (s_.2.2.1 : Value).ownBlock ∧ some k_ ≠ (.slice Ao15 t419.length co15 : Value).ownBlock ∧ some k_ ≠ (.slice Ao22 t432.length co22 : Value).ownBlock ∧ k_ ≠ gb410 ∧ k_ ≠ gb423 ∧ k_ ≠ gb436 ∧ k_ ≠ s_.2.2.2) (.slice A49 y452.length c49) y452) ∧ (Kd.N k28 28 w' w.heap.size (fun k_ => some k_ ≠ (.slice Ao15 t419.length co15 : Value).ownBlock ∧ some k_ ≠ (.slice Ao22 t432.length co22 : Value).ownBlock ∧ k_ ≠ gb410 ∧ k_ ≠ gb423 ∧ k_ ≠ gb436 ∧ k_ ≠ s_.2.2.2) s_.2.2.1 y457) ∧ (Kd.N k28 28 w' w.heap.size (fun k_ => some k_ ≠ (s_.2.2.1 : Value).ownBlock ∧ some k_ ≠ (.slice Ao15 t419.length co15 : Value).ownBlock ∧ some k_ ≠ (.slice Ao22 t432.length co22 : Value).ownBlock ∧ k_ ≠ gb410 ∧ k_ ≠ gb423 ∧ k_ ≠ gb436 ∧ k_ ≠ s_.2.2.2) (.slice (some ad440) t406.length co9) t406) ∧ (Kd.R (Kd.int .u8) 5 w' w.heap.size (fun k_ => some k_ ≠ (.slice Ao22 t432.length co22 : Value).ownBlock) (.slice Ao15 t419.length co15) t419) ∧ (Kd.R (Kd.int .u8) 5 w' w.heap.size (fun k_ => some k_ ≠ (.slice Ao15 t419.length co15 : Value).ownBlock) (.slice Ao22 t432.length co22) t432) ∧ (w'.heap[gb410]? = some (.cells #[.slice (some ad440) t406.length co9, .int .i64 t409] 25 (0, 0))) ∧ (w'.heap[gb423]? = some (.cells #[.int .i64 t411, .int .i64 t412, .int .i64 t413, .int .i64 t414, .int .i64 t415, .int .i64 t416, .bool t417, .bool t418, .slice Ao15 t419.length co15] 28 (0, 0))) ∧ (w'.heap[gb436]? = some (.cells #[.int .i64 t424, .int .i64 t425, .int .i64 t426, .int .i64 t427, .int .i64 t428, .int .i64 t429, .bool t430, .bool t431, .slice Ao22 t432.length co22] 28 (0, 0))) ∧ (w'.heap[s_.2.2.2]? = some (.cells #[.slice none 0 0, .int .i64 0] 25 (0, 0))) ∧ (w.heap.size ≤ s_.2.2.2) ∧ (w.heap.size ≤ s_.2.2.2) ∧ (gb410 ≠ s_.2.2.2) ∧ (s_.2.2.2 ≠ gb410) ∧ (gb423 ≠ s_.2.2.2) ∧ (s_.2.2.2 ≠ gb423) ∧ (gb436 ≠ s_.2.2.2) ∧ (s_.2.2.2 ≠ gb436) ∧ (Below w.heap.size w w')) ?_ ?_
                rotate_left
                ·intro hCont
                 refine two_ (i := 2) (j := 15) (Ni := some 58) (Nj := some 10) #[true, true, true, true, true, true, true, false, true, true, true, true, true, false, false, false, false] #[true, true, false, true, true, true, true, false, true, true, true, true, true, false, false, true, false] rfl rfl rfl rfl (two_of HT_.out (by kernel_rfl)) (by decide) (by decide) (fun K hK => ?_) (fun K hK => ?_)
                 ·skip
                  refine Kd.N_lit_step k28 _ 28 ?hg (N' := 58) ?hd (xs := ([] : List (S28))) (inner := []) (ok := (fun k_ => some k_ ≠ (.slice (some ad440) t406.length co9 : Value).ownBlock ∧ some k_ ≠ (.slice Ao15 t419.length co15 : Value).ownBlock ∧ some k_ ≠ (.slice Ao22 t432.length co22 : Value).ownBlock ∧ k_ ≠ gb410 ∧ k_ ≠ gb423 ∧ k_ ≠ gb436)) (okp := (fun k_ => some k_ ≠ (.slice (some ad440) t406.length co9 : Value).ownBlock ∧ some k_ ≠ (.slice Ao15 t419.length co15 : Value).ownBlock ∧ some k_ ≠ (.slice Ao22 t432.length co22 : Value).ownBlock ∧ k_ ≠ gb410 ∧ k_ ≠ gb423 ∧ k_ ≠ gb436)) ?hr ?hp (fun _ hk => hk) ((show ∀ k_, w47.heap.size ≤ k_ → (fun k_ => some k_ ≠ (.slice (some ad440) t406.length co9 : Value).ownBlock ∧ some k_ ≠ (.slice Ao15 t419.length co15 : Value).ownBlock ∧ some k_ ≠ (.slice Ao22 t432.length co22 : Value).ownBlock ∧ k_ ≠ gb410 ∧ k_ ≠ gb423 ∧ k_ ≠ gb436) k_ from fun k_ hk => ⟨Kd.fresh' (Kd.N_lt (kN_ HO_411000.out)) k_ hk, Kd.fresh' (Kd.R_lt (kR_ HO_424008.out)) k_ hk, Kd.fresh' (Kd.R_lt (kR_ HO_437008.out)) k_ hk, fb_ BK410 k_ hk, fb_ BK423 k_ hk, fb_ BK436 k_ hk⟩) _ (Nat.le_refl _)) (Below.refl _ _) (Nat.le_refl _) (by simp) ?_; (case hd => rfl); (case hg => rfl); (case hr => first | (go_simp; done) | (go_simp; rfl)); (case hp => exact (Reps.none _ _))
                  intro v442 w50 ho51 hb hg_ hnew_
                  clear hg_ hnew_
                  (first | rw [← Ny441.out] at ho51 | (simp only [Int.reduceToNat] at ho51; rw [← Ny441.out] at ho51))
                  have n0_ := Aside0.mk (Kd.N_elder' (kN_ HO_411000.out) (Kd.N_base ho51) hb); have n1_ := Aside0.mk (Kd.R_below (kR_ HO_424008.out) hb); have n2_ := Aside0.mk (Kd.R_below (kR_ HO_437008.out) hb); have n3_ := Aside0.mk (Kd.V_elder' (kV_ HL440_8.out) (Kd.N_base ho51) hb); have n4_ := Aside0.mk (Kd.V_elder' (kV_ HO448.out) (Kd.N_base ho51) hb); have n5_ := Aside0.mk (Kd.V_elder' (kV_ HO456.out) (Kd.N_base ho51) hb); have n6_ := Aside0.mk (Kd.N_lower ho51 (below_size (hbA_ HB.out))); have n7_ := (bbA_ BK410 hb); have n8_ := (bbA_ BK423 hb); have n9_ := (bbA_ BK436 hb); have n10_ := Aside0.mk (Kd.C_below (by repeat (first | (with_reducible exact HR440_8.out) | (with_reducible exact Kd.C_drewN HR440_8.out _) | (with_reducible refine Kd.C_alloc ?_ _) | (with_reducible refine Kd.C_drewN ?_ _) | (with_reducible refine Kd.C_drew ?_) | exact HR440_8.out)) hb); have n11_ := (bs_ HB hb); clear HO_411000 HO_424008 HO_437008 HL440_8 HO448 HO456 BK410 BK423 BK436 HR440_8 HB; have HO_411000 := n0_; have HO_424008 := n1_; have HO_437008 := n2_; have HL440_8 := n3_; have HO448 := n4_; have HO456 := n5_; have HO443 := n6_; have BK410 := n7_; have BK423 := n8_; have BK436 := n9_; have HR440_8 := n10_; have HB := n11_; clear n0_ n1_ n2_ n3_ n4_ n5_ n6_ n7_ n8_ n9_ n10_ n11_ hb ho51
                  refine hK.out _ _ (cz2 BK410.out) (fun hHeld => ?_)
                  clear hK K; refine nm_ 58 ?_
                  refine two_ (i := 7) (j := 15) (Ni := some 63) (Nj := some 10) #[true, true, true, true, true, true, true, true, true, true, true, true, true, false, false, false, false] #[true, true, true, true, true, true, true, false, true, true, true, true, true, false, false, true, false] rfl rfl rfl rfl (two_of HT_.out (by kernel_rfl)) (by decide) (by decide) (fun K hK => ?_) (fun K hK => ?_)
                  ·skip
                   refine Kd.N_append_rows_step k28 (w0 := w) w.heap.size (by rfl) (.tmp 58) (.tmp 62) 23 28 (.agg #[(.int .i64 0), (.int .i64 0), (.int .i64 0), (.int .i64 0), (.int .i64 0), (.int .i64 0), (.bool false), (.bool false), (.slice none 0 0)]) 80 rfl Try.underlying23 info28 rfl (by decide) (by omega) v442 y441 y444 _ _ _ (fun k_ => some k_ ≠ (.slice Ao15 t419.length co15 : Value).ownBlock ∧ some k_ ≠ (.slice Ao22 t432.length co22 : Value).ownBlock ∧ k_ ≠ gb410 ∧ k_ ≠ gb423 ∧ k_ ≠ gb436) (fun k_ => ((fun k_ => some k_ ≠ (.slice Ao15 t419.length co15 : Value).ownBlock ∧ some k_ ≠ (.slice Ao22 t432.length co22 : Value).ownBlock ∧ k_ ≠ gb410 ∧ k_ ≠ gb423 ∧ k_ ≠ gb436)) k_ ∧ some k_ ≠ (v442 : Value).ownBlock) rfl rfl ?aO ?aR (fun _ hk => hk) ?aF ?aB ?aS ?aL ?_
                   (case aR => exact (by skip; exact Kd.V_F (Kd.V_mono (ok' := (fun k_ => ((fun k_ => some k_ ≠ (.slice Ao15 t419.length co15 : Value).ownBlock ∧ some k_ ≠ (.slice Ao22 t432.length co22 : Value).ownBlock ∧ k_ ≠ gb410 ∧ k_ ≠ gb423 ∧ k_ ≠ gb436)) k_ ∧ some k_ ≠ (v442 : Value).ownBlock)) (HO448.out) (fun k_ hk => ⟨⟨hk.1.1, ⟨hk.1.2.1, ⟨hk.1.2.2.1, ⟨hk.1.2.2.2.1, hk.1.2.2.2.2⟩⟩⟩⟩, hk.2⟩))))
                   (case aB => exact (hbA_ HB.out))
                   (case aF => exact (fun k_ hk => ⟨Kd.fresh' (Kd.R_lt (kR_ HO_424008.out)) k_ hk, Kd.fresh' (Kd.R_lt (kR_ HO_437008.out)) k_ hk, fb_ BK410 k_ hk, fb_ BK423 k_ hk, fb_ BK436 k_ hk⟩))
                   (case aO => exact (by refine kN_ ?_; exact Kd.N_mono HO443.out (fun _ hk => ⟨hk.2.1, ⟨hk.2.2.1, ⟨hk.2.2.2.1, ⟨hk.2.2.2.2.1, hk.2.2.2.2.2⟩⟩⟩⟩)))
                   (case aS => exact (below_size (hbA_ HB.out)))
                   (case aL => have := LMc37.out; omega)
                   intro v450 w52 ho hb hg hat
                   rw [← Ny449.out] at ho
                   have n0_ := Aside0.mk (Kd.N_afterv (ok := (fun k_ => some k_ ≠ (.slice Ao15 t419.length co15 : Value).ownBlock ∧ some k_ ≠ (.slice Ao22 t432.length co22 : Value).ownBlock ∧ k_ ≠ gb410 ∧ k_ ≠ gb423 ∧ k_ ≠ gb436)) (kN_ HO_411000.out) hg hat); have n1_ := Aside0.mk (Kd.R_over' (kR_ HO_424008.out) (Kd.N_typed (kN_ HO443.out)) (by decide) hg); have n2_ := Aside0.mk (Kd.R_over' (kR_ HO_437008.out) (Kd.N_typed (kN_ HO443.out)) (by decide) hg); have n3_ := (bgA_ BK410 hg (Kd.N_ne HO443.out BK410.out (by decide))); have n4_ := (bgA_ BK423 hg (Kd.N_away HO443.out (fun _ hk => hk.2.2.2.2.1))); have n5_ := (bgA_ BK436 hg (Kd.N_away HO443.out (fun _ hk => hk.2.2.2.2.2))); have n6_ := Aside0.mk (Kd.V_afterv (ok := (fun k_ => some k_ ≠ (.slice (some ad440) t406.length co9 : Value).ownBlock ∧ some k_ ≠ (.slice Ao15 t419.length co15 : Value).ownBlock ∧ some k_ ≠ (.slice Ao22 t432.length co22 : Value).ownBlock ∧ k_ ≠ gb410 ∧ k_ ≠ gb423 ∧ k_ ≠ gb436)) (by refine kV_ ?_; exact Kd.V_mono HL440_8.out (fun _ hk => ⟨⟨hk.1.2, ⟨hk.1.1.1, ⟨hk.1.1.2.1, ⟨hk.1.1.2.2.1, ⟨hk.1.1.2.2.2.1, hk.1.1.2.2.2.2⟩⟩⟩⟩⟩, hk.2⟩)) hg hat); have n7_ := Aside0.mk (Kd.V_afterv (ok := (fun k_ => some k_ ≠ (.slice Ao15 t419.length co15 : Value).ownBlock ∧ some k_ ≠ (.slice Ao22 t432.length co22 : Value).ownBlock ∧ k_ ≠ gb410 ∧ k_ ≠ gb423 ∧ k_ ≠ gb436)) (kV_ HO448.out) hg hat); have n8_ := Aside0.mk (Kd.V_afterv (ok := (fun k_ => some k_ ≠ (.slice Ao15 t419.length co15 : Value).ownBlock ∧ some k_ ≠ (.slice Ao22 t432.length co22 : Value).ownBlock ∧ k_ ≠ gb410 ∧ k_ ≠ gb423 ∧ k_ ≠ gb436)) (kV_ HO456.out) hg hat); have n9_ := Aside0.mk (hb); have n10_ := Aside0.mk (ho); clear HO_411000 HO_424008 HO_437008 BK410 BK423 BK436 HL440_8 HO448 HO456 HB HO443; have HO_411000 := n0_; have HO_424008 := n1_; have HO_437008 := n2_; have BK410 := n3_; have BK423 := n4_; have BK436 := n5_; have HL440_8 := n6_; have HO448 := n7_; have HO456 := n8_
                   have HB := n9_; have HO451 := n10_; clear n0_ n1_ n2_ n3_ n4_ n5_ n6_ n7_ n8_ n9_ n10_ ho hb hg hat
                   refine hK.out _ _ (cz2 BK410.out) (fun hHeld => ?_)
                   clear hK K; refine nm_ 63 ?_
                   refine two_ (i := 13) (j := 15) (Ni := some 69) (Nj := some 10) #[true, true, true, true, true, true, true, true, true, true, true, true, true, true, false, false, false] #[true, true, true, true, true, true, true, true, true, true, true, true, true, false, false, true, false] rfl rfl rfl rfl (two_of HT_.out (by kernel_rfl)) (by decide) (by decide) (fun K hK => ?_) (fun K hK => ?_)
                   ·skip
                    refine Kd.N_append_rows_step k28 (w0 := w) w.heap.size (by rfl) (.tmp 63) (.tmp 68) 23 28 (.agg #[(.int .i64 0), (.int .i64 0), (.int .i64 0), (.int .i64 0), (.int .i64 0), (.int .i64 0), (.bool false), (.bool false), (.slice none 0 0)]) 80 rfl Try.underlying23 info28 rfl (by decide) (by omega) v450 y449 y452 _ _ _ (fun k_ => some k_ ≠ (.slice Ao15 t419.length co15 : Value).ownBlock ∧ some k_ ≠ (.slice Ao22 t432.length co22 : Value).ownBlock ∧ k_ ≠ gb410 ∧ k_ ≠ gb423 ∧ k_ ≠ gb436) (fun k_ => ((fun k_ => some k_ ≠ (.slice Ao15 t419.length co15 : Value).ownBlock ∧ some k_ ≠ (.slice Ao22 t432.length co22 : Value).ownBlock ∧ k_ ≠ gb410 ∧ k_ ≠ gb423 ∧ k_ ≠ gb436)) k_ ∧ some k_ ≠ (v450 : Value).ownBlock) rfl rfl ?aO ?aR (fun _ hk => hk) ?aF ?aB ?aS ?aL ?_
                    (case aR => exact (by skip; exact Kd.V_F (Kd.V_mono (ok' := (fun k_ => ((fun k_ => some k_ ≠ (.slice Ao15 t419.length co15 : Value).ownBlock ∧ some k_ ≠ (.slice Ao22 t432.length co22 : Value).ownBlock ∧ k_ ≠ gb410 ∧ k_ ≠ gb423 ∧ k_ ≠ gb436)) k_ ∧ some k_ ≠ (v450 : Value).ownBlock)) (HO456.out) (fun k_ hk => ⟨⟨hk.1.1, ⟨hk.1.2.1, ⟨hk.1.2.2.1, ⟨hk.1.2.2.2.1, hk.1.2.2.2.2⟩⟩⟩⟩, hk.2⟩))))
                    (case aB => exact (hbA_ HB.out))
                    (case aF => exact (fun k_ hk => ⟨Kd.fresh' (Kd.R_lt (kR_ HO_424008.out)) k_ hk, Kd.fresh' (Kd.R_lt (kR_ HO_437008.out)) k_ hk, fb_ BK410 k_ hk, fb_ BK423 k_ hk, fb_ BK436 k_ hk⟩))
                    (case aO => exact (kN_ HO451.out))
                    (case aS => exact (below_size (hbA_ HB.out)))
                    (case aL => have := LMc41.out; omega)
                    intro v458 w53 ho hb hg hat
                    rw [← Ny457.out] at ho
                    have n0_ := Aside0.mk (Kd.N_afterv (ok := (fun k_ => some k_ ≠ (.slice Ao15 t419.length co15 : Value).ownBlock ∧ some k_ ≠ (.slice Ao22 t432.length co22 : Value).ownBlock ∧ k_ ≠ gb410 ∧ k_ ≠ gb423 ∧ k_ ≠ gb436)) (kN_ HO_411000.out) hg hat); have n1_ := Aside0.mk (Kd.R_over' (kR_ HO_424008.out) (Kd.N_typed (kN_ HO451.out)) (by decide) hg); have n2_ := Aside0.mk (Kd.R_over' (kR_ HO_437008.out) (Kd.N_typed (kN_ HO451.out)) (by decide) hg); have n3_ := (bgA_ BK410 hg (Kd.N_ne HO451.out BK410.out (by decide))); have n4_ := (bgA_ BK423 hg (Kd.N_away HO451.out (fun _ hk => hk.2.2.2.1))); have n5_ := (bgA_ BK436 hg (Kd.N_away HO451.out (fun _ hk => hk.2.2.2.2))); have n6_ := Aside0.mk (Kd.V_afterv (ok := (fun k_ => some k_ ≠ (.slice (some ad440) t406.length co9 : Value).ownBlock ∧ some k_ ≠ (.slice Ao15 t419.length co15 : Value).ownBlock ∧ some k_ ≠ (.slice Ao22 t432.length co22 : Value).ownBlock ∧ k_ ≠ gb410 ∧ k_ ≠ gb423 ∧ k_ ≠ gb436)) (kV_ HL440_8.out) hg hat); have n7_ := Aside0.mk (Kd.V_afterv (ok := (fun k_ => some k_ ≠ (.slice Ao15 t419.length co15 : Value).ownBlock ∧ some k_ ≠ (.slice Ao22 t432.length co22 : Value).ownBlock ∧ k_ ≠ gb410 ∧ k_ ≠ gb423 ∧ k_ ≠ gb436)) (kV_ HO448.out) hg hat); have n8_ := Aside0.mk (Kd.V_afterv (ok := (fun k_ => some k_ ≠ (.slice Ao15 t419.length co15 : Value).ownBlock ∧ some k_ ≠ (.slice Ao22 t432.length co22 : Value).ownBlock ∧ k_ ≠ gb410 ∧ k_ ≠ gb423 ∧ k_ ≠ gb436)) (kV_ HO456.out) hg hat); have n9_ := Aside0.mk (hb); have n10_ := Aside0.mk (ho); clear HO_411000 HO_424008 HO_437008 BK410 BK423 BK436 HL440_8 HO448 HO456 HB HO451; have HO_411000 := n0_; have HO_424008 := n1_; have HO_437008 := n2_; have BK410 := n3_; have BK423 := n4_; have BK436 := n5_; have HL440_8 := n6_; have HO448 := n7_; have HO456 := n8_; have HB := n9_; have HO459 := n10_; clear n0_ n1_ n2_ n3_ n4_ n5_ n6_ n7_ n8_ n9_ n10_ ho hb hg hat
                    obtain ⟨Ao54, co54, eo54⟩ := Kd.N_slice HO459.out
                    (first | subst eo54 | (injection eo54 with f1_ f2_ f3_; have f4_ := f1_.symm; have f5_ := f3_.symm; clear f1_ f2_ f3_; subst f4_; subst f5_))
                    refine hK.out _ _ (cz2 BK410.out) (fun hHeld => ?_)
                    clear hK K; refine nm_ 69 ?_; refine pu_ (i := 14) (N := some 70) HT_ ?_
                    refine on_ (i := 15) (N := some 10) HT_ (fun K hK => ?_)
                    refine box_step ?hg (N := 10) ?hd (cs := #[.slice none 0 0, .int .i64 0]) (t := 25) ?hr ?_; (case hd => rfl); (case hg => rfl); (case hr => first | (go_simp; done) | (go_simp; rfl))
                    intro gb460 hg w55 hbox hb
                    have n0_ := Aside0.mk (Kd.N_below (Kd.N_elderB (kN_ HO_411000.out) gb460 (Nat.le_of_eq hg.symm)) hb); have n1_ := Aside0.mk (Kd.R_below (kR_ HO_424008.out) hb); have n2_ := Aside0.mk (Kd.R_below (kR_ HO_437008.out) hb); have n3_ := Aside0.mk (Kd.V_below (Kd.V_elderB (kV_ HL440_8.out) gb460 (Nat.le_of_eq hg.symm)) hb); have n4_ := Aside0.mk (Kd.V_below (Kd.V_elderB (kV_ HO448.out) gb460 (Nat.le_of_eq hg.symm)) hb); have n5_ := Aside0.mk (Kd.V_below (Kd.V_elderB (kV_ HO456.out) gb460 (Nat.le_of_eq hg.symm)) hb); have n6_ := Aside0.mk (Kd.N_below (Kd.N_elderB (kN_ HO459.out) gb460 (Nat.le_of_eq hg.symm)) hb); have n7_ := (bbA_ BK410 hb); have n8_ := (bbA_ BK423 hb); have n9_ := (bbA_ BK436 hb); have n10_ := (bs_ HB hb); have n11_ := Aside0.mk (hbox); have n12_ := ge_ hg HB; have n13_ := ge_ hg HB; have n14_ := nl_ hg BK410; have n15_ := ng_ hg BK410; have n16_ := nl_ hg BK423
                    have n17_ := ng_ hg BK423; have n18_ := nl_ hg BK436; have n19_ := ng_ hg BK436; clear HO_411000 HO_424008 HO_437008 HL440_8 HO448 HO456 HO459 BK410 BK423 BK436 HB; have HO_411000 := n0_; have HO_424008 := n1_; have HO_437008 := n2_; have HL440_8 := n3_; have HO448 := n4_; have HO456 := n5_; have HO459 := n6_; have BK410 := n7_; have BK423 := n8_; have BK436 := n9_; have HB := n10_; have BK460 := n11_; have GW460 := n12_; have GE460 := n13_; have NB410_460 := n14_; have NB460_410 := n15_; have NB423_460 := n16_; have NB460_423 := n17_; have NB436_460 := n18_; have NB460_436 := n19_; clear n0_ n1_ n2_ n3_ n4_ n5_ n6_ n7_ n8_ n9_ n10_ n11_ n12_ n13_ n14_ n15_ n16_ n17_ n18_ n19_ hb hbox hg
                    refine hK.out _ _ (cz2 BK410.out) (fun hHeld => ?_)
                    clear hK K; refine nm_ 10 ?_
                    exact norm_ (by simp only [putAll, Act.put, List.setIfInBounds_toArray, List.set_cons_zero, List.set_cons_succ]) (hCont (v442, v450, .slice Ao54 y457.length co54, gb460) _ ⟨hHeld, (by refine kV_ ?_; exact Kd.V_mono HL440_8.out (fun _ hk => ⟨hk.1.2, ⟨hk.1.1.1, ⟨hk.1.1.2.1, ⟨hk.1.1.2.2.1, ⟨hk.1.1.2.2.2.1, ⟨hk.1.1.2.2.2.2.1, ⟨hk.1.1.2.2.2.2.2, hk.2⟩⟩⟩⟩⟩⟩⟩)), (by refine kV_ ?_; exact Kd.V_mono HO448.out (fun _ hk => ⟨hk.1.2, ⟨hk.1.1.1, ⟨hk.1.1.2.1, ⟨hk.1.1.2.2.1, ⟨hk.1.1.2.2.2.1, ⟨hk.1.1.2.2.2.2, hk.2⟩⟩⟩⟩⟩⟩)), (by refine kV_ ?_; exact Kd.V_mono HO456.out (fun _ hk => ⟨hk.1.2, ⟨hk.1.1.1, ⟨hk.1.1.2.1, ⟨hk.1.1.2.2.1, ⟨hk.1.1.2.2.2.1, ⟨hk.1.1.2.2.2.2, hk.2⟩⟩⟩⟩⟩⟩)), (by refine kN_ ?_; exact Kd.N_mono HO459.out (fun _ hk => ⟨hk.1.1, ⟨hk.1.2.1, ⟨hk.1.2.2.1, ⟨hk.1.2.2.2.1, ⟨hk.1.2.2.2.2, hk.2⟩⟩⟩⟩⟩)), (by refine kN_ ?_; exact Kd.N_mono HO_411000.out (fun _ hk => ⟨hk.1.2, ⟨hk.1.1.1, ⟨hk.1.1.2.1, ⟨hk.1.1.2.2.1, ⟨hk.1.1.2.2.2.1, ⟨hk.1.1.2.2.2.2, hk.2⟩⟩⟩⟩⟩⟩)), (kR_ HO_424008.out), (kR_ HO_437008.out), (kb_ BK410.out), (kb_ BK423.out), (kb_ BK436.out), (kb_ BK460.out), GW460.out, GE460.out, NB410_460.out, NB460_410.out, NB423_460.out, NB460_423.out, NB436_460.out, NB460_436.out, (hbA_ HB.out)⟩)
                   ·skip
                    refine box_step ?hg (N := 10) ?hd (cs := #[.slice none 0 0, .int .i64 0]) (t := 25) ?hr ?_; (case hd => rfl); (case hg => rfl); (case hr => first | (go_simp; done) | (go_simp; rfl))
                    intro gb460 hg w53 hbox hb
                    have n0_ := Aside0.mk (Kd.N_below (Kd.N_elderB (kN_ HO_411000.out) gb460 (Nat.le_of_eq hg.symm)) hb); have n1_ := Aside0.mk (Kd.R_below (kR_ HO_424008.out) hb); have n2_ := Aside0.mk (Kd.R_below (kR_ HO_437008.out) hb); have n3_ := Aside0.mk (Kd.V_below (Kd.V_elderB (kV_ HL440_8.out) gb460 (Nat.le_of_eq hg.symm)) hb); have n4_ := Aside0.mk (Kd.V_below (Kd.V_elderB (kV_ HO448.out) gb460 (Nat.le_of_eq hg.symm)) hb); have n5_ := Aside0.mk (Kd.V_below (Kd.V_elderB (kV_ HO456.out) gb460 (Nat.le_of_eq hg.symm)) hb); have n6_ := Aside0.mk (Kd.N_below (Kd.N_elderB (kN_ HO451.out) gb460 (Nat.le_of_eq hg.symm)) hb); have n7_ := (bbA_ BK410 hb); have n8_ := (bbA_ BK423 hb); have n9_ := (bbA_ BK436 hb); have n10_ := (bs_ HB hb); have n11_ := Aside0.mk (hbox); have n12_ := ge_ hg HB; have n13_ := ge_ hg HB; have n14_ := nl_ hg BK410; have n15_ := ng_ hg BK410; have n16_ := nl_ hg BK423
                    have n17_ := ng_ hg BK423; have n18_ := nl_ hg BK436; have n19_ := ng_ hg BK436; clear HO_411000 HO_424008 HO_437008 HL440_8 HO448 HO456 HO451 BK410 BK423 BK436 HB; have HO_411000 := n0_; have HO_424008 := n1_; have HO_437008 := n2_; have HL440_8 := n3_; have HO448 := n4_; have HO456 := n5_; have HO451 := n6_; have BK410 := n7_; have BK423 := n8_; have BK436 := n9_; have HB := n10_; have BK460 := n11_; have GW460 := n12_; have GE460 := n13_; have NB410_460 := n14_; have NB460_410 := n15_; have NB423_460 := n16_; have NB460_423 := n17_; have NB436_460 := n18_; have NB460_436 := n19_; clear n0_ n1_ n2_ n3_ n4_ n5_ n6_ n7_ n8_ n9_ n10_ n11_ n12_ n13_ n14_ n15_ n16_ n17_ n18_ n19_ hb hbox hg
                    refine hK.out _ _ (cz2 BK410.out) (fun hHeld => ?_)
                    clear hK K; refine nm_ 10 ?_
                    refine on_ (i := 13) (N := some 69) HT_ (fun K hK => ?_)
                    refine Kd.N_append_rows_step k28 (w0 := w) w.heap.size (by rfl) (.tmp 63) (.tmp 68) 23 28 (.agg #[(.int .i64 0), (.int .i64 0), (.int .i64 0), (.int .i64 0), (.int .i64 0), (.int .i64 0), (.bool false), (.bool false), (.slice none 0 0)]) 80 rfl Try.underlying23 info28 rfl (by decide) (by omega) v450 y449 y452 _ _ _ (fun k_ => some k_ ≠ (.slice Ao15 t419.length co15 : Value).ownBlock ∧ some k_ ≠ (.slice Ao22 t432.length co22 : Value).ownBlock ∧ k_ ≠ gb410 ∧ k_ ≠ gb423 ∧ k_ ≠ gb436 ∧ k_ ≠ gb460) (fun k_ => ((fun k_ => some k_ ≠ (.slice Ao15 t419.length co15 : Value).ownBlock ∧ some k_ ≠ (.slice Ao22 t432.length co22 : Value).ownBlock ∧ k_ ≠ gb410 ∧ k_ ≠ gb423 ∧ k_ ≠ gb436 ∧ k_ ≠ gb460)) k_ ∧ some k_ ≠ (v450 : Value).ownBlock) rfl rfl ?aO ?aR (fun _ hk => hk) ?aF ?aB ?aS ?aL ?_
                    (case aR => exact (by skip; exact Kd.V_F (Kd.V_mono (ok' := (fun k_ => ((fun k_ => some k_ ≠ (.slice Ao15 t419.length co15 : Value).ownBlock ∧ some k_ ≠ (.slice Ao22 t432.length co22 : Value).ownBlock ∧ k_ ≠ gb410 ∧ k_ ≠ gb423 ∧ k_ ≠ gb436 ∧ k_ ≠ gb460)) k_ ∧ some k_ ≠ (v450 : Value).ownBlock)) (HO456.out) (fun k_ hk => ⟨⟨hk.1.1.1, ⟨hk.1.1.2.1, ⟨hk.1.1.2.2.1, ⟨hk.1.1.2.2.2.1, ⟨hk.1.1.2.2.2.2, hk.2⟩⟩⟩⟩⟩, hk.1.2⟩))))
                    (case aB => exact (hbA_ HB.out))
                    (case aF => exact (fun k_ hk => ⟨Kd.fresh' (Kd.R_lt (kR_ HO_424008.out)) k_ hk, Kd.fresh' (Kd.R_lt (kR_ HO_437008.out)) k_ hk, fb_ BK410 k_ hk, fb_ BK423 k_ hk, fb_ BK436 k_ hk, fb_ BK460 k_ hk⟩))
                    (case aO => exact (by refine kN_ ?_; exact Kd.N_mono HO451.out (fun _ hk => ⟨hk.1.1, ⟨hk.1.2.1, ⟨hk.1.2.2.1, ⟨hk.1.2.2.2.1, ⟨hk.1.2.2.2.2, hk.2⟩⟩⟩⟩⟩)))
                    (case aS => exact (below_size (hbA_ HB.out)))
                    (case aL => have := LMc41.out; omega)
                    intro v458 w54 ho hb hg hat
                    rw [← Ny457.out] at ho
                    have n0_ := Aside0.mk (Kd.N_afterv (ok := (fun k_ => some k_ ≠ (.slice Ao15 t419.length co15 : Value).ownBlock ∧ some k_ ≠ (.slice Ao22 t432.length co22 : Value).ownBlock ∧ k_ ≠ gb410 ∧ k_ ≠ gb423 ∧ k_ ≠ gb436 ∧ k_ ≠ gb460)) (by refine kN_ ?_; exact Kd.N_mono HO_411000.out (fun _ hk => ⟨⟨hk.1.1.1, ⟨hk.1.1.2.1, ⟨hk.1.1.2.2.1, ⟨hk.1.1.2.2.2.1, ⟨hk.1.1.2.2.2.2, hk.2⟩⟩⟩⟩⟩, hk.1.2⟩)) hg hat); have n1_ := Aside0.mk (Kd.R_over' (kR_ HO_424008.out) (Kd.N_typed (kN_ HO451.out)) (by decide) hg); have n2_ := Aside0.mk (Kd.R_over' (kR_ HO_437008.out) (Kd.N_typed (kN_ HO451.out)) (by decide) hg); have n3_ := (bgA_ BK410 hg (Kd.N_ne HO451.out BK410.out (by decide))); have n4_ := (bgA_ BK423 hg (Kd.N_away HO451.out (fun _ hk => hk.1.2.2.2.1))); have n5_ := (bgA_ BK436 hg (Kd.N_away HO451.out (fun _ hk => hk.1.2.2.2.2))); have n6_ := Aside0.mk (Kd.V_afterv (ok := (fun k_ => some k_ ≠ (.slice (some ad440) t406.length co9 : Value).ownBlock ∧ some k_ ≠ (.slice Ao15 t419.length co15 : Value).ownBlock ∧ some k_ ≠ (.slice Ao22 t432.length co22 : Value).ownBlock ∧ k_ ≠ gb410 ∧ k_ ≠ gb423 ∧ k_ ≠ gb436 ∧ k_ ≠ gb460)) (by refine kV_ ?_; exact Kd.V_mono HL440_8.out (fun _ hk => ⟨⟨hk.1.1.1, ⟨hk.1.1.2.1, ⟨hk.1.1.2.2.1, ⟨hk.1.1.2.2.2.1, ⟨hk.1.1.2.2.2.2.1, ⟨hk.1.1.2.2.2.2.2, hk.2⟩⟩⟩⟩⟩⟩, hk.1.2⟩)) hg hat); have n7_ := Aside0.mk (Kd.V_afterv (ok := (fun k_ => some k_ ≠ (.slice Ao15 t419.length co15 : Value).ownBlock ∧ some k_ ≠ (.slice Ao22 t432.length co22 : Value).ownBlock ∧ k_ ≠ gb410 ∧ k_ ≠ gb423 ∧ k_ ≠ gb436 ∧ k_ ≠ gb460)) (by refine kV_ ?_; exact Kd.V_mono HO448.out (fun _ hk => ⟨⟨hk.1.1.1, ⟨hk.1.1.2.1, ⟨hk.1.1.2.2.1, ⟨hk.1.1.2.2.2.1, ⟨hk.1.1.2.2.2.2, hk.2⟩⟩⟩⟩⟩, hk.1.2⟩)) hg hat)
                    have n8_ := Aside0.mk (Kd.V_afterv (ok := (fun k_ => some k_ ≠ (.slice Ao15 t419.length co15 : Value).ownBlock ∧ some k_ ≠ (.slice Ao22 t432.length co22 : Value).ownBlock ∧ k_ ≠ gb410 ∧ k_ ≠ gb423 ∧ k_ ≠ gb436 ∧ k_ ≠ gb460)) (by refine kV_ ?_; exact Kd.V_mono HO456.out (fun _ hk => ⟨⟨hk.1.1.1, ⟨hk.1.1.2.1, ⟨hk.1.1.2.2.1, ⟨hk.1.1.2.2.2.1, ⟨hk.1.1.2.2.2.2, hk.2⟩⟩⟩⟩⟩, hk.1.2⟩)) hg hat); have n9_ := (bgA_ BK460 hg (Kd.N_ne HO451.out BK460.out (by decide))); have n10_ := Aside0.mk (hb); have n11_ := Aside0.mk (ho); clear HO_411000 HO_424008 HO_437008 BK410 BK423 BK436 HL440_8 HO448 HO456 BK460 HB HO451; have HO_411000 := n0_; have HO_424008 := n1_; have HO_437008 := n2_; have BK410 := n3_; have BK423 := n4_; have BK436 := n5_; have HL440_8 := n6_; have HO448 := n7_; have HO456 := n8_; have BK460 := n9_; have HB := n10_; have HO459 := n11_; clear n0_ n1_ n2_ n3_ n4_ n5_ n6_ n7_ n8_ n9_ n10_ n11_ ho hb hg hat
                    obtain ⟨Ao55, co55, eo55⟩ := Kd.N_slice HO459.out
                    (first | subst eo55 | (injection eo55 with f1_ f2_ f3_; have f4_ := f1_.symm; have f5_ := f3_.symm; clear f1_ f2_ f3_; subst f4_; subst f5_))
                    refine hK.out _ _ (cz2 BK410.out) (fun hHeld => ?_)
                    clear hK K; refine nm_ 69 ?_; refine pu_ (i := 14) (N := some 70) HT_ ?_
                    exact norm_ (by simp only [putAll, Act.put, List.setIfInBounds_toArray, List.set_cons_zero, List.set_cons_succ]) (hCont (v442, v450, .slice Ao55 y457.length co55, gb460) _ ⟨hHeld, (by refine kV_ ?_; exact Kd.V_mono HL440_8.out (fun _ hk => ⟨hk.2, ⟨hk.1.1, ⟨hk.1.2.1, ⟨hk.1.2.2.1, ⟨hk.1.2.2.2.1, ⟨hk.1.2.2.2.2.1, ⟨hk.1.2.2.2.2.2.1, hk.1.2.2.2.2.2.2⟩⟩⟩⟩⟩⟩⟩)), (by refine kV_ ?_; exact Kd.V_mono HO448.out (fun _ hk => ⟨hk.2, ⟨hk.1.1, ⟨hk.1.2.1, ⟨hk.1.2.2.1, ⟨hk.1.2.2.2.1, ⟨hk.1.2.2.2.2.1, hk.1.2.2.2.2.2⟩⟩⟩⟩⟩⟩)), (by refine kV_ ?_; exact Kd.V_mono HO456.out (fun _ hk => ⟨hk.2, ⟨hk.1.1, ⟨hk.1.2.1, ⟨hk.1.2.2.1, ⟨hk.1.2.2.2.1, ⟨hk.1.2.2.2.2.1, hk.1.2.2.2.2.2⟩⟩⟩⟩⟩⟩)), (kN_ HO459.out), (by refine kN_ ?_; exact Kd.N_mono HO_411000.out (fun _ hk => ⟨hk.2, ⟨hk.1.1, ⟨hk.1.2.1, ⟨hk.1.2.2.1, ⟨hk.1.2.2.2.1, ⟨hk.1.2.2.2.2.1, hk.1.2.2.2.2.2⟩⟩⟩⟩⟩⟩)), (kR_ HO_424008.out), (kR_ HO_437008.out), (kb_ BK410.out), (kb_ BK423.out), (kb_ BK436.out), (kb_ BK460.out), GW460.out, GE460.out, NB410_460.out, NB460_410.out, NB423_460.out, NB460_423.out, NB436_460.out, NB460_436.out, (hbA_ HB.out)⟩)
                  ·skip
                   refine box_step ?hg (N := 10) ?hd (cs := #[.slice none 0 0, .int .i64 0]) (t := 25) ?hr ?_; (case hd => rfl); (case hg => rfl); (case hr => first | (go_simp; done) | (go_simp; rfl))
                   intro gb460 hg w52 hbox hb
                   have n0_ := Aside0.mk (Kd.N_below (Kd.N_elderB (kN_ HO_411000.out) gb460 (Nat.le_of_eq hg.symm)) hb); have n1_ := Aside0.mk (Kd.R_below (kR_ HO_424008.out) hb); have n2_ := Aside0.mk (Kd.R_below (kR_ HO_437008.out) hb); have n3_ := Aside0.mk (Kd.V_below (Kd.V_elderB (kV_ HL440_8.out) gb460 (Nat.le_of_eq hg.symm)) hb); have n4_ := Aside0.mk (Kd.V_below (Kd.V_elderB (kV_ HO448.out) gb460 (Nat.le_of_eq hg.symm)) hb); have n5_ := Aside0.mk (Kd.V_below (Kd.V_elderB (kV_ HO456.out) gb460 (Nat.le_of_eq hg.symm)) hb); have n6_ := Aside0.mk (Kd.N_below (Kd.N_elderB (kN_ HO443.out) gb460 (Nat.le_of_eq hg.symm)) hb); have n7_ := (bbA_ BK410 hb); have n8_ := (bbA_ BK423 hb); have n9_ := (bbA_ BK436 hb); have n10_ := Aside0.mk (Kd.C_below (by repeat (first | (with_reducible exact HR440_8.out) | (with_reducible exact Kd.C_drewN HR440_8.out _) | (with_reducible refine Kd.C_alloc ?_ _) | (with_reducible refine Kd.C_drewN ?_ _) | (with_reducible refine Kd.C_drew ?_) | exact HR440_8.out)) hb); have n11_ := (bs_ HB hb); have n12_ := Aside0.mk (hbox); have n13_ := ge_ hg HB; have n14_ := ge_ hg HB; have n15_ := nl_ hg BK410; have n16_ := ng_ hg BK410
                   have n17_ := nl_ hg BK423; have n18_ := ng_ hg BK423; have n19_ := nl_ hg BK436; have n20_ := ng_ hg BK436; clear HO_411000 HO_424008 HO_437008 HL440_8 HO448 HO456 HO443 BK410 BK423 BK436 HR440_8 HB; have HO_411000 := n0_; have HO_424008 := n1_; have HO_437008 := n2_; have HL440_8 := n3_; have HO448 := n4_; have HO456 := n5_; have HO443 := n6_; have BK410 := n7_; have BK423 := n8_; have BK436 := n9_; have HR440_8 := n10_; have HB := n11_; have BK460 := n12_; have GW460 := n13_; have GE460 := n14_; have NB410_460 := n15_; have NB460_410 := n16_; have NB423_460 := n17_; have NB460_423 := n18_; have NB436_460 := n19_; have NB460_436 := n20_; clear n0_ n1_ n2_ n3_ n4_ n5_ n6_ n7_ n8_ n9_ n10_ n11_ n12_ n13_ n14_ n15_ n16_ n17_ n18_ n19_ n20_ hb hbox hg
                   refine hK.out _ _ (cz2 BK410.out) (fun hHeld => ?_)
                   clear hK K; refine nm_ 10 ?_
                   refine on_ (i := 7) (N := some 63) HT_ (fun K hK => ?_)
                   refine Kd.N_append_rows_step k28 (w0 := w) w.heap.size (by rfl) (.tmp 58) (.tmp 62) 23 28 (.agg #[(.int .i64 0), (.int .i64 0), (.int .i64 0), (.int .i64 0), (.int .i64 0), (.int .i64 0), (.bool false), (.bool false), (.slice none 0 0)]) 80 rfl Try.underlying23 info28 rfl (by decide) (by omega) v442 y441 y444 _ _ _ (fun k_ => some k_ ≠ (.slice Ao15 t419.length co15 : Value).ownBlock ∧ some k_ ≠ (.slice Ao22 t432.length co22 : Value).ownBlock ∧ k_ ≠ gb410 ∧ k_ ≠ gb423 ∧ k_ ≠ gb436 ∧ k_ ≠ gb460) (fun k_ => ((fun k_ => some k_ ≠ (.slice Ao15 t419.length co15 : Value).ownBlock ∧ some k_ ≠ (.slice Ao22 t432.length co22 : Value).ownBlock ∧ k_ ≠ gb410 ∧ k_ ≠ gb423 ∧ k_ ≠ gb436 ∧ k_ ≠ gb460)) k_ ∧ some k_ ≠ (v442 : Value).ownBlock) rfl rfl ?aO ?aR (fun _ hk => hk) ?aF ?aB ?aS ?aL ?_
                   (case aR => exact (by skip; exact Kd.V_F (Kd.V_mono (ok' := (fun k_ => ((fun k_ => some k_ ≠ (.slice Ao15 t419.length co15 : Value).ownBlock ∧ some k_ ≠ (.slice Ao22 t432.length co22 : Value).ownBlock ∧ k_ ≠ gb410 ∧ k_ ≠ gb423 ∧ k_ ≠ gb436 ∧ k_ ≠ gb460)) k_ ∧ some k_ ≠ (v442 : Value).ownBlock)) (HO448.out) (fun k_ hk => ⟨⟨hk.1.1.1, ⟨hk.1.1.2.1, ⟨hk.1.1.2.2.1, ⟨hk.1.1.2.2.2.1, ⟨hk.1.1.2.2.2.2, hk.2⟩⟩⟩⟩⟩, hk.1.2⟩))))
                   (case aB => exact (hbA_ HB.out))
                   (case aF => exact (fun k_ hk => ⟨Kd.fresh' (Kd.R_lt (kR_ HO_424008.out)) k_ hk, Kd.fresh' (Kd.R_lt (kR_ HO_437008.out)) k_ hk, fb_ BK410 k_ hk, fb_ BK423 k_ hk, fb_ BK436 k_ hk, fb_ BK460 k_ hk⟩))
                   (case aO => exact (by refine kN_ ?_; exact Kd.N_mono HO443.out (fun _ hk => ⟨hk.1.2.1, ⟨hk.1.2.2.1, ⟨hk.1.2.2.2.1, ⟨hk.1.2.2.2.2.1, ⟨hk.1.2.2.2.2.2, hk.2⟩⟩⟩⟩⟩)))
                   (case aS => exact (below_size (hbA_ HB.out)))
                   (case aL => have := LMc37.out; omega)
                   intro v450 w53 ho hb hg hat
                   rw [← Ny449.out] at ho
                   have n0_ := Aside0.mk (Kd.N_afterv (ok := (fun k_ => some k_ ≠ (.slice Ao15 t419.length co15 : Value).ownBlock ∧ some k_ ≠ (.slice Ao22 t432.length co22 : Value).ownBlock ∧ k_ ≠ gb410 ∧ k_ ≠ gb423 ∧ k_ ≠ gb436 ∧ k_ ≠ gb460)) (by refine kN_ ?_; exact Kd.N_mono HO_411000.out (fun _ hk => ⟨⟨hk.1.1.1, ⟨hk.1.1.2.1, ⟨hk.1.1.2.2.1, ⟨hk.1.1.2.2.2.1, ⟨hk.1.1.2.2.2.2, hk.2⟩⟩⟩⟩⟩, hk.1.2⟩)) hg hat); have n1_ := Aside0.mk (Kd.R_over' (kR_ HO_424008.out) (Kd.N_typed (kN_ HO443.out)) (by decide) hg); have n2_ := Aside0.mk (Kd.R_over' (kR_ HO_437008.out) (Kd.N_typed (kN_ HO443.out)) (by decide) hg); have n3_ := (bgA_ BK410 hg (Kd.N_ne HO443.out BK410.out (by decide))); have n4_ := (bgA_ BK423 hg (Kd.N_away HO443.out (fun _ hk => hk.1.2.2.2.2.1))); have n5_ := (bgA_ BK436 hg (Kd.N_away HO443.out (fun _ hk => hk.1.2.2.2.2.2))); have n6_ := Aside0.mk (Kd.V_afterv (ok := (fun k_ => some k_ ≠ (.slice (some ad440) t406.length co9 : Value).ownBlock ∧ some k_ ≠ (.slice Ao15 t419.length co15 : Value).ownBlock ∧ some k_ ≠ (.slice Ao22 t432.length co22 : Value).ownBlock ∧ k_ ≠ gb410 ∧ k_ ≠ gb423 ∧ k_ ≠ gb436 ∧ k_ ≠ gb460)) (by refine kV_ ?_; exact Kd.V_mono HL440_8.out (fun _ hk => ⟨⟨hk.1.1.2, ⟨hk.1.1.1.1, ⟨hk.1.1.1.2.1, ⟨hk.1.1.1.2.2.1, ⟨hk.1.1.1.2.2.2.1, ⟨hk.1.1.1.2.2.2.2, hk.2⟩⟩⟩⟩⟩⟩, hk.1.2⟩)) hg hat); have n7_ := Aside0.mk (Kd.V_afterv (ok := (fun k_ => some k_ ≠ (.slice Ao15 t419.length co15 : Value).ownBlock ∧ some k_ ≠ (.slice Ao22 t432.length co22 : Value).ownBlock ∧ k_ ≠ gb410 ∧ k_ ≠ gb423 ∧ k_ ≠ gb436 ∧ k_ ≠ gb460)) (by refine kV_ ?_; exact Kd.V_mono HO448.out (fun _ hk => ⟨⟨hk.1.1.1, ⟨hk.1.1.2.1, ⟨hk.1.1.2.2.1, ⟨hk.1.1.2.2.2.1, ⟨hk.1.1.2.2.2.2, hk.2⟩⟩⟩⟩⟩, hk.1.2⟩)) hg hat)
                   have n8_ := Aside0.mk (Kd.V_afterv (ok := (fun k_ => some k_ ≠ (.slice Ao15 t419.length co15 : Value).ownBlock ∧ some k_ ≠ (.slice Ao22 t432.length co22 : Value).ownBlock ∧ k_ ≠ gb410 ∧ k_ ≠ gb423 ∧ k_ ≠ gb436 ∧ k_ ≠ gb460)) (by refine kV_ ?_; exact Kd.V_mono HO456.out (fun _ hk => ⟨⟨hk.1.1.1, ⟨hk.1.1.2.1, ⟨hk.1.1.2.2.1, ⟨hk.1.1.2.2.2.1, ⟨hk.1.1.2.2.2.2, hk.2⟩⟩⟩⟩⟩, hk.1.2⟩)) hg hat); have n9_ := (bgA_ BK460 hg (Kd.N_ne HO443.out BK460.out (by decide))); have n10_ := Aside0.mk (hb); have n11_ := Aside0.mk (ho); clear HO_411000 HO_424008 HO_437008 BK410 BK423 BK436 HL440_8 HO448 HO456 BK460 HB HO443; have HO_411000 := n0_; have HO_424008 := n1_; have HO_437008 := n2_; have BK410 := n3_; have BK423 := n4_; have BK436 := n5_; have HL440_8 := n6_; have HO448 := n7_; have HO456 := n8_; have BK460 := n9_; have HB := n10_; have HO451 := n11_; clear n0_ n1_ n2_ n3_ n4_ n5_ n6_ n7_ n8_ n9_ n10_ n11_ ho hb hg hat
                   refine hK.out _ _ (cz2 BK410.out) (fun hHeld => ?_)
                   clear hK K; refine nm_ 63 ?_
                   refine on_ (i := 13) (N := some 69) HT_ (fun K hK => ?_)
                   refine Kd.N_append_rows_step k28 (w0 := w) w.heap.size (by rfl) (.tmp 63) (.tmp 68) 23 28 (.agg #[(.int .i64 0), (.int .i64 0), (.int .i64 0), (.int .i64 0), (.int .i64 0), (.int .i64 0), (.bool false), (.bool false), (.slice none 0 0)]) 80 rfl Try.underlying23 info28 rfl (by decide) (by omega) v450 y449 y452 _ _ _ (fun k_ => some k_ ≠ (.slice Ao15 t419.length co15 : Value).ownBlock ∧ some k_ ≠ (.slice Ao22 t432.length co22 : Value).ownBlock ∧ k_ ≠ gb410 ∧ k_ ≠ gb423 ∧ k_ ≠ gb436 ∧ k_ ≠ gb460) (fun k_ => ((fun k_ => some k_ ≠ (.slice Ao15 t419.length co15 : Value).ownBlock ∧ some k_ ≠ (.slice Ao22 t432.length co22 : Value).ownBlock ∧ k_ ≠ gb410 ∧ k_ ≠ gb423 ∧ k_ ≠ gb436 ∧ k_ ≠ gb460)) k_ ∧ some k_ ≠ (v450 : Value).ownBlock) rfl rfl ?aO ?aR (fun _ hk => hk) ?aF ?aB ?aS ?aL ?_
                   (case aR => exact (by skip; exact Kd.V_F (Kd.V_mono (ok' := (fun k_ => ((fun k_ => some k_ ≠ (.slice Ao15 t419.length co15 : Value).ownBlock ∧ some k_ ≠ (.slice Ao22 t432.length co22 : Value).ownBlock ∧ k_ ≠ gb410 ∧ k_ ≠ gb423 ∧ k_ ≠ gb436 ∧ k_ ≠ gb460)) k_ ∧ some k_ ≠ (v450 : Value).ownBlock)) (HO456.out) (fun k_ hk => ⟨⟨hk.1.1, ⟨hk.1.2.1, ⟨hk.1.2.2.1, ⟨hk.1.2.2.2.1, ⟨hk.1.2.2.2.2.1, hk.1.2.2.2.2.2⟩⟩⟩⟩⟩, hk.2⟩))))
                   (case aB => exact (hbA_ HB.out))
                   (case aF => exact (fun k_ hk => ⟨Kd.fresh' (Kd.R_lt (kR_ HO_424008.out)) k_ hk, Kd.fresh' (Kd.R_lt (kR_ HO_437008.out)) k_ hk, fb_ BK410 k_ hk, fb_ BK423 k_ hk, fb_ BK436 k_ hk, fb_ BK460 k_ hk⟩))
                   (case aO => exact (kN_ HO451.out))
                   (case aS => exact (below_size (hbA_ HB.out)))
                   (case aL => have := LMc41.out; omega)
                   intro v458 w54 ho hb hg hat
                   rw [← Ny457.out] at ho
                   have n0_ := Aside0.mk (Kd.N_afterv (ok := (fun k_ => some k_ ≠ (.slice Ao15 t419.length co15 : Value).ownBlock ∧ some k_ ≠ (.slice Ao22 t432.length co22 : Value).ownBlock ∧ k_ ≠ gb410 ∧ k_ ≠ gb423 ∧ k_ ≠ gb436 ∧ k_ ≠ gb460)) (kN_ HO_411000.out) hg hat); have n1_ := Aside0.mk (Kd.R_over' (kR_ HO_424008.out) (Kd.N_typed (kN_ HO451.out)) (by decide) hg); have n2_ := Aside0.mk (Kd.R_over' (kR_ HO_437008.out) (Kd.N_typed (kN_ HO451.out)) (by decide) hg); have n3_ := (bgA_ BK410 hg (Kd.N_ne HO451.out BK410.out (by decide))); have n4_ := (bgA_ BK423 hg (Kd.N_away HO451.out (fun _ hk => hk.2.2.2.1))); have n5_ := (bgA_ BK436 hg (Kd.N_away HO451.out (fun _ hk => hk.2.2.2.2.1))); have n6_ := Aside0.mk (Kd.V_afterv (ok := (fun k_ => some k_ ≠ (.slice (some ad440) t406.length co9 : Value).ownBlock ∧ some k_ ≠ (.slice Ao15 t419.length co15 : Value).ownBlock ∧ some k_ ≠ (.slice Ao22 t432.length co22 : Value).ownBlock ∧ k_ ≠ gb410 ∧ k_ ≠ gb423 ∧ k_ ≠ gb436 ∧ k_ ≠ gb460)) (kV_ HL440_8.out) hg hat); have n7_ := Aside0.mk (Kd.V_afterv (ok := (fun k_ => some k_ ≠ (.slice Ao15 t419.length co15 : Value).ownBlock ∧ some k_ ≠ (.slice Ao22 t432.length co22 : Value).ownBlock ∧ k_ ≠ gb410 ∧ k_ ≠ gb423 ∧ k_ ≠ gb436 ∧ k_ ≠ gb460)) (kV_ HO448.out) hg hat); have n8_ := Aside0.mk (Kd.V_afterv (ok := (fun k_ => some k_ ≠ (.slice Ao15 t419.length co15 : Value).ownBlock ∧ some k_ ≠ (.slice Ao22 t432.length co22 : Value).ownBlock ∧ k_ ≠ gb410 ∧ k_ ≠ gb423 ∧ k_ ≠ gb436 ∧ k_ ≠ gb460)) (kV_ HO456.out) hg hat); have n9_ := (bgA_ BK460 hg (Kd.N_ne HO451.out BK460.out (by decide))); have n10_ := Aside0.mk (hb); have n11_ := Aside0.mk (ho); clear HO_411000 HO_424008 HO_437008 BK410 BK423 BK436 HL440_8 HO448 HO456 BK460 HB HO451; have HO_411000 := n0_; have HO_424008 := n1_; have HO_437008 := n2_
                   have BK410 := n3_; have BK423 := n4_; have BK436 := n5_; have HL440_8 := n6_; have HO448 := n7_; have HO456 := n8_; have BK460 := n9_; have HB := n10_; have HO459 := n11_; clear n0_ n1_ n2_ n3_ n4_ n5_ n6_ n7_ n8_ n9_ n10_ n11_ ho hb hg hat
                   obtain ⟨Ao55, co55, eo55⟩ := Kd.N_slice HO459.out
                   (first | subst eo55 | (injection eo55 with f1_ f2_ f3_; have f4_ := f1_.symm; have f5_ := f3_.symm; clear f1_ f2_ f3_; subst f4_; subst f5_))
                   refine hK.out _ _ (cz2 BK410.out) (fun hHeld => ?_)
                   clear hK K; refine nm_ 69 ?_; refine pu_ (i := 14) (N := some 70) HT_ ?_
                   exact norm_ (by simp only [putAll, Act.put, List.setIfInBounds_toArray, List.set_cons_zero, List.set_cons_succ]) (hCont (v442, v450, .slice Ao55 y457.length co55, gb460) _ ⟨hHeld, (by refine kV_ ?_; exact Kd.V_mono HL440_8.out (fun _ hk => ⟨hk.2, ⟨hk.1.1, ⟨hk.1.2.1, ⟨hk.1.2.2.1, ⟨hk.1.2.2.2.1, ⟨hk.1.2.2.2.2.1, ⟨hk.1.2.2.2.2.2.1, hk.1.2.2.2.2.2.2⟩⟩⟩⟩⟩⟩⟩)), (by refine kV_ ?_; exact Kd.V_mono HO448.out (fun _ hk => ⟨hk.2, ⟨hk.1.1, ⟨hk.1.2.1, ⟨hk.1.2.2.1, ⟨hk.1.2.2.2.1, ⟨hk.1.2.2.2.2.1, hk.1.2.2.2.2.2⟩⟩⟩⟩⟩⟩)), (by refine kV_ ?_; exact Kd.V_mono HO456.out (fun _ hk => ⟨hk.2, ⟨hk.1.1, ⟨hk.1.2.1, ⟨hk.1.2.2.1, ⟨hk.1.2.2.2.1, ⟨hk.1.2.2.2.2.1, hk.1.2.2.2.2.2⟩⟩⟩⟩⟩⟩)), (kN_ HO459.out), (by refine kN_ ?_; exact Kd.N_mono HO_411000.out (fun _ hk => ⟨hk.2, ⟨hk.1.1, ⟨hk.1.2.1, ⟨hk.1.2.2.1, ⟨hk.1.2.2.2.1, ⟨hk.1.2.2.2.2.1, hk.1.2.2.2.2.2⟩⟩⟩⟩⟩⟩)), (kR_ HO_424008.out), (kR_ HO_437008.out), (kb_ BK410.out), (kb_ BK423.out), (kb_ BK436.out), (kb_ BK460.out), GW460.out, GE460.out, NB410_460.out, NB460_410.out, NB423_460.out, NB460_423.out, NB436_460.out, NB460_436.out, (hbA_ HB.out)⟩)
                 ·skip
                  refine box_step ?hg (N := 10) ?hd (cs := #[.slice none 0 0, .int .i64 0]) (t := 25) ?hr ?_; (case hd => rfl); (case hg => rfl); (case hr => first | (go_simp; done) | (go_simp; rfl))
                  intro gb460 hg w50 hbox hb
                  have n0_ := Aside0.mk (Kd.N_below (Kd.N_elderB (kN_ HO_411000.out) gb460 (Nat.le_of_eq hg.symm)) hb); have n1_ := Aside0.mk (Kd.R_below (kR_ HO_424008.out) hb); have n2_ := Aside0.mk (Kd.R_below (kR_ HO_437008.out) hb); have n3_ := Aside0.mk (Kd.V_below (Kd.V_elderB (kV_ HL440_8.out) gb460 (Nat.le_of_eq hg.symm)) hb); have n4_ := Aside0.mk (Kd.V_below (Kd.V_elderB (kV_ HO448.out) gb460 (Nat.le_of_eq hg.symm)) hb); have n5_ := Aside0.mk (Kd.V_below (Kd.V_elderB (kV_ HO456.out) gb460 (Nat.le_of_eq hg.symm)) hb); have n6_ := (bbA_ BK410 hb); have n7_ := (bbA_ BK423 hb); have n8_ := (bbA_ BK436 hb); have n9_ := Aside0.mk (Kd.C_below (by repeat (first | (with_reducible exact HR440_8.out) | (with_reducible exact Kd.C_drewN HR440_8.out _) | (with_reducible refine Kd.C_alloc ?_ _) | (with_reducible refine Kd.C_drewN ?_ _) | (with_reducible refine Kd.C_drew ?_) | exact HR440_8.out)) hb); have n10_ := (bs_ HB hb); have n11_ := Aside0.mk (hbox); have n12_ := ge_ hg HB; have n13_ := ge_ hg HB; have n14_ := nl_ hg BK410; have n15_ := ng_ hg BK410; have n16_ := nl_ hg BK423
                  have n17_ := ng_ hg BK423; have n18_ := nl_ hg BK436; have n19_ := ng_ hg BK436; clear HO_411000 HO_424008 HO_437008 HL440_8 HO448 HO456 BK410 BK423 BK436 HR440_8 HB; have HO_411000 := n0_; have HO_424008 := n1_; have HO_437008 := n2_; have HL440_8 := n3_; have HO448 := n4_; have HO456 := n5_; have BK410 := n6_; have BK423 := n7_; have BK436 := n8_; have HR440_8 := n9_; have HB := n10_; have BK460 := n11_; have GW460 := n12_; have GE460 := n13_; have NB410_460 := n14_; have NB460_410 := n15_; have NB423_460 := n16_; have NB460_423 := n17_; have NB436_460 := n18_; have NB460_436 := n19_; clear n0_ n1_ n2_ n3_ n4_ n5_ n6_ n7_ n8_ n9_ n10_ n11_ n12_ n13_ n14_ n15_ n16_ n17_ n18_ n19_ hb hbox hg
                  refine hK.out _ _ (cz2 BK410.out) (fun hHeld => ?_)
                  clear hK K; refine nm_ 10 ?_
                  refine on_ (i := 2) (N := some 58) HT_ (fun K hK => ?_)
                  refine Kd.N_lit_step k28 _ 28 ?hg (N' := 58) ?hd (xs := ([] : List (S28))) (inner := []) (ok := (fun k_ => some k_ ≠ (.slice (some ad440) t406.length co9 : Value).ownBlock ∧ some k_ ≠ (.slice Ao15 t419.length co15 : Value).ownBlock ∧ some k_ ≠ (.slice Ao22 t432.length co22 : Value).ownBlock ∧ k_ ≠ gb410 ∧ k_ ≠ gb423 ∧ k_ ≠ gb436 ∧ k_ ≠ gb460)) (okp := (fun k_ => some k_ ≠ (.slice (some ad440) t406.length co9 : Value).ownBlock ∧ some k_ ≠ (.slice Ao15 t419.length co15 : Value).ownBlock ∧ some k_ ≠ (.slice Ao22 t432.length co22 : Value).ownBlock ∧ k_ ≠ gb410 ∧ k_ ≠ gb423 ∧ k_ ≠ gb436 ∧ k_ ≠ gb460)) ?hr ?hp (fun _ hk => hk) ((show ∀ k_, w50.heap.size ≤ k_ → (fun k_ => some k_ ≠ (.slice (some ad440) t406.length co9 : Value).ownBlock ∧ some k_ ≠ (.slice Ao15 t419.length co15 : Value).ownBlock ∧ some k_ ≠ (.slice Ao22 t432.length co22 : Value).ownBlock ∧ k_ ≠ gb410 ∧ k_ ≠ gb423 ∧ k_ ≠ gb436 ∧ k_ ≠ gb460) k_ from fun k_ hk => ⟨Kd.fresh' (Kd.N_lt (kN_ HO_411000.out)) k_ hk, Kd.fresh' (Kd.R_lt (kR_ HO_424008.out)) k_ hk, Kd.fresh' (Kd.R_lt (kR_ HO_437008.out)) k_ hk, fb_ BK410 k_ hk, fb_ BK423 k_ hk, fb_ BK436 k_ hk, fb_ BK460 k_ hk⟩) _ (Nat.le_refl _)) (Below.refl _ _) (Nat.le_refl _) (by simp) ?_; (case hd => rfl); (case hg => rfl); (case hr => first | (go_simp; done) | (go_simp; rfl)); (case hp => exact (Reps.none _ _))
                  intro v442 w51 ho52 hb hg_ hnew_
                  clear hg_ hnew_
                  (first | rw [← Ny441.out] at ho52 | (simp only [Int.reduceToNat] at ho52; rw [← Ny441.out] at ho52))
                  have n0_ := Aside0.mk (Kd.N_elder' (kN_ HO_411000.out) (Kd.N_base ho52) hb); have n1_ := Aside0.mk (Kd.R_below (kR_ HO_424008.out) hb); have n2_ := Aside0.mk (Kd.R_below (kR_ HO_437008.out) hb); have n3_ := Aside0.mk (Kd.V_elder' (kV_ HL440_8.out) (Kd.N_base ho52) hb); have n4_ := Aside0.mk (Kd.V_elder' (kV_ HO448.out) (Kd.N_base ho52) hb); have n5_ := Aside0.mk (Kd.V_elder' (kV_ HO456.out) (Kd.N_base ho52) hb); have n6_ := Aside0.mk (Kd.N_lower ho52 (below_size (hbA_ HB.out))); have n7_ := (bbA_ BK410 hb); have n8_ := (bbA_ BK423 hb); have n9_ := (bbA_ BK436 hb); have n10_ := Aside0.mk (Kd.C_below (by repeat (first | (with_reducible exact HR440_8.out) | (with_reducible exact Kd.C_drewN HR440_8.out _) | (with_reducible refine Kd.C_alloc ?_ _) | (with_reducible refine Kd.C_drewN ?_ _) | (with_reducible refine Kd.C_drew ?_) | exact HR440_8.out)) hb); have n11_ := (bbA_ BK460 hb); have n12_ := (bs_ HB hb); clear HO_411000 HO_424008 HO_437008 HL440_8 HO448 HO456 BK410 BK423 BK436 HR440_8 BK460 HB; have HO_411000 := n0_; have HO_424008 := n1_; have HO_437008 := n2_; have HL440_8 := n3_; have HO448 := n4_; have HO456 := n5_; have HO443 := n6_; have BK410 := n7_; have BK423 := n8_; have BK436 := n9_; have HR440_8 := n10_; have BK460 := n11_; have HB := n12_; clear n0_ n1_ n2_ n3_ n4_ n5_ n6_ n7_ n8_ n9_ n10_ n11_ n12_ hb ho52
                  refine hK.out _ _ (cz2 BK410.out) (fun hHeld => ?_)
                  clear hK K; refine nm_ 58 ?_
                  refine on_ (i := 7) (N := some 63) HT_ (fun K hK => ?_)
                  refine Kd.N_append_rows_step k28 (w0 := w) w.heap.size (by rfl) (.tmp 58) (.tmp 62) 23 28 (.agg #[(.int .i64 0), (.int .i64 0), (.int .i64 0), (.int .i64 0), (.int .i64 0), (.int .i64 0), (.bool false), (.bool false), (.slice none 0 0)]) 80 rfl Try.underlying23 info28 rfl (by decide) (by omega) v442 y441 y444 _ _ _ (fun k_ => some k_ ≠ (.slice Ao15 t419.length co15 : Value).ownBlock ∧ some k_ ≠ (.slice Ao22 t432.length co22 : Value).ownBlock ∧ k_ ≠ gb410 ∧ k_ ≠ gb423 ∧ k_ ≠ gb436 ∧ k_ ≠ gb460) (fun k_ => ((fun k_ => some k_ ≠ (.slice Ao15 t419.length co15 : Value).ownBlock ∧ some k_ ≠ (.slice Ao22 t432.length co22 : Value).ownBlock ∧ k_ ≠ gb410 ∧ k_ ≠ gb423 ∧ k_ ≠ gb436 ∧ k_ ≠ gb460)) k_ ∧ some k_ ≠ (v442 : Value).ownBlock) rfl rfl ?aO ?aR (fun _ hk => hk) ?aF ?aB ?aS ?aL ?_
                  (case aR => exact (by skip; exact Kd.V_F (Kd.V_mono (ok' := (fun k_ => ((fun k_ => some k_ ≠ (.slice Ao15 t419.length co15 : Value).ownBlock ∧ some k_ ≠ (.slice Ao22 t432.length co22 : Value).ownBlock ∧ k_ ≠ gb410 ∧ k_ ≠ gb423 ∧ k_ ≠ gb436 ∧ k_ ≠ gb460)) k_ ∧ some k_ ≠ (v442 : Value).ownBlock)) (HO448.out) (fun k_ hk => ⟨⟨hk.1.1.1, ⟨hk.1.1.2.1, ⟨hk.1.1.2.2.1, ⟨hk.1.1.2.2.2.1, ⟨hk.1.1.2.2.2.2, hk.1.2⟩⟩⟩⟩⟩, hk.2⟩))))
                  (case aB => exact (hbA_ HB.out))
                  (case aF => exact (fun k_ hk => ⟨Kd.fresh' (Kd.R_lt (kR_ HO_424008.out)) k_ hk, Kd.fresh' (Kd.R_lt (kR_ HO_437008.out)) k_ hk, fb_ BK410 k_ hk, fb_ BK423 k_ hk, fb_ BK436 k_ hk, fb_ BK460 k_ hk⟩))
                  (case aO => exact (by refine kN_ ?_; exact Kd.N_mono HO443.out (fun _ hk => ⟨hk.2.1, ⟨hk.2.2.1, ⟨hk.2.2.2.1, ⟨hk.2.2.2.2.1, ⟨hk.2.2.2.2.2.1, hk.2.2.2.2.2.2⟩⟩⟩⟩⟩)))
                  (case aS => exact (below_size (hbA_ HB.out)))
                  (case aL => have := LMc37.out; omega)
                  intro v450 w53 ho hb hg hat
                  rw [← Ny449.out] at ho
                  have n0_ := Aside0.mk (Kd.N_afterv (ok := (fun k_ => some k_ ≠ (.slice Ao15 t419.length co15 : Value).ownBlock ∧ some k_ ≠ (.slice Ao22 t432.length co22 : Value).ownBlock ∧ k_ ≠ gb410 ∧ k_ ≠ gb423 ∧ k_ ≠ gb436 ∧ k_ ≠ gb460)) (by refine kN_ ?_; exact Kd.N_mono HO_411000.out (fun _ hk => ⟨⟨hk.1.1.1, ⟨hk.1.1.2.1, ⟨hk.1.1.2.2.1, ⟨hk.1.1.2.2.2.1, ⟨hk.1.1.2.2.2.2, hk.1.2⟩⟩⟩⟩⟩, hk.2⟩)) hg hat); have n1_ := Aside0.mk (Kd.R_over' (kR_ HO_424008.out) (Kd.N_typed (kN_ HO443.out)) (by decide) hg); have n2_ := Aside0.mk (Kd.R_over' (kR_ HO_437008.out) (Kd.N_typed (kN_ HO443.out)) (by decide) hg); have n3_ := (bgA_ BK410 hg (Kd.N_ne HO443.out BK410.out (by decide))); have n4_ := (bgA_ BK423 hg (Kd.N_away HO443.out (fun _ hk => hk.2.2.2.2.1))); have n5_ := (bgA_ BK436 hg (Kd.N_away HO443.out (fun _ hk => hk.2.2.2.2.2.1))); have n6_ := Aside0.mk (Kd.V_afterv (ok := (fun k_ => some k_ ≠ (.slice (some ad440) t406.length co9 : Value).ownBlock ∧ some k_ ≠ (.slice Ao15 t419.length co15 : Value).ownBlock ∧ some k_ ≠ (.slice Ao22 t432.length co22 : Value).ownBlock ∧ k_ ≠ gb410 ∧ k_ ≠ gb423 ∧ k_ ≠ gb436 ∧ k_ ≠ gb460)) (by refine kV_ ?_; exact Kd.V_mono HL440_8.out (fun _ hk => ⟨⟨hk.1.1.2, ⟨hk.1.1.1.1, ⟨hk.1.1.1.2.1, ⟨hk.1.1.1.2.2.1, ⟨hk.1.1.1.2.2.2.1, ⟨hk.1.1.1.2.2.2.2, hk.1.2⟩⟩⟩⟩⟩⟩, hk.2⟩)) hg hat); have n7_ := Aside0.mk (Kd.V_afterv (ok := (fun k_ => some k_ ≠ (.slice Ao15 t419.length co15 : Value).ownBlock ∧ some k_ ≠ (.slice Ao22 t432.length co22 : Value).ownBlock ∧ k_ ≠ gb410 ∧ k_ ≠ gb423 ∧ k_ ≠ gb436 ∧ k_ ≠ gb460)) (by refine kV_ ?_; exact Kd.V_mono HO448.out (fun _ hk => ⟨⟨hk.1.1.1, ⟨hk.1.1.2.1, ⟨hk.1.1.2.2.1, ⟨hk.1.1.2.2.2.1, ⟨hk.1.1.2.2.2.2, hk.1.2⟩⟩⟩⟩⟩, hk.2⟩)) hg hat)
                  have n8_ := Aside0.mk (Kd.V_afterv (ok := (fun k_ => some k_ ≠ (.slice Ao15 t419.length co15 : Value).ownBlock ∧ some k_ ≠ (.slice Ao22 t432.length co22 : Value).ownBlock ∧ k_ ≠ gb410 ∧ k_ ≠ gb423 ∧ k_ ≠ gb436 ∧ k_ ≠ gb460)) (by refine kV_ ?_; exact Kd.V_mono HO456.out (fun _ hk => ⟨⟨hk.1.1.1, ⟨hk.1.1.2.1, ⟨hk.1.1.2.2.1, ⟨hk.1.1.2.2.2.1, ⟨hk.1.1.2.2.2.2, hk.1.2⟩⟩⟩⟩⟩, hk.2⟩)) hg hat); have n9_ := (bgA_ BK460 hg (Kd.N_ne HO443.out BK460.out (by decide))); have n10_ := Aside0.mk (hb); have n11_ := Aside0.mk (ho); clear HO_411000 HO_424008 HO_437008 BK410 BK423 BK436 HL440_8 HO448 HO456 BK460 HB HO443; have HO_411000 := n0_; have HO_424008 := n1_; have HO_437008 := n2_; have BK410 := n3_; have BK423 := n4_; have BK436 := n5_; have HL440_8 := n6_; have HO448 := n7_; have HO456 := n8_; have BK460 := n9_; have HB := n10_; have HO451 := n11_; clear n0_ n1_ n2_ n3_ n4_ n5_ n6_ n7_ n8_ n9_ n10_ n11_ ho hb hg hat
                  refine hK.out _ _ (cz2 BK410.out) (fun hHeld => ?_)
                  clear hK K; refine nm_ 63 ?_
                  refine on_ (i := 13) (N := some 69) HT_ (fun K hK => ?_)
                  refine Kd.N_append_rows_step k28 (w0 := w) w.heap.size (by rfl) (.tmp 63) (.tmp 68) 23 28 (.agg #[(.int .i64 0), (.int .i64 0), (.int .i64 0), (.int .i64 0), (.int .i64 0), (.int .i64 0), (.bool false), (.bool false), (.slice none 0 0)]) 80 rfl Try.underlying23 info28 rfl (by decide) (by omega) v450 y449 y452 _ _ _ (fun k_ => some k_ ≠ (.slice Ao15 t419.length co15 : Value).ownBlock ∧ some k_ ≠ (.slice Ao22 t432.length co22 : Value).ownBlock ∧ k_ ≠ gb410 ∧ k_ ≠ gb423 ∧ k_ ≠ gb436 ∧ k_ ≠ gb460) (fun k_ => ((fun k_ => some k_ ≠ (.slice Ao15 t419.length co15 : Value).ownBlock ∧ some k_ ≠ (.slice Ao22 t432.length co22 : Value).ownBlock ∧ k_ ≠ gb410 ∧ k_ ≠ gb423 ∧ k_ ≠ gb436 ∧ k_ ≠ gb460)) k_ ∧ some k_ ≠ (v450 : Value).ownBlock) rfl rfl ?aO ?aR (fun _ hk => hk) ?aF ?aB ?aS ?aL ?_
                  (case aR => exact (by skip; exact Kd.V_F (Kd.V_mono (ok' := (fun k_ => ((fun k_ => some k_ ≠ (.slice Ao15 t419.length co15 : Value).ownBlock ∧ some k_ ≠ (.slice Ao22 t432.length co22 : Value).ownBlock ∧ k_ ≠ gb410 ∧ k_ ≠ gb423 ∧ k_ ≠ gb436 ∧ k_ ≠ gb460)) k_ ∧ some k_ ≠ (v450 : Value).ownBlock)) (HO456.out) (fun k_ hk => ⟨⟨hk.1.1, ⟨hk.1.2.1, ⟨hk.1.2.2.1, ⟨hk.1.2.2.2.1, ⟨hk.1.2.2.2.2.1, hk.1.2.2.2.2.2⟩⟩⟩⟩⟩, hk.2⟩))))
                  (case aB => exact (hbA_ HB.out))
                  (case aF => exact (fun k_ hk => ⟨Kd.fresh' (Kd.R_lt (kR_ HO_424008.out)) k_ hk, Kd.fresh' (Kd.R_lt (kR_ HO_437008.out)) k_ hk, fb_ BK410 k_ hk, fb_ BK423 k_ hk, fb_ BK436 k_ hk, fb_ BK460 k_ hk⟩))
                  (case aO => exact (kN_ HO451.out))
                  (case aS => exact (below_size (hbA_ HB.out)))
                  (case aL => have := LMc41.out; omega)
                  intro v458 w54 ho hb hg hat
                  rw [← Ny457.out] at ho
                  have n0_ := Aside0.mk (Kd.N_afterv (ok := (fun k_ => some k_ ≠ (.slice Ao15 t419.length co15 : Value).ownBlock ∧ some k_ ≠ (.slice Ao22 t432.length co22 : Value).ownBlock ∧ k_ ≠ gb410 ∧ k_ ≠ gb423 ∧ k_ ≠ gb436 ∧ k_ ≠ gb460)) (kN_ HO_411000.out) hg hat); have n1_ := Aside0.mk (Kd.R_over' (kR_ HO_424008.out) (Kd.N_typed (kN_ HO451.out)) (by decide) hg); have n2_ := Aside0.mk (Kd.R_over' (kR_ HO_437008.out) (Kd.N_typed (kN_ HO451.out)) (by decide) hg); have n3_ := (bgA_ BK410 hg (Kd.N_ne HO451.out BK410.out (by decide))); have n4_ := (bgA_ BK423 hg (Kd.N_away HO451.out (fun _ hk => hk.2.2.2.1))); have n5_ := (bgA_ BK436 hg (Kd.N_away HO451.out (fun _ hk => hk.2.2.2.2.1))); have n6_ := Aside0.mk (Kd.V_afterv (ok := (fun k_ => some k_ ≠ (.slice (some ad440) t406.length co9 : Value).ownBlock ∧ some k_ ≠ (.slice Ao15 t419.length co15 : Value).ownBlock ∧ some k_ ≠ (.slice Ao22 t432.length co22 : Value).ownBlock ∧ k_ ≠ gb410 ∧ k_ ≠ gb423 ∧ k_ ≠ gb436 ∧ k_ ≠ gb460)) (kV_ HL440_8.out) hg hat); have n7_ := Aside0.mk (Kd.V_afterv (ok := (fun k_ => some k_ ≠ (.slice Ao15 t419.length co15 : Value).ownBlock ∧ some k_ ≠ (.slice Ao22 t432.length co22 : Value).ownBlock ∧ k_ ≠ gb410 ∧ k_ ≠ gb423 ∧ k_ ≠ gb436 ∧ k_ ≠ gb460)) (kV_ HO448.out) hg hat); have n8_ := Aside0.mk (Kd.V_afterv (ok := (fun k_ => some k_ ≠ (.slice Ao15 t419.length co15 : Value).ownBlock ∧ some k_ ≠ (.slice Ao22 t432.length co22 : Value).ownBlock ∧ k_ ≠ gb410 ∧ k_ ≠ gb423 ∧ k_ ≠ gb436 ∧ k_ ≠ gb460)) (kV_ HO456.out) hg hat); have n9_ := (bgA_ BK460 hg (Kd.N_ne HO451.out BK460.out (by decide))); have n10_ := Aside0.mk (hb); have n11_ := Aside0.mk (ho); clear HO_411000 HO_424008 HO_437008 BK410 BK423 BK436 HL440_8 HO448 HO456 BK460 HB HO451; have HO_411000 := n0_; have HO_424008 := n1_; have HO_437008 := n2_
                  have BK410 := n3_; have BK423 := n4_; have BK436 := n5_; have HL440_8 := n6_; have HO448 := n7_; have HO456 := n8_; have BK460 := n9_; have HB := n10_; have HO459 := n11_; clear n0_ n1_ n2_ n3_ n4_ n5_ n6_ n7_ n8_ n9_ n10_ n11_ ho hb hg hat
                  obtain ⟨Ao55, co55, eo55⟩ := Kd.N_slice HO459.out
                  (first | subst eo55 | (injection eo55 with f1_ f2_ f3_; have f4_ := f1_.symm; have f5_ := f3_.symm; clear f1_ f2_ f3_; subst f4_; subst f5_))
                  refine hK.out _ _ (cz2 BK410.out) (fun hHeld => ?_)
                  clear hK K; refine nm_ 69 ?_; refine pu_ (i := 14) (N := some 70) HT_ ?_
                  exact norm_ (by simp only [putAll, Act.put, List.setIfInBounds_toArray, List.set_cons_zero, List.set_cons_succ]) (hCont (v442, v450, .slice Ao55 y457.length co55, gb460) _ ⟨hHeld, (by refine kV_ ?_; exact Kd.V_mono HL440_8.out (fun _ hk => ⟨hk.2, ⟨hk.1.1, ⟨hk.1.2.1, ⟨hk.1.2.2.1, ⟨hk.1.2.2.2.1, ⟨hk.1.2.2.2.2.1, ⟨hk.1.2.2.2.2.2.1, hk.1.2.2.2.2.2.2⟩⟩⟩⟩⟩⟩⟩)), (by refine kV_ ?_; exact Kd.V_mono HO448.out (fun _ hk => ⟨hk.2, ⟨hk.1.1, ⟨hk.1.2.1, ⟨hk.1.2.2.1, ⟨hk.1.2.2.2.1, ⟨hk.1.2.2.2.2.1, hk.1.2.2.2.2.2⟩⟩⟩⟩⟩⟩)), (by refine kV_ ?_; exact Kd.V_mono HO456.out (fun _ hk => ⟨hk.2, ⟨hk.1.1, ⟨hk.1.2.1, ⟨hk.1.2.2.1, ⟨hk.1.2.2.2.1, ⟨hk.1.2.2.2.2.1, hk.1.2.2.2.2.2⟩⟩⟩⟩⟩⟩)), (kN_ HO459.out), (by refine kN_ ?_; exact Kd.N_mono HO_411000.out (fun _ hk => ⟨hk.2, ⟨hk.1.1, ⟨hk.1.2.1, ⟨hk.1.2.2.1, ⟨hk.1.2.2.2.1, ⟨hk.1.2.2.2.2.1, hk.1.2.2.2.2.2⟩⟩⟩⟩⟩⟩)), (kR_ HO_424008.out), (kR_ HO_437008.out), (kb_ BK410.out), (kb_ BK423.out), (kb_ BK436.out), (kb_ BK460.out), GW460.out, GE460.out, NB410_460.out, NB460_410.out, NB423_460.out, NB460_423.out, NB436_460.out, NB460_436.out, (hbA_ HB.out)⟩)
                rintro ⟨v442, v450, v458, gb460⟩ w56 ⟨hS_, h0_, h1_, h2_, h3_, h4_, h5_, h6_, h7_, h8_, h9_, h10_, h11_, h12_, h13_, h14_, h15_, h16_, h17_, h18_, h19_⟩
                have n0_ : Aside0 (Kd.V (Kd.int .u8) 5 w56 w.heap.size (fun k_ => some k_ ≠ (v458 : Value).ownBlock ∧ some k_ ≠ (.slice (some ad440) t406.length co9 : Value).ownBlock ∧ some k_ ≠ (.slice Ao15 t419.length co15 : Value).ownBlock ∧ some k_ ≠ (.slice Ao22 t432.length co22 : Value).ownBlock ∧ k_ ≠ gb410 ∧ k_ ≠ gb423 ∧ k_ ≠ gb436 ∧ k_ ≠ gb460) (.slice A440_8 ((rd_T28 t406 x9_2).f8).length c440_8) ((rd_T28 t406 x9_2).f8)) := ⟨h0_⟩
                have n1_ : Aside0 (Kd.V k28 28 w56 w.heap.size (fun k_ => some k_ ≠ (v458 : Value).ownBlock ∧ some k_ ≠ (.slice Ao15 t419.length co15 : Value).ownBlock ∧ some k_ ≠ (.slice Ao22 t432.length co22 : Value).ownBlock ∧ k_ ≠ gb410 ∧ k_ ≠ gb423 ∧ k_ ≠ gb436 ∧ k_ ≠ gb460) (.slice (some ad440) y444.length co9) y444) := ⟨h1_⟩
                have n2_ : Aside0 (Kd.V k28 28 w56 w.heap.size (fun k_ => some k_ ≠ (v458 : Value).ownBlock ∧ some k_ ≠ (.slice Ao15 t419.length co15 : Value).ownBlock ∧ some k_ ≠ (.slice Ao22 t432.length co22 : Value).ownBlock ∧ k_ ≠ gb410 ∧ k_ ≠ gb423 ∧ k_ ≠ gb436 ∧ k_ ≠ gb460) (.slice A49 y452.length c49) y452) := ⟨h2_⟩
                have n3_ : Aside0 (Kd.N k28 28 w56 w.heap.size (fun k_ => some k_ ≠ (.slice Ao15 t419.length co15 : Value).ownBlock ∧ some k_ ≠ (.slice Ao22 t432.length co22 : Value).ownBlock ∧ k_ ≠ gb410 ∧ k_ ≠ gb423 ∧ k_ ≠ gb436 ∧ k_ ≠ gb460) v458 y457) := ⟨h3_⟩
                have n4_ : Aside0 (Kd.N k28 28 w56 w.heap.size (fun k_ => some k_ ≠ (v458 : Value).ownBlock ∧ some k_ ≠ (.slice Ao15 t419.length co15 : Value).ownBlock ∧ some k_ ≠ (.slice Ao22 t432.length co22 : Value).ownBlock ∧ k_ ≠ gb410 ∧ k_ ≠ gb423 ∧ k_ ≠ gb436 ∧ k_ ≠ gb460) (.slice (some ad440) t406.length co9) t406) := ⟨h4_⟩
                have n5_ : Aside0 (Kd.R (Kd.int .u8) 5 w56 w.heap.size (fun k_ => some k_ ≠ (.slice Ao22 t432.length co22 : Value).ownBlock) (.slice Ao15 t419.length co15) t419) := ⟨h5_⟩
                have n6_ : Aside0 (Kd.R (Kd.int .u8) 5 w56 w.heap.size (fun k_ => some k_ ≠ (.slice Ao15 t419.length co15 : Value).ownBlock) (.slice Ao22 t432.length co22) t432) := ⟨h6_⟩
                have n7_ : Aside0 (w56.heap[gb410]? = some (.cells #[.slice (some ad440) t406.length co9, .int .i64 t409] 25 (0, 0))) := ⟨h7_⟩
                have n8_ : Aside0 (w56.heap[gb423]? = some (.cells #[.int .i64 t411, .int .i64 t412, .int .i64 t413, .int .i64 t414, .int .i64 t415, .int .i64 t416, .bool t417, .bool t418, .slice Ao15 t419.length co15] 28 (0, 0))) := ⟨h8_⟩
                have n9_ : Aside0 (w56.heap[gb436]? = some (.cells #[.int .i64 t424, .int .i64 t425, .int .i64 t426, .int .i64 t427, .int .i64 t428, .int .i64 t429, .bool t430, .bool t431, .slice Ao22 t432.length co22] 28 (0, 0))) := ⟨h9_⟩
                have n10_ : Aside0 (w56.heap[gb460]? = some (.cells #[.slice none 0 0, .int .i64 0] 25 (0, 0))) := ⟨h10_⟩
                have n11_ : Aside0 (w.heap.size ≤ gb460) := ⟨h11_⟩
                have n12_ : Aside0 (w.heap.size ≤ gb460) := ⟨h12_⟩
                have n13_ : Aside0 (gb410 ≠ gb460) := ⟨h13_⟩
                have n14_ : Aside0 (gb460 ≠ gb410) := ⟨h14_⟩
                have n15_ : Aside0 (gb423 ≠ gb460) := ⟨h15_⟩
                have n16_ : Aside0 (gb460 ≠ gb423) := ⟨h16_⟩
                have n17_ : Aside0 (gb436 ≠ gb460) := ⟨h17_⟩
                have n18_ : Aside0 (gb460 ≠ gb436) := ⟨h18_⟩
                have n19_ : Aside0 (Below w.heap.size w w56) := ⟨h19_⟩
                clear HO_411000 HO_424008 HO_437008 HL440_8 BK410 BK423 BK436 HR440_8 HB h0_ h1_ h2_ h3_ h4_ h5_ h6_ h7_ h8_ h9_ h10_ h11_ h12_ h13_ h14_ h15_ h16_ h17_ h18_ h19_; have HL440_8 := n0_; have HO448 := n1_; have HO456 := n2_; have HO459 := n3_; have HO_411000 := n4_; have HO_424008 := n5_; have HO_437008 := n6_; have BK410 := n7_; have BK423 := n8_; have BK436 := n9_; have BK460 := n10_; have GW460 := n11_; have GE460 := n12_; have NB410_460 := n13_; have NB460_410 := n14_; have NB423_460 := n15_; have NB460_423 := n16_; have NB436_460 := n17_; have NB460_436 := n18_; have HB := n19_; clear n0_ n1_ n2_ n3_ n4_ n5_ n6_ n7_ n8_ n9_ n10_ n11_ n12_ n13_ n14_ n15_ n16_ n17_ n18_ n19_
                have hHeld : w56.cell? ⟨gb410, 0, none⟩ = some (.slice (some ad440) t406.length co9) ∧ w56.cell? ⟨gb410, 1, none⟩ = some (.int .i64 t409) := hS_
                obtain ⟨Ao57, co57, eo57⟩ := Kd.N_slice HO459.out
                (first | subst eo57 | (injection eo57 with f1_ f2_ f3_; have f4_ := f1_.symm; have f5_ := f3_.symm; clear f1_ f2_ f3_; subst f4_; subst f5_))
                refine norm_ (a' := ?_) ?_ ?_
                rotate_left
                ·simp only [putAll, Act.put, List.setIfInBounds_toArray, List.set_cons_zero, List.set_cons_succ]
                 rfl
                refine on_ (i := 16) (N := none) HT_ (fun K hK => ?_)
                have hs58 : w56.cell? ⟨gb460, 0, none⟩ = some (.slice none 0 0) := bc_ BK460 0
                have hfs58 := blk_frozen BK460.out 0
                have hns58_0 := NB410_460.out; have hns58_1 := NB423_460.out; have hns58_2 := NB436_460.out; have hms58_0 := NB460_410.out; have hms58_1 := NB460_423.out; have hms58_2 := NB460_436.out
                have hs59 : w56.cell? ⟨gb460, 1, none⟩ = some (.int .i64 0) := bc_ BK460 1
                have hfs59 := blk_frozen BK460.out 1
                have hns59_0 := NB410_460.out; have hns59_1 := NB423_460.out; have hns59_2 := NB436_460.out; have hms59_0 := NB460_410.out; have hms59_1 := NB460_423.out; have hms59_2 := NB460_436.out
                refine skip_ (w1 := ?_) (by rfl) rfl ?_ ?_
                rotate_left
                ·go_simp
                 rfl
                refine hK.out _ _ ⟨((cell_far (p := ⟨gb460, _, none⟩) NB410_460.out _).trans (((cell_far (p := ⟨gb460, _, none⟩) NB410_460.out _).trans (hHeld.1)))), ((cell_far (p := ⟨gb460, _, none⟩) NB410_460.out _).trans (((cell_far (p := ⟨gb460, _, none⟩) NB410_460.out _).trans (hHeld.2))))⟩ (fun hHeld => ?_)
                clear hK K
                refine done_ (done_of HT_.out (by kernel_rfl)) ?_
                have hnb60 := NB460_410.out; have hnc60 := NB410_460.out; have hnb61 := NB460_423.out; have hnc61 := NB423_460.out; have hnb62 := NB460_436.out; have hnc62 := NB436_460.out; have Z63 := zz2 BK460
                try go_wp2_with (first | ((with_reducible refine gate_callee (f := 10) rfl ?_); refine goesL_ (some 73) rfl rfl Try.func10 (by kernel_rfl) rfl #[.agg #[.slice Ao57 y457.length co57, .int .i64 t409]] rfl ar_ ?_; (with_reducible refine (impl_PartWhole.calls k2 _ _ y457 t409 t461 t462 t463 t464 t465 t466 t467 t468 t469 false _ ?side1 ?side2 A42.out).mono ?_); (case side1 => refine (Kd.N_reads' (e := 28) (base := w.heap.size) (ok := fun k_ => (some k_ ≠ (.slice Ao15 t419.length co15 : Value).ownBlock ∧ (some k_ ≠ (.slice Ao22 t432.length co22 : Value).ownBlock ∧ (k_ ≠ gb410 ∧ (k_ ≠ gb423 ∧ (k_ ≠ gb436 ∧ k_ ≠ gb460)))))) (n := y457.length) (c := co57) ?_).2.2; exact (by refine kN_ ?_; exact (nfN_ gb460 HO459.out (fun _ hk => hk.2.2.2.2.2) (fun _ h_ => op1_ h_)))); (case side2 => exact (Kd.N_reads' HO459.out).2.1); rintro e w64 ⟨v470, rfl, ho0, hb⟩; refine ⟨_, rfl, ?_⟩; replace HO_411000 := Aside0.mk (Kd.N_elder' (by refine kN_ ?_; exact (nfN_ gb460 HO_411000.out (fun _ hk => hk.2.2.2.2.2.2) (fun _ h_ => op1_ h_))) (Kd.R_base ho0) hb); replace HL440_8 := Aside0.mk (Kd.V_elder' (by refine kV_ ?_; exact (nfV_ gb460 HL440_8.out (fun _ hk => hk.2.2.2.2.2.2.2) (fun _ h_ => op1_ h_))) (Kd.R_base ho0) hb); replace HO448 := Aside0.mk (Kd.V_elder' (by refine kV_ ?_; exact (nfV_ gb460 HO448.out (fun _ hk => hk.2.2.2.2.2.2) (fun _ h_ => op1_ h_))) (Kd.R_base ho0) hb); replace HO456 := Aside0.mk (Kd.V_elder' (by refine kV_ ?_; exact (nfV_ gb460 HO456.out (fun _ hk => hk.2.2.2.2.2.2) (fun _ h_ => op1_ h_))) (Kd.R_base ho0) hb); replace HO459 := Aside0.mk (Kd.N_elder' (by refine kN_ ?_; exact (nfN_ gb460 HO459.out (fun _ hk => hk.2.2.2.2.2) (fun _ h_ => op1_ h_))) (Kd.R_base ho0) hb); have HO471 := Aside0.mk (Kd.R_lower (Kd.R_new' (Kd.R_new' ho0 (Kd.R_lt (by refine kR_ ?_; exact (rfm_ ((Kd.R_types HO_424008.out BK460.out (by decide))) (fun _ h_ => op1_ h_))))) (Kd.R_lt (by refine kR_ ?_; exact (rfm_ ((Kd.R_types HO_437008.out BK460.out (by decide))) (fun _ h_ => op1_ h_))))) (below_size (hbA_ HB.out))); replace HO_424008 := Aside0.mk (Kd.R_elder' (by refine kR_ ?_; exact (rfm_ ((Kd.R_types HO_424008.out BK460.out (by decide))) (fun _ h_ => op1_ h_))) (Kd.R_base ho0) hb); replace HO_437008 := Aside0.mk (Kd.R_elder' (by refine kR_ ?_; exact (rfm_ ((Kd.R_types HO_437008.out BK460.out (by decide))) (fun _ h_ => op1_ h_))) (Kd.R_base ho0) hb); replace BK410 := Aside0.mk (blk_below (g := gb410) (o := .cells #[.slice (some ad440) t406.length co9, .int .i64 t409] 25 (0, 0)) (by exact kf_ BK410.out) hb); replace BK423 := Aside0.mk (blk_below (g := gb423) (o := .cells #[.int .i64 t411, .int .i64 t412, .int .i64 t413, .int .i64 t414, .int .i64 t415, .int .i64 t416, .bool t417, .bool t418, .slice Ao15 t419.length co15] 28 (0, 0)) (by exact kf_ BK423.out) hb); replace BK436 := Aside0.mk (blk_below (g := gb436) (o := .cells #[.int .i64 t424, .int .i64 t425, .int .i64 t426, .int .i64 t427, .int .i64 t428, .int .i64 t429, .bool t430, .bool t431, .slice Ao22 t432.length co22] 28 (0, 0)) (by exact kf_ BK436.out) hb); replace BK460 := Aside0.mk (blk_below (g := gb460) (o := .cells #[.slice Ao57 y457.length co57, .int .i64 t409] 25 (0, 0)) (by refine kb_ ?_; refine pz2 (cs := #[.slice none 0 0, .int .i64 0]) ?_; refine kb_ ?_; exact BK460.out) hb); replace HB := (bs_ HB hb); (try clear hb); (try clear hb2); (try clear hk); (try clear hi); (try clear ho0)) | ((with_reducible refine gate_dst (N := 11) rfl ?_); refine box_ (N := 11) (cs := #[.int .i64 0, .int .i64 0, .int .i64 0, .int .i64 0, .int .i64 0, .int .i64 0, .bool false, .bool false, .slice none 0 0]) (t := 28) (fun gb473 hg w65 hbox hb => ?_); replace HO_411000 := Aside0.mk (Kd.N_below (Kd.N_elderB (kN_ HO_411000.out) gb473 (Nat.le_of_eq hg.symm)) hb); replace HO_424008 := Aside0.mk (Kd.R_below (kR_ HO_424008.out) hb); replace HO_437008 := Aside0.mk (Kd.R_below (kR_ HO_437008.out) hb); replace HL440_8 := Aside0.mk (Kd.V_below (Kd.V_elderB (kV_ HL440_8.out) gb473 (Nat.le_of_eq hg.symm)) hb); replace HO448 := Aside0.mk (Kd.V_below (Kd.V_elderB (kV_ HO448.out) gb473 (Nat.le_of_eq hg.symm)) hb); replace HO456 := Aside0.mk (Kd.V_below (Kd.V_elderB (kV_ HO456.out) gb473 (Nat.le_of_eq hg.symm)) hb); replace HO459 := Aside0.mk (Kd.N_below (Kd.N_elderB (kN_ HO459.out) gb473 (Nat.le_of_eq hg.symm)) hb); replace HO471 := Aside0.mk (Kd.R_below (kR_ HO471.out) hb); have BK473 := Aside0.mk (hbox); have GW473 := ge_ hg HB; have GE473 := ge_ hg HB; replace HB := (bs_ HB hb); have NB410_473 := nl_ hg BK410; have NB473_410 := ng_ hg BK410; replace BK410 := (bbA_ BK410 hb); have NB423_473 := nl_ hg BK423; have NB473_423 := ng_ hg BK423; replace BK423 := (bbA_ BK423 hb); have NB436_473 := nl_ hg BK436; have NB473_436 := ng_ hg BK436; replace BK436 := (bbA_ BK436 hb); have NB460_473 := nl_ hg BK460; have NB473_460 := ng_ hg BK460; replace BK460 := (bbA_ BK460 hb); clear hb hbox hg; have hnb66 := NB473_410.out; have hnc66 := NB410_473.out; have hnb67 := NB473_423.out; have hnc67 := NB423_473.out; have hnb68 := NB473_436.out; have hnc68 := NB436_473.out; have hnb69 := NB473_460.out; have hnc69 := NB460_473.out; have Z70 := zz9 BK473; obtain ⟨Ao71, co71, eo71⟩ := Kd.R_slice HO471.out; subst eo71))
                go_roundg k2
                case measure => have := HJ5.out; have := HK2.out; omega
                case rel => exact ⟨(wrap64 (x8_2 + (((rd_T28 t406 x9_2).f8).length : Int))), (ji38), (by first | rfl | (simp; done) | (simp [*]; done)), (by first | rfl | (simp; done) | (simp only [← hji38] <;> (first | rfl | simp)) | (simp [*]; done)), H', ⟨by have := HJ5.out; have := HK2.out; omega⟩, ⟨by refine kN_ ?_; exact nfN_ gb473 HO_411000.out (fun _ hk => hk.2) (fun _ hk => ⟨hk.1.1.1.2.1, ⟨hk.1.1.1.2.2.1, ⟨hk.1.1.1.2.2.2.1, ⟨hk.1.1.1.2.2.2.2.1, hk.1.1.1.2.2.2.2.2.1⟩⟩⟩⟩)⟩, ⟨by refine kR_ ?_; exact rfm_ ((Kd.R_types HO_424008.out BK473.out (by decide))) (fun _ hk => hk.1.1)⟩, ⟨by refine kR_ ?_; exact rfm_ ((Kd.R_types HO_437008.out BK473.out (by decide))) (fun _ hk => hk.1.1)⟩, ⟨by exact kf_ BK410.out⟩, ⟨by exact kf_ BK423.out⟩, ⟨by exact kf_ BK436.out⟩, ⟨hbA_ HB.out⟩⟩
              ·rw [if_neg c41] at H
               exact absurd H (by simp)
             ·rw [if_neg c40] at H
              exact absurd H (by simp)
            ·rw [if_neg c39] at H
             exact absurd H (by simp)
           ·rw [if_neg c37] at H
            exact absurd H (by simp)
          ·rw [if_neg c36] at H
           exact absurd H (by simp)
         ·rw [if_neg c34] at H
          exact absurd H (by simp)
        ·rw [if_neg c33] at H
         have c33b0 : decide (x9_2 < (t406.length : Int)) = false := decide_eq_false c33
         clear c33
         by_cases c72 : (t419.length : Int) = x8_2
         ·rw [if_pos c72] at H
          have c72b0 : ((t419.length : Int) == x8_2) = true := beq_iff_eq.mpr c72
          have c72b1 : ((t419.length : Int) != x8_2) = false := bne_eq_false_iff_eq.mpr c72
          clear c72
          by_cases c73 : t416 = 0
          ·rw [if_pos c73] at H
           have c73b0 : (t416 == 0) = true := beq_iff_eq.mpr c73
           have c73b1 : (t416 != 0) = false := bne_eq_false_iff_eq.mpr c73
           clear c73
           by_cases c74 : t417 = true
           ·subst c74
            rw [if_pos rfl] at H
            exact absurd (Option.some.inj H) (by rw [HLW.out]; exact Bool.false_ne_true)
           ·replace c74 := Bool.eq_false_iff.mpr c74
            subst c74
            rw [if_neg (show ¬ (false = true) by decide)] at H
            replace H := Option.bind_eq_some_iff.mp H
            obtain ⟨t439, A750, H⟩ := H
            (try dsimp only at H)
            have A75 := Aside0.mk A750; clear A750
            obtain rfl := Option.some.inj H
            have hnb76 := NB410_423.out; have hnc76 := NB423_410.out; have hnb77 := NB410_436.out; have hnc77 := NB436_410.out; have Z78 := zz2 BK410; have hnb79 := NB423_436.out; have hnc79 := NB436_423.out; have Z80 := zz9 BK423
            go_wp2_with (first | (go_at_call 14; (with_reducible refine (impl_PacketOk.calls t411 t412 t413 t414 t415 t416 false t418 _ _ t419 t439 _ ?side1 ?side2 A75.out).mono ?_); (case side1 => exact kC_ (Kd.R_reads' HO_424008.out).2.2); (case side2 => exact (Kd.R_reads' HO_424008.out).2.1); rintro e w81 ⟨rfl, hb⟩; replace HO_411000 := Aside0.mk (Kd.N_below (kN_ HO_411000.out) hb); replace HO_424008 := Aside0.mk (Kd.R_below (kR_ HO_424008.out) hb); replace HO_437008 := Aside0.mk (Kd.R_below (kR_ HO_437008.out) hb); replace BK410 := (bbA_ BK410 hb); replace BK423 := (bbA_ BK423 hb); replace BK436 := (bbA_ BK436 hb); replace HB := (bs_ HB hb); (try clear hb); (try clear hb2); (try clear hk); (try clear hi)))
            go_ret
            exact ⟨by first | rfl | (simp [errW_none, errW_some] <;> rfl) | (simp [*, errW_none, errW_some] <;> rfl), hbA_ HB.out⟩
          ·rw [if_neg c73] at H
           have c73b0 : (t416 == 0) = false := beq_eq_false_iff_ne.mpr c73
           have c73b1 : (t416 != 0) = true := bne_iff_ne.mpr c73
           exact absurd (Option.some.inj H) (by rw [HLW.out]; exact Bool.false_ne_true)
         ·rw [if_neg c72] at H
          have c72b0 : ((t419.length : Int) == x8_2) = false := beq_eq_false_iff_ne.mpr c72
          have c72b1 : ((t419.length : Int) != x8_2) = true := bne_iff_ne.mpr c72
          exact absurd (Option.some.inj H) (by rw [HLW.out]; exact Bool.false_ne_true)
     ·replace c32 := Bool.eq_false_iff.mpr c32
      subst c32
      rw [if_neg (show ¬ (false = true) by decide)] at H
      replace H := Option.bind_eq_some_iff.mp H
      obtain ⟨t438, A820, H⟩ := H
      (try dsimp only at H)
      have A82 := Aside0.mk A820; clear A820
      obtain rfl := Option.some.inj H
      go_wp2_with (first | ((with_reducible refine gate_callee (f := 13) rfl ?_); refine goesL_ (some 39) rfl rfl Try.func13 (by kernel_rfl) rfl #[] rfl ar_ ?_; (with_reducible refine (laws_alive.calls kj5  t438 _ A82.out).mono ?_); rintro e w83 ⟨rfl, hb⟩; refine ⟨_, rfl, ?_⟩; replace HO_411000 := Aside0.mk (Kd.N_below (kN_ HO_411000.out) hb); replace HO_424008 := Aside0.mk (Kd.R_below (kR_ HO_424008.out) hb); replace HO_437008 := Aside0.mk (Kd.R_below (kR_ HO_437008.out) hb); replace BK410 := (bbA_ BK410 hb); replace BK423 := (bbA_ BK423 hb); replace BK436 := (bbA_ BK436 hb); replace HB := (bs_ HB hb); (try clear hb); (try clear hb2); (try clear hk); (try clear hi)))
      go_ret
      exact ⟨by first | rfl | (simp [errW_none, errW_some] <;> rfl) | (simp [*, errW_none, errW_some] <;> rfl), hbA_ HB.out⟩
def laws_FnPartWhole.Pure : Prop := ∀ (l0 : List Int), l0.length ≤ maxLen → l0.length * 1 ≤ 140737488351232 → (∀ x ∈ l0, (Lit.int .u8 x).wf = true) → ∃ k, laws_FnPartWhole.f k l0 = some true
theorem laws_FnPartWhole.walk (P : laws_FnPartWhole.Pure) (a0 : Option Addr) (len0 cap0 : Nat) (z0 : List Int) (w : World) (w0 : (a0 = none ∧ len0 = 0 ∧ cap0 = 0 ∧ z0 = []) ∨ ∃ x, a0 = some x ∧ len0 ≤ cap0 ∧ cap0 ≤ maxLen ∧ z0.length = cap0 ∧ (∀ i, i < z0.length → w.cell? (x.add i) = some (.int .u8 (z0.getD i 0))) ∧ ∀ n ∈ z0, (Lit.int .u8 n).wf = true) (y0 : len0 * 1 ≤ 140737488351232) :
  Calls Try.prog 3 #[.slice a0 len0 cap0] w fun e w' => e = .returned (.bool true) ∧ Below w.heap.size w w' := by
 obtain ⟨l0, rfl, hr0, hm0, hw0, hc0⟩ := ReadsInt.ofRowC w0
 obtain ⟨k, h⟩ := P l0 hm0 y0 hw0
 refine (laws_FnPartWhole.calls k _ _ l0 true w (Kd.C_of_reads (d := (0 : Int)) (h1 := fun _ => rfl) hr0) hc0 h rfl).mono ?_
 rintro e w' ⟨rfl, hd⟩
 exact ⟨rfl, hd⟩
end Go.Proofs.Ytpbeljcgcdilnaa.PFnPartWhole
