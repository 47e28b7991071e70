/- Printed by wip/xp/xprint.sh out of the translation, for this claim: what each function answers, as a plain function, and that the machine does just that. No condition. -/
import Derived.Test.YtbhofhdmbbipgaaPFnExactPacketCutx0
import Derived.Test.YtbhofhdmbbipgaaPFnExactPacketCutx3
namespace Go.Proofs.Ytbhofhdmbbipgaa.PFnExactPacketCut
open Go.RowKit Go.Proofs.YtbhofhdmbbipgaaW.PrintWords Go.Proofs.YtbhofhdmbbipgaaW.PrintLast Go.Proofs.YtbhofhdmbbipgaaW.PrintMore
attribute [local go_sem] max2_int min2_int max_two min_two max_three min_three max_four min_four   -- for this text's walks alone
set_option linter.unusedVariables false
set_option linter.unusedSimpArgs false
def laws_eqPacket.f (k : Nat) (a0_0 : Int) (a0_1 : Int) (a0_2 : Int) (a0_3 : Int) (a0_4 : Int) (a0_5 : Int) (a0_6 : Bool) (a0_7 : Bool) (l0_8 : List Int) (a1_0 : Int) (a1_1 : Int) (a1_2 : Int) (a1_3 : Int) (a1_4 : Int) (a1_5 : Int) (a1_6 : Bool) (a1_7 : Bool) (l1_8 : List Int) : Option (Bool) := if a0_0 = a1_0 then (if a0_1 = a1_1 then (if a0_2 = a1_2 then (if a0_3 = a1_3 then (if a0_4 = a1_4 then (if a0_5 = a1_5 then (if (a0_6 != a1_6) = true then (some false) else (if (a0_7 != a1_7) = true then (some false) else ((laws_eqByteS.f k l0_8 l1_8).bind fun t178 => (if t178 = true then (some true) else (some false))))) else (some false)) else (some false)) else (some false)) else (some false)) else (some false)) else (some false)
theorem laws_eqPacket.mono : ∀ a0 a1 a2 a3 a4 a5 a6 a7 a8 a9 a10 a11 a12 a13 a14 a15 a16 a17 k, LeO (laws_eqPacket.f k a0 a1 a2 a3 a4 a5 a6 a7 a8 a9 a10 a11 a12 a13 a14 a15 a16 a17) (laws_eqPacket.f (k + 1) a0 a1 a2 a3 a4 a5 a6 a7 a8 a9 a10 a11 a12 a13 a14 a15 a16 a17) := by
 intro a0 a1 a2 a3 a4 a5 a6 a7 a8 a9 a10 a11 a12 a13 a14 a15 a16 a17 k
 unfold laws_eqPacket.f
 repeat' first | (with_reducible first | apply laws_eqByteS.mono | exact LeO.refl _ | exact LeO.none _ | refine LeO.ite ?_ ?_ | refine LeO.bind ?_ fun _ => ?_) | apply laws_eqByteS.mono | exact LeO.none _ | refine LeO.ite ?_ ?_ | refine LeO.bind ?_ fun _ => ?_
set_option maxHeartbeats 8000000 in
set_option maxRecDepth 100000 in
theorem laws_eqPacket.calls (k : Nat) (a0_0 : Int) (a0_1 : Int) (a0_2 : Int) (a0_3 : Int) (a0_4 : Int) (a0_5 : Int) (a0_6 : Bool) (a0_7 : Bool) (A0_8 : Option Addr) (c0_8 : Nat) (l0_8 : List Int) (a1_0 : Int) (a1_1 : Int) (a1_2 : Int) (a1_3 : Int) (a1_4 : Int) (a1_5 : Int) (a1_6 : Bool) (a1_7 : Bool) (A1_8 : Option Addr) (c1_8 : Nat) (l1_8 : List Int) (r : Bool) (w : World) (hr0_8 : Kd.C (Kd.int .u8) w A0_8 l0_8.length l0_8) (hc0_8 : l0_8.length ≤ c0_8) (hr1_8 : Kd.C (Kd.int .u8) w A1_8 l1_8.length l1_8) (hc1_8 : l1_8.length ≤ c1_8) (h : laws_eqPacket.f k a0_0 a0_1 a0_2 a0_3 a0_4 a0_5 a0_6 a0_7 l0_8 a1_0 a1_1 a1_2 a1_3 a1_4 a1_5 a1_6 a1_7 l1_8 = some r) :
  Calls Try.prog 19 #[.agg #[.int .i64 a0_0, .int .i64 a0_1, .int .i64 a0_2, .int .i64 a0_3, .int .i64 a0_4, .int .i64 a0_5, .bool a0_6, .bool a0_7, .slice A0_8 l0_8.length c0_8], .agg #[.int .i64 a1_0, .int .i64 a1_1, .int .i64 a1_2, .int .i64 a1_3, .int .i64 a1_4, .int .i64 a1_5, .bool a1_6, .bool a1_7, .slice A1_8 l1_8.length c1_8]] w fun e w' => e = .returned (.bool r) ∧ Below w.heap.size w w' := by
 have hu24 := Try.underlying24; have HR0_8 := Aside0.mk hr0_8; have HC0_8 := Aside0.mk hc0_8; clear hr0_8 hc0_8; have HR1_8 := Aside0.mk hr1_8; have HC1_8 := Aside0.mk hc1_8; clear hr1_8 hc1_8
 have HB := Aside0.mk (Below.refl w.heap.size w)
 have H : (if a0_0 = a1_0 then (if a0_1 = a1_1 then (if a0_2 = a1_2 then (if a0_3 = a1_3 then (if a0_4 = a1_4 then (if a0_5 = a1_5 then (if (a0_6 != a1_6) = true then (some false) else (if (a0_7 != a1_7) = true then (some false) else ((laws_eqByteS.f k l0_8 l1_8).bind fun t178 => (if t178 = true then (some true) else (some false))))) else (some false)) else (some false)) else (some false)) else (some false)) else (some false)) else (some false)) = some r := h
 clear h
 by_cases c3 : a0_0 = a1_0
 ·rw [if_pos c3] at H
  have c3b0 : (a0_0 == a1_0) = true := beq_iff_eq.mpr c3
  have c3b1 : (a0_0 != a1_0) = false := bne_eq_false_iff_eq.mpr c3
  clear c3
  by_cases c4 : a0_1 = a1_1
  ·rw [if_pos c4] at H
   have c4b0 : (a0_1 == a1_1) = true := beq_iff_eq.mpr c4
   have c4b1 : (a0_1 != a1_1) = false := bne_eq_false_iff_eq.mpr c4
   clear c4
   by_cases c5 : a0_2 = a1_2
   ·rw [if_pos c5] at H
    have c5b0 : (a0_2 == a1_2) = true := beq_iff_eq.mpr c5
    have c5b1 : (a0_2 != a1_2) = false := bne_eq_false_iff_eq.mpr c5
    clear c5
    by_cases c6 : a0_3 = a1_3
    ·rw [if_pos c6] at H
     have c6b0 : (a0_3 == a1_3) = true := beq_iff_eq.mpr c6
     have c6b1 : (a0_3 != a1_3) = false := bne_eq_false_iff_eq.mpr c6
     clear c6
     by_cases c7 : a0_4 = a1_4
     ·rw [if_pos c7] at H
      have c7b0 : (a0_4 == a1_4) = true := beq_iff_eq.mpr c7
      have c7b1 : (a0_4 != a1_4) = false := bne_eq_false_iff_eq.mpr c7
      clear c7
      by_cases c8 : a0_5 = a1_5
      ·rw [if_pos c8] at H
       have c8b0 : (a0_5 == a1_5) = true := beq_iff_eq.mpr c8
       have c8b1 : (a0_5 != a1_5) = false := bne_eq_false_iff_eq.mpr c8
       clear c8
       by_cases c9 : (a0_6 != a1_6) = true
       ·rw [if_pos c9] at H
        have c9b0 : (a0_6 != a1_6) = true := c9
        (try (have c9b1 : decide (a0_6 = a1_6) = false := by simpa using c9))
        (try (have c9b2 : (a0_6 == a1_6) = false := by simpa using c9))
        (try (have c9b3 : ¬ (a0_6 = a1_6) := by simpa using c9))
        clear c9
        obtain rfl := Option.some.inj H
        go_enter Try.func19, Try.ntmps19
        go_wp2_with (first | ((with_reducible refine gate_dst (N := 2) rfl ?_); refine box_ (N := 2) (cs := #[.int .i64 a0_0, .int .i64 a0_1, .int .i64 a0_2, .int .i64 a0_3, .int .i64 a0_4, .int .i64 a0_5, .bool a0_6, .bool a0_7, .slice A0_8 l0_8.length c0_8]) (t := 24) (fun gb176 hg w10 hbox hb => ?_); have BK176 := Aside0.mk (hbox); have GW176 := ge_ hg HB; have GE176 := ge_ hg HB; replace HB := (bs_ HB hb); clear hb hbox hg) | ((with_reducible refine gate_dst (N := 3) rfl ?_); refine box_ (N := 3) (cs := #[.int .i64 a1_0, .int .i64 a1_1, .int .i64 a1_2, .int .i64 a1_3, .int .i64 a1_4, .int .i64 a1_5, .bool a1_6, .bool a1_7, .slice A1_8 l1_8.length c1_8]) (t := 24) (fun gb177 hg w11 hbox hb => ?_); have BK177 := Aside0.mk (hbox); have GW177 := ge_ hg HB; have GE177 := ge_ hg HB; replace HB := (bs_ HB hb); have NB176_177 := nl_ hg BK176; have NB177_176 := ng_ hg BK176; replace BK176 := (bbA_ BK176 hb); clear hb hbox hg; have hnb12 := NB176_177.out; have hnc12 := NB177_176.out; have Z13 := zz9 BK176; have Z14 := zz9 BK177))
        go_ret
        exact ⟨by first | rfl | (simp [errW_none, errW_some] <;> rfl) | (simp [*, errW_none, errW_some] <;> rfl), hbA_ HB.out⟩
       ·rw [if_neg c9] at H
        have c9b0 : (a0_6 != a1_6) = false := by simpa using c9
        (try (have c9b1 : decide (a0_6 = a1_6) = true := by simpa using c9))
        (try (have c9b2 : (a0_6 == a1_6) = true := by simpa using c9))
        clear c9
        by_cases c15 : (a0_7 != a1_7) = true
        ·rw [if_pos c15] at H
         have c15b0 : (a0_7 != a1_7) = true := c15
         (try (have c15b1 : decide (a0_7 = a1_7) = false := by simpa using c15))
         (try (have c15b2 : (a0_7 == a1_7) = false := by simpa using c15))
         (try (have c15b3 : ¬ (a0_7 = a1_7) := by simpa using c15))
         clear c15
         obtain rfl := Option.some.inj H
         go_enter Try.func19, Try.ntmps19
         go_wp2_with (first | ((with_reducible refine gate_dst (N := 2) rfl ?_); refine box_ (N := 2) (cs := #[.int .i64 a0_0, .int .i64 a0_1, .int .i64 a0_2, .int .i64 a0_3, .int .i64 a0_4, .int .i64 a0_5, .bool a0_6, .bool a0_7, .slice A0_8 l0_8.length c0_8]) (t := 24) (fun gb176 hg w16 hbox hb => ?_); have BK176 := Aside0.mk (hbox); have GW176 := ge_ hg HB; have GE176 := ge_ hg HB; replace HB := (bs_ HB hb); clear hb hbox hg) | ((with_reducible refine gate_dst (N := 3) rfl ?_); refine box_ (N := 3) (cs := #[.int .i64 a1_0, .int .i64 a1_1, .int .i64 a1_2, .int .i64 a1_3, .int .i64 a1_4, .int .i64 a1_5, .bool a1_6, .bool a1_7, .slice A1_8 l1_8.length c1_8]) (t := 24) (fun gb177 hg w17 hbox hb => ?_); have BK177 := Aside0.mk (hbox); have GW177 := ge_ hg HB; have GE177 := ge_ hg HB; replace HB := (bs_ HB hb); have NB176_177 := nl_ hg BK176; have NB177_176 := ng_ hg BK176; replace BK176 := (bbA_ BK176 hb); clear hb hbox hg; have hnb18 := NB176_177.out; have hnc18 := NB177_176.out; have Z19 := zz9 BK176; have Z20 := zz9 BK177))
         go_ret
         exact ⟨by first | rfl | (simp [errW_none, errW_some] <;> rfl) | (simp [*, errW_none, errW_some] <;> rfl), hbA_ HB.out⟩
        ·rw [if_neg c15] at H
         have c15b0 : (a0_7 != a1_7) = false := by simpa using c15
         (try (have c15b1 : decide (a0_7 = a1_7) = true := by simpa using c15))
         (try (have c15b2 : (a0_7 == a1_7) = true := by simpa using c15))
         clear c15
         replace H := Option.bind_eq_some_iff.mp H
         obtain ⟨t178, A210, H⟩ := H
         (try dsimp only at H)
         have A21 := Aside0.mk A210; clear A210
         by_cases c22 : t178 = true
         ·subst c22
          rw [if_pos rfl] at H
          obtain rfl := Option.some.inj H
          go_enter Try.func19, Try.ntmps19
          go_wp2_with (first | ((with_reducible refine gate_dst (N := 2) rfl ?_); refine box_ (N := 2) (cs := #[.int .i64 a0_0, .int .i64 a0_1, .int .i64 a0_2, .int .i64 a0_3, .int .i64 a0_4, .int .i64 a0_5, .bool a0_6, .bool a0_7, .slice A0_8 l0_8.length c0_8]) (t := 24) (fun gb176 hg w23 hbox hb => ?_); have BK176 := Aside0.mk (hbox); have GW176 := ge_ hg HB; have GE176 := ge_ hg HB; replace HB := (bs_ HB hb); clear hb hbox hg) | ((with_reducible refine gate_dst (N := 3) rfl ?_); refine box_ (N := 3) (cs := #[.int .i64 a1_0, .int .i64 a1_1, .int .i64 a1_2, .int .i64 a1_3, .int .i64 a1_4, .int .i64 a1_5, .bool a1_6, .bool a1_7, .slice A1_8 l1_8.length c1_8]) (t := 24) (fun gb177 hg w24 hbox hb => ?_); have BK177 := Aside0.mk (hbox); have GW177 := ge_ hg HB; have GE177 := ge_ hg HB; replace HB := (bs_ HB hb); have NB176_177 := nl_ hg BK176; have NB177_176 := ng_ hg BK176; replace BK176 := (bbA_ BK176 hb); clear hb hbox hg; have hnb25 := NB176_177.out; have hnc25 := NB177_176.out; have Z26 := zz9 BK176; have Z27 := zz9 BK177) | ((with_reducible refine gate_callee (f := 29) rfl ?_); refine goesL_ (some 49) rfl rfl Try.func29 (by kernel_rfl) rfl #[.slice A0_8 l0_8.length c0_8, .slice A1_8 l1_8.length c1_8] rfl ar_ ?_; (with_reducible refine (laws_eqByteS.calls k _ _ l0_8 _ _ l1_8 true _ ?side1 ?side2 ?side3 ?side4 A21.out).mono ?_); (case side1 => exact kC_ (Kd.C_below HR0_8.out HB.out)); (case side2 => exact HC0_8.out); (case side3 => exact kC_ (Kd.C_below HR1_8.out HB.out)); (case side4 => exact HC1_8.out); rintro e w' ⟨rfl, ⟨nd, rfl⟩⟩; refine ⟨_, rfl, ?_⟩))
          go_ret
          exact ⟨by first | rfl | (simp [errW_none, errW_some] <;> rfl) | (simp [*, errW_none, errW_some] <;> rfl), hbA_ HB.out⟩
         ·replace c22 := Bool.eq_false_iff.mpr c22
          subst c22
          rw [if_neg (show ¬ (false = true) by decide)] at H
          obtain rfl := Option.some.inj H
          go_enter Try.func19, Try.ntmps19
          go_wp2_with (first | ((with_reducible refine gate_dst (N := 2) rfl ?_); refine box_ (N := 2) (cs := #[.int .i64 a0_0, .int .i64 a0_1, .int .i64 a0_2, .int .i64 a0_3, .int .i64 a0_4, .int .i64 a0_5, .bool a0_6, .bool a0_7, .slice A0_8 l0_8.length c0_8]) (t := 24) (fun gb176 hg w28 hbox hb => ?_); have BK176 := Aside0.mk (hbox); have GW176 := ge_ hg HB; have GE176 := ge_ hg HB; replace HB := (bs_ HB hb); clear hb hbox hg) | ((with_reducible refine gate_dst (N := 3) rfl ?_); refine box_ (N := 3) (cs := #[.int .i64 a1_0, .int .i64 a1_1, .int .i64 a1_2, .int .i64 a1_3, .int .i64 a1_4, .int .i64 a1_5, .bool a1_6, .bool a1_7, .slice A1_8 l1_8.length c1_8]) (t := 24) (fun gb177 hg w29 hbox hb => ?_); have BK177 := Aside0.mk (hbox); have GW177 := ge_ hg HB; have GE177 := ge_ hg HB; replace HB := (bs_ HB hb); have NB176_177 := nl_ hg BK176; have NB177_176 := ng_ hg BK176; replace BK176 := (bbA_ BK176 hb); clear hb hbox hg; have hnb30 := NB176_177.out; have hnc30 := NB177_176.out; have Z31 := zz9 BK176; have Z32 := zz9 BK177) | ((with_reducible refine gate_callee (f := 29) rfl ?_); refine goesL_ (some 49) rfl rfl Try.func29 (by kernel_rfl) rfl #[.slice A0_8 l0_8.length c0_8, .slice A1_8 l1_8.length c1_8] rfl ar_ ?_; (with_reducible refine (laws_eqByteS.calls k _ _ l0_8 _ _ l1_8 false _ ?side1 ?side2 ?side3 ?side4 A21.out).mono ?_); (case side1 => exact kC_ (Kd.C_below HR0_8.out HB.out)); (case side2 => exact HC0_8.out); (case side3 => exact kC_ (Kd.C_below HR1_8.out HB.out)); (case side4 => exact HC1_8.out); rintro e w' ⟨rfl, ⟨nd, rfl⟩⟩; refine ⟨_, rfl, ?_⟩))
          go_ret
          exact ⟨by first | rfl | (simp [errW_none, errW_some] <;> rfl) | (simp [*, errW_none, errW_some] <;> rfl), hbA_ HB.out⟩
      ·rw [if_neg c8] at H
       have c8b0 : (a0_5 == a1_5) = false := beq_eq_false_iff_ne.mpr c8
       have c8b1 : (a0_5 != a1_5) = true := bne_iff_ne.mpr c8
       obtain rfl := Option.some.inj H
       go_enter Try.func19, Try.ntmps19
       go_wp2_with (first | ((with_reducible refine gate_dst (N := 2) rfl ?_); refine box_ (N := 2) (cs := #[.int .i64 a0_0, .int .i64 a0_1, .int .i64 a0_2, .int .i64 a0_3, .int .i64 a0_4, .int .i64 a0_5, .bool a0_6, .bool a0_7, .slice A0_8 l0_8.length c0_8]) (t := 24) (fun gb176 hg w33 hbox hb => ?_); have BK176 := Aside0.mk (hbox); have GW176 := ge_ hg HB; have GE176 := ge_ hg HB; replace HB := (bs_ HB hb); clear hb hbox hg) | ((with_reducible refine gate_dst (N := 3) rfl ?_); refine box_ (N := 3) (cs := #[.int .i64 a1_0, .int .i64 a1_1, .int .i64 a1_2, .int .i64 a1_3, .int .i64 a1_4, .int .i64 a1_5, .bool a1_6, .bool a1_7, .slice A1_8 l1_8.length c1_8]) (t := 24) (fun gb177 hg w34 hbox hb => ?_); have BK177 := Aside0.mk (hbox); have GW177 := ge_ hg HB; have GE177 := ge_ hg HB; replace HB := (bs_ HB hb); have NB176_177 := nl_ hg BK176; have NB177_176 := ng_ hg BK176; replace BK176 := (bbA_ BK176 hb); clear hb hbox hg; have hnb35 := NB176_177.out; have hnc35 := NB177_176.out; have Z36 := zz9 BK176; have Z37 := zz9 BK177))
       go_ret
       exact ⟨by first | rfl | (simp [errW_none, errW_some] <;> rfl) | (simp [*, errW_none, errW_some] <;> rfl), hbA_ HB.out⟩
     ·rw [if_neg c7] at H
      have c7b0 : (a0_4 == a1_4) = false := beq_eq_false_iff_ne.mpr c7
      have c7b1 : (a0_4 != a1_4) = true := bne_iff_ne.mpr c7
      obtain rfl := Option.some.inj H
      go_enter Try.func19, Try.ntmps19
      go_wp2_with (first | ((with_reducible refine gate_dst (N := 2) rfl ?_); refine box_ (N := 2) (cs := #[.int .i64 a0_0, .int .i64 a0_1, .int .i64 a0_2, .int .i64 a0_3, .int .i64 a0_4, .int .i64 a0_5, .bool a0_6, .bool a0_7, .slice A0_8 l0_8.length c0_8]) (t := 24) (fun gb176 hg w38 hbox hb => ?_); have BK176 := Aside0.mk (hbox); have GW176 := ge_ hg HB; have GE176 := ge_ hg HB; replace HB := (bs_ HB hb); clear hb hbox hg) | ((with_reducible refine gate_dst (N := 3) rfl ?_); refine box_ (N := 3) (cs := #[.int .i64 a1_0, .int .i64 a1_1, .int .i64 a1_2, .int .i64 a1_3, .int .i64 a1_4, .int .i64 a1_5, .bool a1_6, .bool a1_7, .slice A1_8 l1_8.length c1_8]) (t := 24) (fun gb177 hg w39 hbox hb => ?_); have BK177 := Aside0.mk (hbox); have GW177 := ge_ hg HB; have GE177 := ge_ hg HB; replace HB := (bs_ HB hb); have NB176_177 := nl_ hg BK176; have NB177_176 := ng_ hg BK176; replace BK176 := (bbA_ BK176 hb); clear hb hbox hg; have hnb40 := NB176_177.out; have hnc40 := NB177_176.out; have Z41 := zz9 BK176; have Z42 := zz9 BK177))
      go_ret
      exact ⟨by first | rfl | (simp [errW_none, errW_some] <;> rfl) | (simp [*, errW_none, errW_some] <;> rfl), hbA_ HB.out⟩
    ·rw [if_neg c6] at H
     have c6b0 : (a0_3 == a1_3) = false := beq_eq_false_iff_ne.mpr c6
     have c6b1 : (a0_3 != a1_3) = true := bne_iff_ne.mpr c6
     obtain rfl := Option.some.inj H
     go_enter Try.func19, Try.ntmps19
     go_wp2_with (first | ((with_reducible refine gate_dst (N := 2) rfl ?_); refine box_ (N := 2) (cs := #[.int .i64 a0_0, .int .i64 a0_1, .int .i64 a0_2, .int .i64 a0_3, .int .i64 a0_4, .int .i64 a0_5, .bool a0_6, .bool a0_7, .slice A0_8 l0_8.length c0_8]) (t := 24) (fun gb176 hg w43 hbox hb => ?_); have BK176 := Aside0.mk (hbox); have GW176 := ge_ hg HB; have GE176 := ge_ hg HB; replace HB := (bs_ HB hb); clear hb hbox hg) | ((with_reducible refine gate_dst (N := 3) rfl ?_); refine box_ (N := 3) (cs := #[.int .i64 a1_0, .int .i64 a1_1, .int .i64 a1_2, .int .i64 a1_3, .int .i64 a1_4, .int .i64 a1_5, .bool a1_6, .bool a1_7, .slice A1_8 l1_8.length c1_8]) (t := 24) (fun gb177 hg w44 hbox hb => ?_); have BK177 := Aside0.mk (hbox); have GW177 := ge_ hg HB; have GE177 := ge_ hg HB; replace HB := (bs_ HB hb); have NB176_177 := nl_ hg BK176; have NB177_176 := ng_ hg BK176; replace BK176 := (bbA_ BK176 hb); clear hb hbox hg; have hnb45 := NB176_177.out; have hnc45 := NB177_176.out; have Z46 := zz9 BK176; have Z47 := zz9 BK177))
     go_ret
     exact ⟨by first | rfl | (simp [errW_none, errW_some] <;> rfl) | (simp [*, errW_none, errW_some] <;> rfl), hbA_ HB.out⟩
   ·rw [if_neg c5] at H
    have c5b0 : (a0_2 == a1_2) = false := beq_eq_false_iff_ne.mpr c5
    have c5b1 : (a0_2 != a1_2) = true := bne_iff_ne.mpr c5
    obtain rfl := Option.some.inj H
    go_enter Try.func19, Try.ntmps19
    go_wp2_with (first | ((with_reducible refine gate_dst (N := 2) rfl ?_); refine box_ (N := 2) (cs := #[.int .i64 a0_0, .int .i64 a0_1, .int .i64 a0_2, .int .i64 a0_3, .int .i64 a0_4, .int .i64 a0_5, .bool a0_6, .bool a0_7, .slice A0_8 l0_8.length c0_8]) (t := 24) (fun gb176 hg w48 hbox hb => ?_); have BK176 := Aside0.mk (hbox); have GW176 := ge_ hg HB; have GE176 := ge_ hg HB; replace HB := (bs_ HB hb); clear hb hbox hg) | ((with_reducible refine gate_dst (N := 3) rfl ?_); refine box_ (N := 3) (cs := #[.int .i64 a1_0, .int .i64 a1_1, .int .i64 a1_2, .int .i64 a1_3, .int .i64 a1_4, .int .i64 a1_5, .bool a1_6, .bool a1_7, .slice A1_8 l1_8.length c1_8]) (t := 24) (fun gb177 hg w49 hbox hb => ?_); have BK177 := Aside0.mk (hbox); have GW177 := ge_ hg HB; have GE177 := ge_ hg HB; replace HB := (bs_ HB hb); have NB176_177 := nl_ hg BK176; have NB177_176 := ng_ hg BK176; replace BK176 := (bbA_ BK176 hb); clear hb hbox hg; have hnb50 := NB176_177.out; have hnc50 := NB177_176.out; have Z51 := zz9 BK176; have Z52 := zz9 BK177))
    go_ret
    exact ⟨by first | rfl | (simp [errW_none, errW_some] <;> rfl) | (simp [*, errW_none, errW_some] <;> rfl), hbA_ HB.out⟩
  ·rw [if_neg c4] at H
   have c4b0 : (a0_1 == a1_1) = false := beq_eq_false_iff_ne.mpr c4
   have c4b1 : (a0_1 != a1_1) = true := bne_iff_ne.mpr c4
   obtain rfl := Option.some.inj H
   go_enter Try.func19, Try.ntmps19
   go_wp2_with (first | ((with_reducible refine gate_dst (N := 2) rfl ?_); refine box_ (N := 2) (cs := #[.int .i64 a0_0, .int .i64 a0_1, .int .i64 a0_2, .int .i64 a0_3, .int .i64 a0_4, .int .i64 a0_5, .bool a0_6, .bool a0_7, .slice A0_8 l0_8.length c0_8]) (t := 24) (fun gb176 hg w53 hbox hb => ?_); have BK176 := Aside0.mk (hbox); have GW176 := ge_ hg HB; have GE176 := ge_ hg HB; replace HB := (bs_ HB hb); clear hb hbox hg) | ((with_reducible refine gate_dst (N := 3) rfl ?_); refine box_ (N := 3) (cs := #[.int .i64 a1_0, .int .i64 a1_1, .int .i64 a1_2, .int .i64 a1_3, .int .i64 a1_4, .int .i64 a1_5, .bool a1_6, .bool a1_7, .slice A1_8 l1_8.length c1_8]) (t := 24) (fun gb177 hg w54 hbox hb => ?_); have BK177 := Aside0.mk (hbox); have GW177 := ge_ hg HB; have GE177 := ge_ hg HB; replace HB := (bs_ HB hb); have NB176_177 := nl_ hg BK176; have NB177_176 := ng_ hg BK176; replace BK176 := (bbA_ BK176 hb); clear hb hbox hg; have hnb55 := NB176_177.out; have hnc55 := NB177_176.out; have Z56 := zz9 BK176; have Z57 := zz9 BK177))
   go_ret
   exact ⟨by first | rfl | (simp [errW_none, errW_some] <;> rfl) | (simp [*, errW_none, errW_some] <;> rfl), hbA_ HB.out⟩
 ·rw [if_neg c3] at H
  have c3b0 : (a0_0 == a1_0) = false := beq_eq_false_iff_ne.mpr c3
  have c3b1 : (a0_0 != a1_0) = true := bne_iff_ne.mpr c3
  obtain rfl := Option.some.inj H
  go_enter Try.func19, Try.ntmps19
  go_wp2_with (first | ((with_reducible refine gate_dst (N := 2) rfl ?_); refine box_ (N := 2) (cs := #[.int .i64 a0_0, .int .i64 a0_1, .int .i64 a0_2, .int .i64 a0_3, .int .i64 a0_4, .int .i64 a0_5, .bool a0_6, .bool a0_7, .slice A0_8 l0_8.length c0_8]) (t := 24) (fun gb176 hg w58 hbox hb => ?_); have BK176 := Aside0.mk (hbox); have GW176 := ge_ hg HB; have GE176 := ge_ hg HB; replace HB := (bs_ HB hb); clear hb hbox hg) | ((with_reducible refine gate_dst (N := 3) rfl ?_); refine box_ (N := 3) (cs := #[.int .i64 a1_0, .int .i64 a1_1, .int .i64 a1_2, .int .i64 a1_3, .int .i64 a1_4, .int .i64 a1_5, .bool a1_6, .bool a1_7, .slice A1_8 l1_8.length c1_8]) (t := 24) (fun gb177 hg w59 hbox hb => ?_); have BK177 := Aside0.mk (hbox); have GW177 := ge_ hg HB; have GE177 := ge_ hg HB; replace HB := (bs_ HB hb); have NB176_177 := nl_ hg BK176; have NB177_176 := ng_ hg BK176; replace BK176 := (bbA_ BK176 hb); clear hb hbox hg; have hnb60 := NB176_177.out; have hnc60 := NB177_176.out; have Z61 := zz9 BK176; have Z62 := zz9 BK177))
  go_ret
  exact ⟨by first | rfl | (simp [errW_none, errW_some] <;> rfl) | (simp [*, errW_none, errW_some] <;> rfl), hbA_ HB.out⟩
def laws_eqPacketS.l0 : Nat → List (S24) → List (S24) → Int → Option (Bool)
 | 0, _, _, _ => none
 | k + 1, x0, x1, x5 => if x5 < (x0.length : Int) then (if 0 ≤ x5 then (if x5 < (x1.length : Int) then ((laws_eqPacket.f k ((rd_T24 x0 x5).f0) ((rd_T24 x0 x5).f1) ((rd_T24 x0 x5).f2) ((rd_T24 x0 x5).f3) ((rd_T24 x0 x5).f4) ((rd_T24 x0 x5).f5) ((rd_T24 x0 x5).f6) ((rd_T24 x0 x5).f7) ((rd_T24 x0 x5).f8) ((rd_T24 x1 x5).f0) ((rd_T24 x1 x5).f1) ((rd_T24 x1 x5).f2) ((rd_T24 x1 x5).f3) ((rd_T24 x1 x5).f4) ((rd_T24 x1 x5).f5) ((rd_T24 x1 x5).f6) ((rd_T24 x1 x5).f7) ((rd_T24 x1 x5).f8)).bind fun t181 => (if t181 = true then (laws_eqPacketS.l0 k x0 x1 (wrap64 (x5 + 1))) else (some false))) else (none)) else (none)) else (some true)
def laws_eqPacketS.f (k : Nat) (l0 : List (S24)) (l1 : List (S24)) : Option (Bool) := if (l0.length : Int) = (l1.length : Int) then (laws_eqPacketS.l0 k l0 l1 0) else (some false)
theorem laws_eqPacketS.mono_l : ∀ k, (∀ y0 y1 y2, LeO (laws_eqPacketS.l0 k y0 y1 y2) (laws_eqPacketS.l0 (k + 1) y0 y1 y2))
 | 0 => fun _ _ _ r h => by simp [laws_eqPacketS.l0] at h
 | k + 1 => by
  have ih0 := laws_eqPacketS.mono_l k
  ·intro y0 y1 y2
   unfold laws_eqPacketS.l0
   repeat' first | (with_reducible first | apply ih0 | apply laws_eqPacket.mono | exact LeO.refl _ | exact LeO.none _ | refine LeO.ite ?_ ?_ | refine LeO.bind ?_ fun _ => ?_) | apply ih0 | apply laws_eqPacket.mono | exact LeO.none _ | refine LeO.ite ?_ ?_ | refine LeO.bind ?_ fun _ => ?_
theorem laws_eqPacketS.mono : ∀ a0 a1 k, LeO (laws_eqPacketS.f k a0 a1) (laws_eqPacketS.f (k + 1) a0 a1) := by
 intro a0 a1 k
 have ih0 := laws_eqPacketS.mono_l k
 unfold laws_eqPacketS.f
 repeat' first | (with_reducible first | apply ih0 | apply laws_eqPacket.mono | exact LeO.refl _ | exact LeO.none _ | refine LeO.ite ?_ ?_ | refine LeO.bind ?_ fun _ => ?_) | apply ih0 | apply laws_eqPacket.mono | exact LeO.none _ | refine LeO.ite ?_ ?_ | refine LeO.bind ?_ fun _ => ?_
def laws_eqPacketS.T6 : Bool × List (List Nat × List Nat) := (true, [([], []), ([], []), ([0, 1], [0, 1]), ([2], [2]), ([], []), ([], []), ([4, 5], [4, 5]), ([6], [6]), ([3, 7], [3, 7]), ([8], [8])])
def laws_eqPacketS.B6 : List Nat := [0, 0, 3, 7, 0, 0, 48, 112, 255, 511]
theorem laws_eqPacketS.tab6 : rtab .any (opsOf Try.f18 6) = laws_eqPacketS.T6 := by kernel_rfl
theorem laws_eqPacketS.bits6 : waitsOk laws_eqPacketS.T6.2 laws_eqPacketS.B6 = true := by kernel_rfl
set_option maxHeartbeats 8000000 in
set_option maxRecDepth 100000 in
theorem laws_eqPacketS.calls (k : Nat) (A0 : Option Addr) (c0 : Nat) (l0 : List (S24)) (A1 : Option Addr) (c1 : Nat) (l1 : List (S24)) (r : Bool) (w : World) (hr0 : Kd.C k24 w A0 l0.length l0) (hc0 : l0.length ≤ c0) (hr1 : Kd.C k24 w A1 l1.length l1) (hc1 : l1.length ≤ c1) (h : laws_eqPacketS.f k l0 l1 = some r) :
  Calls Try.prog 18 #[.slice A0 l0.length c0, .slice A1 l1.length c1] w fun e w' => e = .returned (.bool r) ∧ Below w.heap.size w w' := by
 have hu24 := Try.underlying24; have HR0 := Aside0.mk hr0; have HC0 := Aside0.mk hc0; clear hr0 hc0; have HR1 := Aside0.mk hr1; have HC1 := Aside0.mk hc1; clear hr1 hc1
 have HB := Aside0.mk (Below.refl w.heap.size w)
 have H : (if (l0.length : Int) = (l1.length : Int) then (laws_eqPacketS.l0 k l0 l1 0) else (some false)) = some r := h
 clear h
 by_cases c3 : (l0.length : Int) = (l1.length : Int)
 ·rw [if_pos c3] at H
  have c3b0 : ((l0.length : Int) == (l1.length : Int)) = true := beq_iff_eq.mpr c3
  have c3b1 : ((l0.length : Int) != (l1.length : Int)) = false := bne_eq_false_iff_eq.mpr c3
  have c3b2 : (l0.length == l1.length) = true := by first | simpa using c3 | (simp at c3 ⊢; omega)
  clear c3
  have H' := Aside0.mk H
  clear H
  go_enter Try.func18, Try.ntmps18
  go_wp2
  go_loopg [5] k (fun kq v5 w' => ∃ (x5_1 : Int), v5 = .int .i64 x5_1 ∧ Aside0 (laws_eqPacketS.l0 kq l0 l1 x5_1 = some r) ∧ Aside0 (kq ≤ k) ∧ Aside0 (Below w.heap.size w w'))
  case atStart => exact ⟨(0), (by first | rfl | (simp; done) | (simp [*]; done)), H', ⟨Nat.le_refl _⟩, ⟨hbA_ HB.out⟩⟩
  case round =>
   clear H'; (try clear c1); (try clear p2); (try clear c3); (try clear c3b0); (try clear c3b1); (try clear c3b2)
   obtain ⟨x5_1, rfl, HA, HK1, HB⟩ := hrel
   cases gk with
   | zero => exact absurd HA.out (by simp [laws_eqPacketS.l0])
   | succ k1 =>
    have H := HA.out; clear HA
    simp only [laws_eqPacketS.l0] at H
    by_cases c4 : x5_1 < (l0.length : Int)
    ·rw [if_pos c4] at H
     have c4b0 : decide (x5_1 < (l0.length : Int)) = true := decide_eq_true c4
     clear c4
     by_cases c5 : 0 ≤ x5_1
     ·rw [if_pos c5] at H
      have c5b0 : decide (0 ≤ x5_1) = true := decide_eq_true c5
      clear c5
      by_cases c6 : x5_1 < (l1.length : Int)
      ·rw [if_pos c6] at H
       have c6b0 : decide (x5_1 < (l1.length : Int)) = true := decide_eq_true c6
       clear c6
       replace H := Option.bind_eq_some_iff.mp H
       obtain ⟨t181, A70, H⟩ := H
       (try dsimp only at H)
       have A7 := Aside0.mk A70; clear A70
       by_cases c8 : t181 = true
       ·subst c8
        rw [if_pos rfl] at H
        have H' := Aside0.mk H
        clear H
        try go_wp2
        replace HB := (bd_ HB)
        have p179 : 0 ≤ (x5_1 : Int) := of_decide_eq_true (by first | (with_reducible assumption) | assumption)
        have q179 : x5_1 < (l0.length : Int) := of_decide_eq_true (by first | (with_reducible assumption) | assumption)
        obtain ⟨ad179, A179_8, c179_8, e179, hx179_0, hx179_1, hx179_2, hx179_3, hx179_4, hx179_5, hx179_6, hx179_7, hx179_8, hl179_8, hi179_8⟩ := at_T24 HR0.out x5_1 p179 q179
        have hw179_8 := hx179_8; have hw179_7 := hx179_7; have hw179_6 := hx179_6; have hw179_5 := hx179_5; have hw179_4 := hx179_4; have hw179_3 := hx179_3; have hw179_2 := hx179_2; have hw179_1 := hx179_1; have hw179_0 := hx179_0
        cases e179
        replace hx179_0 := cc_ HB hx179_0
        replace hx179_1 := cc_ HB hx179_1
        replace hx179_2 := cc_ HB hx179_2
        replace hx179_3 := cc_ HB hx179_3
        replace hx179_4 := cc_ HB hx179_4
        replace hx179_5 := cc_ HB hx179_5
        replace hx179_6 := cc_ HB hx179_6
        replace hx179_7 := cc_ HB hx179_7
        replace hx179_8 := cc_ HB hx179_8
        have HR179_8 := Aside0.mk hi179_8; have HC179_8 := Aside0.mk hl179_8; clear hi179_8 hl179_8
        replace p179 := eq_true p179
        replace q179 := eq_true q179
        have p180 : 0 ≤ (x5_1 : Int) := of_decide_eq_true (by first | (with_reducible assumption) | assumption)
        have q180 : x5_1 < (l1.length : Int) := of_decide_eq_true (by first | (with_reducible assumption) | assumption)
        obtain ⟨ad180, A180_8, c180_8, e180, hx180_0, hx180_1, hx180_2, hx180_3, hx180_4, hx180_5, hx180_6, hx180_7, hx180_8, hl180_8, hi180_8⟩ := at_T24 HR1.out x5_1 p180 q180
        have hw180_8 := hx180_8; have hw180_7 := hx180_7; have hw180_6 := hx180_6; have hw180_5 := hx180_5; have hw180_4 := hx180_4; have hw180_3 := hx180_3; have hw180_2 := hx180_2; have hw180_1 := hx180_1; have hw180_0 := hx180_0
        cases e180
        replace hx180_0 := cc_ HB hx180_0
        replace hx180_1 := cc_ HB hx180_1
        replace hx180_2 := cc_ HB hx180_2
        replace hx180_3 := cc_ HB hx180_3
        replace hx180_4 := cc_ HB hx180_4
        replace hx180_5 := cc_ HB hx180_5
        replace hx180_6 := cc_ HB hx180_6
        replace hx180_7 := cc_ HB hx180_7
        replace hx180_8 := cc_ HB hx180_8
        have HR180_8 := Aside0.mk hi180_8; have HC180_8 := Aside0.mk hl180_8; clear hi180_8 hl180_8
        replace p180 := eq_true p180
        replace q180 := eq_true q180
        refine start_ (n := 10) (S := fun w' => w'.cell? (ad179.add ((x5_1).toNat * 9)) = some (.int .i64 ((rd_T24 l0 x5_1).f0)) ∧ w'.cell? ⟨(ad179.add ((x5_1).toNat * 9)).block, (ad179.add ((x5_1).toNat * 9)).off + 1, none⟩ = some (.int .i64 ((rd_T24 l0 x5_1).f1)) ∧ w'.cell? ⟨(ad179.add ((x5_1).toNat * 9)).block, (ad179.add ((x5_1).toNat * 9)).off + 2, none⟩ = some (.int .i64 ((rd_T24 l0 x5_1).f2)) ∧ w'.cell? ⟨(ad179.add ((x5_1).toNat * 9)).block, (ad179.add ((x5_1).toNat * 9)).off + 3, none⟩ = some (.int .i64 ((rd_T24 l0 x5_1).f3)) ∧ w'.cell? ⟨(ad179.add ((x5_1).toNat * 9)).block, (ad179.add ((x5_1).toNat * 9)).off + 4, none⟩ = some (.int .i64 ((rd_T24 l0 x5_1).f4)) ∧ w'.cell? ⟨(ad179.add ((x5_1).toNat * 9)).block, (ad179.add ((x5_1).toNat * 9)).off + 5, none⟩ = some (.int .i64 ((rd_T24 l0 x5_1).f5)) ∧ w'.cell? ⟨(ad179.add ((x5_1).toNat * 9)).block, (ad179.add ((x5_1).toNat * 9)).off + 6, none⟩ = some (.bool ((rd_T24 l0 x5_1).f6)) ∧ w'.cell? ⟨(ad179.add ((x5_1).toNat * 9)).block, (ad179.add ((x5_1).toNat * 9)).off + 7, none⟩ = some (.bool ((rd_T24 l0 x5_1).f7)) ∧ w'.cell? ⟨(ad179.add ((x5_1).toNat * 9)).block, (ad179.add ((x5_1).toNat * 9)).off + 8, none⟩ = some (.slice A179_8 ((rd_T24 l0 x5_1).f8).length c179_8) ∧ w'.cell? (ad180.add ((x5_1).toNat * 9)) = some (.int .i64 ((rd_T24 l1 x5_1).f0)) ∧ w'.cell? ⟨(ad180.add ((x5_1).toNat * 9)).block, (ad180.add ((x5_1).toNat * 9)).off + 1, none⟩ = some (.int .i64 ((rd_T24 l1 x5_1).f1)) ∧ w'.cell? ⟨(ad180.add ((x5_1).toNat * 9)).block, (ad180.add ((x5_1).toNat * 9)).off + 2, none⟩ = some (.int .i64 ((rd_T24 l1 x5_1).f2)) ∧ w'.cell? ⟨(ad180.add ((x5_1).toNat * 9)).block, (ad180.add ((x5_1).toNat * 9)).off + 3, none⟩ = some (.int .i64 ((rd_T24 l1 x5_1).f3)) ∧ w'.cell? ⟨(ad180.add ((x5_1).toNat * 9)).block, (ad180.add ((x5_1).toNat * 9)).off + 4, none⟩ = some (.int .i64 ((rd_T24 l1 x5_1).f4)) ∧ w'.cell? ⟨(ad180.add ((x5_1).toNat * 9)).block, (ad180.add ((x5_1).toNat * 9)).off + 5, none⟩ = some (.int .i64 ((rd_T24 l1 x5_1).f5)) ∧ w'.cell? ⟨(ad180.add ((x5_1).toNat * 9)).block, (ad180.add ((x5_1).toNat * 9)).off + 6, none⟩ = some (.bool ((rd_T24 l1 x5_1).f6)) ∧ w'.cell? ⟨(ad180.add ((x5_1).toNat * 9)).block, (ad180.add ((x5_1).toNat * 9)).off + 7, none⟩ = some (.bool ((rd_T24 l1 x5_1).f7)) ∧ w'.cell? ⟨(ad180.add ((x5_1).toNat * 9)).block, (ad180.add ((x5_1).toNat * 9)).off + 8, none⟩ = some (.slice A180_8 ((rd_T24 l1 x5_1).f8).length c180_8)) (ds := []) #[false, false, false, false, false, false, false, false, false, false] (by kernel_rfl) rfl rfl ⟨(cc_ HB hw179_0), (cc_ HB hw179_1), (cc_ HB hw179_2), (cc_ HB hw179_3), (cc_ HB hw179_4), (cc_ HB hw179_5), (cc_ HB hw179_6), (cc_ HB hw179_7), (cc_ HB hw179_8), (cc_ HB hw180_0), (cc_ HB hw180_1), (cc_ HB hw180_2), (cc_ HB hw180_3), (cc_ HB hw180_4), (cc_ HB hw180_5), (cc_ HB hw180_6), (cc_ HB hw180_7), (cc_ HB hw180_8)⟩ (fun hHeld => ?_); refine with_tabW laws_eqPacketS.tab6 laws_eqPacketS.bits6 (fun HT_ HW_ => ?_)
        generalize wr.drew = w9 at HB HR179_8 HR180_8 hx179_0 hx179_1 hx179_2 hx179_3 hx179_4 hx179_5 hx179_6 hx179_7 hx179_8 hx180_0 hx180_1 hx180_2 hx180_3 hx180_4 hx180_5 hx180_6 hx180_7 hx180_8 hHeld ⊢
        refine pu_ (i := 0) (N := some 17) HT_ ?_; refine pu_ (i := 1) (N := some 18) HT_ ?_; refine pu_ (i := 2) (N := some 19) HT_ ?_; refine pu_ (i := 4) (N := some 21) HT_ ?_; refine pu_ (i := 5) (N := some 22) HT_ ?_; refine pu_ (i := 6) (N := some 23) HT_ ?_; refine tk_ (i := 3) (N := some 20) HT_ HW_ hHeld ?_; refine tk_ (i := 7) (N := some 24) HT_ HW_ hHeld ?_
        refine on_ (i := 8) (N := some 25) HT_ (fun K hK => ?_)
        refine goes_ Try.func19 (by kernel_rfl) rfl #[.agg #[.int .i64 ((rd_T24 l0 x5_1).f0), .int .i64 ((rd_T24 l0 x5_1).f1), .int .i64 ((rd_T24 l0 x5_1).f2), .int .i64 ((rd_T24 l0 x5_1).f3), .int .i64 ((rd_T24 l0 x5_1).f4), .int .i64 ((rd_T24 l0 x5_1).f5), .bool ((rd_T24 l0 x5_1).f6), .bool ((rd_T24 l0 x5_1).f7), .slice A179_8 ((rd_T24 l0 x5_1).f8).length c179_8], .agg #[.int .i64 ((rd_T24 l1 x5_1).f0), .int .i64 ((rd_T24 l1 x5_1).f1), .int .i64 ((rd_T24 l1 x5_1).f2), .int .i64 ((rd_T24 l1 x5_1).f3), .int .i64 ((rd_T24 l1 x5_1).f4), .int .i64 ((rd_T24 l1 x5_1).f5), .bool ((rd_T24 l1 x5_1).f6), .bool ((rd_T24 l1 x5_1).f7), .slice A180_8 ((rd_T24 l1 x5_1).f8).length c180_8]] (by rfl) rfl rfl ar_ ?_
        with_reducible refine (laws_eqPacket.calls k1 ((rd_T24 l0 x5_1).f0) ((rd_T24 l0 x5_1).f1) ((rd_T24 l0 x5_1).f2) ((rd_T24 l0 x5_1).f3) ((rd_T24 l0 x5_1).f4) ((rd_T24 l0 x5_1).f5) ((rd_T24 l0 x5_1).f6) ((rd_T24 l0 x5_1).f7) _ _ ((rd_T24 l0 x5_1).f8) ((rd_T24 l1 x5_1).f0) ((rd_T24 l1 x5_1).f1) ((rd_T24 l1 x5_1).f2) ((rd_T24 l1 x5_1).f3) ((rd_T24 l1 x5_1).f4) ((rd_T24 l1 x5_1).f5) ((rd_T24 l1 x5_1).f6) ((rd_T24 l1 x5_1).f7) _ _ ((rd_T24 l1 x5_1).f8) true _ ?side1 ?side2 ?side3 ?side4 A7.out).mono ?_
        (case side1 => exact kC_ (Kd.C_below HR179_8.out HB.out))
        (case side2 => exact HC179_8.out)
        (case side3 => exact kC_ (Kd.C_below HR180_8.out HB.out))
        (case side4 => exact HC180_8.out)
        rintro e w10 ⟨rfl, hb⟩
        refine ⟨_, rfl, ?_⟩
        replace HB := (bs_ HB hb); (try clear hb); (try clear hb2); (try clear hk); (try clear hi)
        refine hK.out _ _ ⟨(by first | exact cc_ HB hw179_0 | exact cc_ ⟨hbA_ HB.out⟩ hw179_0), (by first | exact cc_ HB hw179_1 | exact cc_ ⟨hbA_ HB.out⟩ hw179_1), (by first | exact cc_ HB hw179_2 | exact cc_ ⟨hbA_ HB.out⟩ hw179_2), (by first | exact cc_ HB hw179_3 | exact cc_ ⟨hbA_ HB.out⟩ hw179_3), (by first | exact cc_ HB hw179_4 | exact cc_ ⟨hbA_ HB.out⟩ hw179_4), (by first | exact cc_ HB hw179_5 | exact cc_ ⟨hbA_ HB.out⟩ hw179_5), (by first | exact cc_ HB hw179_6 | exact cc_ ⟨hbA_ HB.out⟩ hw179_6), (by first | exact cc_ HB hw179_7 | exact cc_ ⟨hbA_ HB.out⟩ hw179_7), (by first | exact cc_ HB hw179_8 | exact cc_ ⟨hbA_ HB.out⟩ hw179_8), (by first | exact cc_ HB hw180_0 | exact cc_ ⟨hbA_ HB.out⟩ hw180_0), (by first | exact cc_ HB hw180_1 | exact cc_ ⟨hbA_ HB.out⟩ hw180_1), (by first | exact cc_ HB hw180_2 | exact cc_ ⟨hbA_ HB.out⟩ hw180_2), (by first | exact cc_ HB hw180_3 | exact cc_ ⟨hbA_ HB.out⟩ hw180_3), (by first | exact cc_ HB hw180_4 | exact cc_ ⟨hbA_ HB.out⟩ hw180_4), (by first | exact cc_ HB hw180_5 | exact cc_ ⟨hbA_ HB.out⟩ hw180_5), (by first | exact cc_ HB hw180_6 | exact cc_ ⟨hbA_ HB.out⟩ hw180_6), (by first | exact cc_ HB hw180_7 | exact cc_ ⟨hbA_ HB.out⟩ hw180_7), (by first | exact cc_ HB hw180_8 | exact cc_ ⟨hbA_ HB.out⟩ hw180_8)⟩ (fun hHeld => ?_)
        clear hK K; refine nm_ 25 ?_; refine pu_ (i := 9) (N := some 26) HT_ ?_
        refine done_ (done_of HT_.out (by kernel_rfl)) ?_
        try go_wp2
        go_roundg k1
        case measure => have := HK1.out; omega
        case rel => exact ⟨(wrap64 (x5_1 + 1)), (by first | rfl | (simp; done) | (simp [*]; done)), H', ⟨by have := HK1.out; omega⟩, ⟨hbA_ HB.out⟩⟩
       ·replace c8 := Bool.eq_false_iff.mpr c8
        subst c8
        rw [if_neg (show ¬ (false = true) by decide)] at H
        obtain rfl := Option.some.inj H
        try go_wp2
        replace HB := (bd_ HB)
        have p179 : 0 ≤ (x5_1 : Int) := of_decide_eq_true (by first | (with_reducible assumption) | assumption)
        have q179 : x5_1 < (l0.length : Int) := of_decide_eq_true (by first | (with_reducible assumption) | assumption)
        obtain ⟨ad179, A179_8, c179_8, e179, hx179_0, hx179_1, hx179_2, hx179_3, hx179_4, hx179_5, hx179_6, hx179_7, hx179_8, hl179_8, hi179_8⟩ := at_T24 HR0.out x5_1 p179 q179
        have hw179_8 := hx179_8; have hw179_7 := hx179_7; have hw179_6 := hx179_6; have hw179_5 := hx179_5; have hw179_4 := hx179_4; have hw179_3 := hx179_3; have hw179_2 := hx179_2; have hw179_1 := hx179_1; have hw179_0 := hx179_0
        cases e179
        replace hx179_0 := cc_ HB hx179_0
        replace hx179_1 := cc_ HB hx179_1
        replace hx179_2 := cc_ HB hx179_2
        replace hx179_3 := cc_ HB hx179_3
        replace hx179_4 := cc_ HB hx179_4
        replace hx179_5 := cc_ HB hx179_5
        replace hx179_6 := cc_ HB hx179_6
        replace hx179_7 := cc_ HB hx179_7
        replace hx179_8 := cc_ HB hx179_8
        have HR179_8 := Aside0.mk hi179_8; have HC179_8 := Aside0.mk hl179_8; clear hi179_8 hl179_8
        replace p179 := eq_true p179
        replace q179 := eq_true q179
        have p180 : 0 ≤ (x5_1 : Int) := of_decide_eq_true (by first | (with_reducible assumption) | assumption)
        have q180 : x5_1 < (l1.length : Int) := of_decide_eq_true (by first | (with_reducible assumption) | assumption)
        obtain ⟨ad180, A180_8, c180_8, e180, hx180_0, hx180_1, hx180_2, hx180_3, hx180_4, hx180_5, hx180_6, hx180_7, hx180_8, hl180_8, hi180_8⟩ := at_T24 HR1.out x5_1 p180 q180
        have hw180_8 := hx180_8; have hw180_7 := hx180_7; have hw180_6 := hx180_6; have hw180_5 := hx180_5; have hw180_4 := hx180_4; have hw180_3 := hx180_3; have hw180_2 := hx180_2; have hw180_1 := hx180_1; have hw180_0 := hx180_0
        cases e180
        replace hx180_0 := cc_ HB hx180_0
        replace hx180_1 := cc_ HB hx180_1
        replace hx180_2 := cc_ HB hx180_2
        replace hx180_3 := cc_ HB hx180_3
        replace hx180_4 := cc_ HB hx180_4
        replace hx180_5 := cc_ HB hx180_5
        replace hx180_6 := cc_ HB hx180_6
        replace hx180_7 := cc_ HB hx180_7
        replace hx180_8 := cc_ HB hx180_8
        have HR180_8 := Aside0.mk hi180_8; have HC180_8 := Aside0.mk hl180_8; clear hi180_8 hl180_8
        replace p180 := eq_true p180
        replace q180 := eq_true q180
        refine start_ (n := 10) (S := fun w' => w'.cell? (ad179.add ((x5_1).toNat * 9)) = some (.int .i64 ((rd_T24 l0 x5_1).f0)) ∧ w'.cell? ⟨(ad179.add ((x5_1).toNat * 9)).block, (ad179.add ((x5_1).toNat * 9)).off + 1, none⟩ = some (.int .i64 ((rd_T24 l0 x5_1).f1)) ∧ w'.cell? ⟨(ad179.add ((x5_1).toNat * 9)).block, (ad179.add ((x5_1).toNat * 9)).off + 2, none⟩ = some (.int .i64 ((rd_T24 l0 x5_1).f2)) ∧ w'.cell? ⟨(ad179.add ((x5_1).toNat * 9)).block, (ad179.add ((x5_1).toNat * 9)).off + 3, none⟩ = some (.int .i64 ((rd_T24 l0 x5_1).f3)) ∧ w'.cell? ⟨(ad179.add ((x5_1).toNat * 9)).block, (ad179.add ((x5_1).toNat * 9)).off + 4, none⟩ = some (.int .i64 ((rd_T24 l0 x5_1).f4)) ∧ w'.cell? ⟨(ad179.add ((x5_1).toNat * 9)).block, (ad179.add ((x5_1).toNat * 9)).off + 5, none⟩ = some (.int .i64 ((rd_T24 l0 x5_1).f5)) ∧ w'.cell? ⟨(ad179.add ((x5_1).toNat * 9)).block, (ad179.add ((x5_1).toNat * 9)).off + 6, none⟩ = some (.bool ((rd_T24 l0 x5_1).f6)) ∧ w'.cell? ⟨(ad179.add ((x5_1).toNat * 9)).block, (ad179.add ((x5_1).toNat * 9)).off + 7, none⟩ = some (.bool ((rd_T24 l0 x5_1).f7)) ∧ w'.cell? ⟨(ad179.add ((x5_1).toNat * 9)).block, (ad179.add ((x5_1).toNat * 9)).off + 8, none⟩ = some (.slice A179_8 ((rd_T24 l0 x5_1).f8).length c179_8) ∧ w'.cell? (ad180.add ((x5_1).toNat * 9)) = some (.int .i64 ((rd_T24 l1 x5_1).f0)) ∧ w'.cell? ⟨(ad180.add ((x5_1).toNat * 9)).block, (ad180.add ((x5_1).toNat * 9)).off + 1, none⟩ = some (.int .i64 ((rd_T24 l1 x5_1).f1)) ∧ w'.cell? ⟨(ad180.add ((x5_1).toNat * 9)).block, (ad180.add ((x5_1).toNat * 9)).off + 2, none⟩ = some (.int .i64 ((rd_T24 l1 x5_1).f2)) ∧ w'.cell? ⟨(ad180.add ((x5_1).toNat * 9)).block, (ad180.add ((x5_1).toNat * 9)).off + 3, none⟩ = some (.int .i64 ((rd_T24 l1 x5_1).f3)) ∧ w'.cell? ⟨(ad180.add ((x5_1).toNat * 9)).block, (ad180.add ((x5_1).toNat * 9)).off + 4, none⟩ = some (.int .i64 ((rd_T24 l1 x5_1).f4)) ∧ w'.cell? ⟨(ad180.add ((x5_1).toNat * 9)).block, (ad180.add ((x5_1).toNat * 9)).off + 5, none⟩ = some (.int .i64 ((rd_T24 l1 x5_1).f5)) ∧ w'.cell? ⟨(ad180.add ((x5_1).toNat * 9)).block, (ad180.add ((x5_1).toNat * 9)).off + 6, none⟩ = some (.bool ((rd_T24 l1 x5_1).f6)) ∧ w'.cell? ⟨(ad180.add ((x5_1).toNat * 9)).block, (ad180.add ((x5_1).toNat * 9)).off + 7, none⟩ = some (.bool ((rd_T24 l1 x5_1).f7)) ∧ w'.cell? ⟨(ad180.add ((x5_1).toNat * 9)).block, (ad180.add ((x5_1).toNat * 9)).off + 8, none⟩ = some (.slice A180_8 ((rd_T24 l1 x5_1).f8).length c180_8)) (ds := []) #[false, false, false, false, false, false, false, false, false, false] (by kernel_rfl) rfl rfl ⟨(cc_ HB hw179_0), (cc_ HB hw179_1), (cc_ HB hw179_2), (cc_ HB hw179_3), (cc_ HB hw179_4), (cc_ HB hw179_5), (cc_ HB hw179_6), (cc_ HB hw179_7), (cc_ HB hw179_8), (cc_ HB hw180_0), (cc_ HB hw180_1), (cc_ HB hw180_2), (cc_ HB hw180_3), (cc_ HB hw180_4), (cc_ HB hw180_5), (cc_ HB hw180_6), (cc_ HB hw180_7), (cc_ HB hw180_8)⟩ (fun hHeld => ?_); refine with_tabW laws_eqPacketS.tab6 laws_eqPacketS.bits6 (fun HT_ HW_ => ?_)
        generalize wr.drew = w11 at HB HR179_8 HR180_8 hx179_0 hx179_1 hx179_2 hx179_3 hx179_4 hx179_5 hx179_6 hx179_7 hx179_8 hx180_0 hx180_1 hx180_2 hx180_3 hx180_4 hx180_5 hx180_6 hx180_7 hx180_8 hHeld ⊢
        refine pu_ (i := 0) (N := some 17) HT_ ?_; refine pu_ (i := 1) (N := some 18) HT_ ?_; refine pu_ (i := 2) (N := some 19) HT_ ?_; refine pu_ (i := 4) (N := some 21) HT_ ?_; refine pu_ (i := 5) (N := some 22) HT_ ?_; refine pu_ (i := 6) (N := some 23) HT_ ?_; refine tk_ (i := 3) (N := some 20) HT_ HW_ hHeld ?_; refine tk_ (i := 7) (N := some 24) HT_ HW_ hHeld ?_
        refine on_ (i := 8) (N := some 25) HT_ (fun K hK => ?_)
        refine goes_ Try.func19 (by kernel_rfl) rfl #[.agg #[.int .i64 ((rd_T24 l0 x5_1).f0), .int .i64 ((rd_T24 l0 x5_1).f1), .int .i64 ((rd_T24 l0 x5_1).f2), .int .i64 ((rd_T24 l0 x5_1).f3), .int .i64 ((rd_T24 l0 x5_1).f4), .int .i64 ((rd_T24 l0 x5_1).f5), .bool ((rd_T24 l0 x5_1).f6), .bool ((rd_T24 l0 x5_1).f7), .slice A179_8 ((rd_T24 l0 x5_1).f8).length c179_8], .agg #[.int .i64 ((rd_T24 l1 x5_1).f0), .int .i64 ((rd_T24 l1 x5_1).f1), .int .i64 ((rd_T24 l1 x5_1).f2), .int .i64 ((rd_T24 l1 x5_1).f3), .int .i64 ((rd_T24 l1 x5_1).f4), .int .i64 ((rd_T24 l1 x5_1).f5), .bool ((rd_T24 l1 x5_1).f6), .bool ((rd_T24 l1 x5_1).f7), .slice A180_8 ((rd_T24 l1 x5_1).f8).length c180_8]] (by rfl) rfl rfl ar_ ?_
        with_reducible refine (laws_eqPacket.calls k1 ((rd_T24 l0 x5_1).f0) ((rd_T24 l0 x5_1).f1) ((rd_T24 l0 x5_1).f2) ((rd_T24 l0 x5_1).f3) ((rd_T24 l0 x5_1).f4) ((rd_T24 l0 x5_1).f5) ((rd_T24 l0 x5_1).f6) ((rd_T24 l0 x5_1).f7) _ _ ((rd_T24 l0 x5_1).f8) ((rd_T24 l1 x5_1).f0) ((rd_T24 l1 x5_1).f1) ((rd_T24 l1 x5_1).f2) ((rd_T24 l1 x5_1).f3) ((rd_T24 l1 x5_1).f4) ((rd_T24 l1 x5_1).f5) ((rd_T24 l1 x5_1).f6) ((rd_T24 l1 x5_1).f7) _ _ ((rd_T24 l1 x5_1).f8) false _ ?side1 ?side2 ?side3 ?side4 A7.out).mono ?_
        (case side1 => exact kC_ (Kd.C_below HR179_8.out HB.out))
        (case side2 => exact HC179_8.out)
        (case side3 => exact kC_ (Kd.C_below HR180_8.out HB.out))
        (case side4 => exact HC180_8.out)
        rintro e w12 ⟨rfl, hb⟩
        refine ⟨_, rfl, ?_⟩
        replace HB := (bs_ HB hb); (try clear hb); (try clear hb2); (try clear hk); (try clear hi)
        refine hK.out _ _ ⟨(by first | exact cc_ HB hw179_0 | exact cc_ ⟨hbA_ HB.out⟩ hw179_0), (by first | exact cc_ HB hw179_1 | exact cc_ ⟨hbA_ HB.out⟩ hw179_1), (by first | exact cc_ HB hw179_2 | exact cc_ ⟨hbA_ HB.out⟩ hw179_2), (by first | exact cc_ HB hw179_3 | exact cc_ ⟨hbA_ HB.out⟩ hw179_3), (by first | exact cc_ HB hw179_4 | exact cc_ ⟨hbA_ HB.out⟩ hw179_4), (by first | exact cc_ HB hw179_5 | exact cc_ ⟨hbA_ HB.out⟩ hw179_5), (by first | exact cc_ HB hw179_6 | exact cc_ ⟨hbA_ HB.out⟩ hw179_6), (by first | exact cc_ HB hw179_7 | exact cc_ ⟨hbA_ HB.out⟩ hw179_7), (by first | exact cc_ HB hw179_8 | exact cc_ ⟨hbA_ HB.out⟩ hw179_8), (by first | exact cc_ HB hw180_0 | exact cc_ ⟨hbA_ HB.out⟩ hw180_0), (by first | exact cc_ HB hw180_1 | exact cc_ ⟨hbA_ HB.out⟩ hw180_1), (by first | exact cc_ HB hw180_2 | exact cc_ ⟨hbA_ HB.out⟩ hw180_2), (by first | exact cc_ HB hw180_3 | exact cc_ ⟨hbA_ HB.out⟩ hw180_3), (by first | exact cc_ HB hw180_4 | exact cc_ ⟨hbA_ HB.out⟩ hw180_4), (by first | exact cc_ HB hw180_5 | exact cc_ ⟨hbA_ HB.out⟩ hw180_5), (by first | exact cc_ HB hw180_6 | exact cc_ ⟨hbA_ HB.out⟩ hw180_6), (by first | exact cc_ HB hw180_7 | exact cc_ ⟨hbA_ HB.out⟩ hw180_7), (by first | exact cc_ HB hw180_8 | exact cc_ ⟨hbA_ HB.out⟩ hw180_8)⟩ (fun hHeld => ?_)
        clear hK K; refine nm_ 25 ?_; refine pu_ (i := 9) (N := some 26) HT_ ?_
        refine done_ (done_of HT_.out (by kernel_rfl)) ?_
        try go_wp2
        go_ret
        exact ⟨by first | rfl | (simp [errW_none, errW_some] <;> rfl) | (simp [*, errW_none, errW_some] <;> rfl), hbA_ HB.out⟩
      ·rw [if_neg c6] at H
       exact absurd H (by simp)
     ·rw [if_neg c5] at H
      exact absurd H (by simp)
    ·rw [if_neg c4] at H
     have c4b0 : decide (x5_1 < (l0.length : Int)) = false := decide_eq_false c4
     clear c4
     obtain rfl := Option.some.inj H
     go_wp2
     go_ret
     exact ⟨by first | rfl | (simp [errW_none, errW_some] <;> rfl) | (simp [*, errW_none, errW_some] <;> rfl), hbA_ HB.out⟩
 ·rw [if_neg c3] at H
  have c3b0 : ((l0.length : Int) == (l1.length : Int)) = false := beq_eq_false_iff_ne.mpr c3
  have c3b1 : ((l0.length : Int) != (l1.length : Int)) = true := bne_iff_ne.mpr c3
  have c3b2 : (l0.length == l1.length) = false := by first | simpa using c3 | (simp at c3 ⊢; omega)
  obtain rfl := Option.some.inj H
  go_enter Try.func18, Try.ntmps18
  go_wp2
  go_ret
  exact ⟨by first | rfl | (simp [errW_none, errW_some] <;> rfl) | (simp [*, errW_none, errW_some] <;> rfl), hbA_ HB.out⟩
def laws_markByteS.l0 : Nat → List Int → Int → Int → Option (Int × List Int)
 | 0, _, _, _ => none
 | k + 1, x0, x1, x5 => if x5 < (x0.length : Int) then (if 0 ≤ x5 then (laws_markByteS.l0 k (x0.set (x5 : Int).toNat ((x1) % 256)) (wrap64 (x1 + 1)) (wrap64 (x5 + 1))) else (none)) else (some (x1, x0))
def laws_markByteS.f (k : Nat) (l0 : List Int) (a1 : Int) : Option (Int × List Int) := laws_markByteS.l0 k l0 a1 0
theorem laws_markByteS.mono_l : ∀ k, (∀ y0 y1 y2, LeO (laws_markByteS.l0 k y0 y1 y2) (laws_markByteS.l0 (k + 1) y0 y1 y2))
 | 0 => fun _ _ _ r h => by simp [laws_markByteS.l0] at h
 | k + 1 => by
  have ih0 := laws_markByteS.mono_l k
  ·intro y0 y1 y2
   unfold laws_markByteS.l0
   repeat' first | (with_reducible first | apply ih0 | exact LeO.refl _ | exact LeO.none _ | refine LeO.ite ?_ ?_ | refine LeO.bind ?_ fun _ => ?_) | apply ih0 | exact LeO.none _ | refine LeO.ite ?_ ?_ | refine LeO.bind ?_ fun _ => ?_
theorem laws_markByteS.mono : ∀ a0 a1 k, LeO (laws_markByteS.f k a0 a1) (laws_markByteS.f (k + 1) a0 a1) := by
 intro a0 a1 k
 have ih0 := laws_markByteS.mono_l k
 unfold laws_markByteS.f
 repeat' first | (with_reducible first | apply ih0 | exact LeO.refl _ | exact LeO.none _ | refine LeO.ite ?_ ?_ | refine LeO.bind ?_ fun _ => ?_) | apply ih0 | exact LeO.none _ | refine LeO.ite ?_ ?_ | refine LeO.bind ?_ fun _ => ?_
set_option maxHeartbeats 8000000 in
set_option maxRecDepth 100000 in
theorem laws_markByteS.calls (k : Nat) (P0_ : Nat → Prop) (u9000_ : Value) (l0 : List Int) (a1 : Int) (r1 : Int) (r2 : List Int) (w0 w : World) (hB : Below w0.heap.size w0 w) (ho0 : Kd.R (Kd.int .u8) 5 w w0.heap.size P0_ u9000_ l0) (h : laws_markByteS.f k l0 a1 = some (r1, r2)) :
  Calls Try.prog 31 #[u9000_, .int .i64 a1] w fun e w' => e = .returned (.int .i64 r1) ∧ Kd.R (Kd.int .u8) 5 w' w0.heap.size (fun k_ => (P0_ k_ ∨ w.heap.size ≤ k_)) u9000_ r2 ∧ Below w0.heap.size w0 w' ∧ Kept w w' (fun k_ => P0_ k_) := by
 have HO0 := Aside0.mk (show Kd.R (Kd.int .u8) 5 w w0.heap.size (fun k_ => (P0_ k_ ∨ w.heap.size ≤ k_)) u9000_ l0 from Kd.R_mono ho0 (fun k_ hk => (.inl hk)))
 have HK := Aside0.mk (Kept.refl w (fun k_ => P0_ k_))
 have HW0 := Aside0.mk hB.size; have HB := Aside0.mk hB; clear hB
 have H : (laws_markByteS.l0 k l0 a1 0) = some (r1, r2) := h
 clear h
 have H' := Aside0.mk H
 clear H
 go_enter Try.func31, Try.ntmps31
 go_wp2
 go_loopg [1, 5] k (fun kq v1 v5 w' => ∃ (x0_1 : List Int) (x1_1 : Int) (x5_1 : Int), v1 = .int .i64 x1_1 ∧ v5 = .int .i64 x5_1 ∧ Aside0 (laws_markByteS.l0 kq x0_1 x1_1 x5_1 = some (r1, r2)) ∧ Aside0 (kq ≤ k) ∧ Aside0 (Kd.R (Kd.int .u8) 5 w' w0.heap.size (fun k_ => (P0_ k_ ∨ w.heap.size ≤ k_)) u9000_ x0_1) ∧ Aside0 (Kept w w' (fun k_ => P0_ k_)) ∧ Aside0 (Below w0.heap.size w0 w'))
 case atStart => exact ⟨(l0), (a1), (0), (by first | rfl | (simp; done) | (simp [*]; done)), (by first | rfl | (simp; done) | (simp [*]; done)), H', ⟨Nat.le_refl _⟩, ⟨kR_ HO0.out⟩, ⟨by repeat (first | (with_reducible first | exact HK.out | apply Kept.alloc | apply Kept.drewN | apply Kept.drew) | exact HK.out)⟩, ⟨hbA_ HB.out⟩⟩
 case round =>
  clear H'; (try clear p2)
  obtain ⟨x0_1, x1_1, x5_1, rfl, rfl, HA, HK1, HO_0, HK, HB⟩ := hrel
  cases gk with
  | zero => exact absurd HA.out (by simp [laws_markByteS.l0])
  | succ k1 =>
   have H := HA.out; clear HA
   simp only [laws_markByteS.l0] at H
   by_cases c3 : x5_1 < (x0_1.length : Int)
   ·rw [if_pos c3] at H
    have c3b0 : decide (x5_1 < (x0_1.length : Int)) = true := decide_eq_true c3
    clear c3
    by_cases c4 : 0 ≤ x5_1
    ·rw [if_pos c4] at H
     have c4b0 : decide (0 ≤ x5_1) = true := decide_eq_true c4
     clear c4
     obtain ⟨y182, hy182⟩ : ∃ y_ : List Int, y_ = (x0_1.set (x5_1 : Int).toNat ((x1_1) % 256)) := ⟨_, rfl⟩
     (first | replace H := sb_ hy182 H | rw [← hy182] at H)
     have Ny182 := Aside0.mk hy182; clear hy182
     have H' := Aside0.mk H
     clear H
     obtain ⟨Ao6, co6, eo6⟩ := Kd.R_slice HO_0.out
     subst eo6
     have p5 : 0 ≤ (x5_1 : Int) := of_decide_eq_true (by first | (with_reducible assumption) | assumption)
     have q5 : (x5_1 : Int) < ((x0_1.length : Int) : Int) := of_decide_eq_true (by first | (with_reducible assumption) | assumption)
     obtain ⟨go5, co5, eo5, gb5, gl5, cl5, HG5⟩ := Kd.R_form HO_0.out (by omega)
     (first | cases eo5 | (injection eo5 with ea_ en_ ec_; (first | subst ea_ | (injection ea_ with ea_; subst ea_)); subst ec_; clear en_))
     have GB5 := Aside0.mk gb5; have GG5 := Aside0.mk HG5; clear gb5 gl5 HG5
     have HMgo5 := Aside0.mk (show (P0_ go5 ∨ w.heap.size ≤ go5) from (HO_0.out.1 _ rfl))
     obtain ⟨hx5_0, hf5_0⟩ := Kd.R_celln 0 HO_0.out (x5_1 : Int) p5 q5
     replace p5 := eq_true p5
     replace q5 := eq_true q5
     have HP7 := Kd.R_putg HO_0.out (x5_1 : Int) ((x1_1) % 256)
     go_wp2_with (first | ((with_reducible refine gate_store (t := 5) (p := 16) rfl ?_); refine store_event (t := 5) (p := 16) (v := ?vo_w8) (w1 := (wr.setCell ⟨go5, (x5_1 : Int).toNat, none⟩ (.int .u8 ((x1_1) % 256)))) ?hg ?ho ?hn ?hr ?_; (case ho => rfl); (case hg => rfl); (case hn => rfl); (case hr => first | (go_simp; done) | (go_simp; rfl)); intro w8 hw; have hg : wr.grownBy w8 (some go5) := (by rw [hw]; exact HP7.2); have hp_ : Kd.R (Kd.int .u8) 5 w8 w0.heap.size (fun k_ => (P0_ k_ ∨ w.heap.size ≤ k_)) (.slice (some ⟨go5, 0, none⟩) x0_1.length co6) y182 := (by rw [hw, Ny182.out]; exact HP7.1); clear HP7; replace HB := Aside0.mk ((by rw [hw]; exact below_set (HB.out) GB5.out : Below w0.heap.size w0 w8)); replace HK := Aside0.mk (Kept.of_grown (S := (fun k_ => P0_ k_)) hg (by repeat (first | (with_reducible first | exact HK.out | apply Kept.alloc | apply Kept.drewN | apply Kept.drew) | exact HK.out)) (fun k_ e_ => (HO_0.out.1 k_ e_))); replace HO_0 := Aside0.mk (hp_); clear hg hw hp_))
     go_roundg k1
     case measure => have := HK1.out; omega
     case rel => exact ⟨(y182), (wrap64 (x1_1 + 1)), (wrap64 (x5_1 + 1)), (by first | rfl | (simp; done) | (simp [*]; done)), (by first | rfl | (simp; done) | (simp [*]; done)), H', ⟨by have := HK1.out; omega⟩, ⟨kR_ HO_0.out⟩, ⟨by repeat (first | (with_reducible first | exact HK.out | apply Kept.alloc | apply Kept.drewN | apply Kept.drew) | exact HK.out)⟩, ⟨hbA_ HB.out⟩⟩
    ·rw [if_neg c4] at H
     exact absurd H (by simp)
   ·rw [if_neg c3] at H
    have c3b0 : decide (x5_1 < (x0_1.length : Int)) = false := decide_eq_false c3
    clear c3
    simp only [Option.some.injEq, Prod.mk.injEq] at H
    obtain ⟨rfl, rfl⟩ := H
    obtain ⟨Ao9, co9, eo9⟩ := Kd.R_slice HO_0.out
    subst eo9
    go_wp2
    go_ret
    exact ⟨by first | rfl | (simp [errW_none, errW_some] <;> rfl) | (simp [*, errW_none, errW_some] <;> rfl), kR_ HO_0.out, hbA_ HB.out, by repeat (first | (with_reducible first | exact HK.out | apply Kept.alloc | apply Kept.drewN | apply Kept.drew) | exact HK.out)⟩
def laws_markPacket.f (k : Nat) (a0_0 : Int) (a0_1 : Int) (a0_2 : Int) (a0_3 : Int) (a0_4 : Int) (a0_5 : Int) (a0_6 : Bool) (a0_7 : Bool) (l0_8 : List Int) (a1 : Int) : Option (Int × List Int) := (laws_markByteS.f k l0_8 a1).bind fun bt184 => (some (bt184.1, bt184.2))
theorem laws_markPacket.mono : ∀ a0 a1 a2 a3 a4 a5 a6 a7 a8 a9 k, LeO (laws_markPacket.f k a0 a1 a2 a3 a4 a5 a6 a7 a8 a9) (laws_markPacket.f (k + 1) a0 a1 a2 a3 a4 a5 a6 a7 a8 a9) := by
 intro a0 a1 a2 a3 a4 a5 a6 a7 a8 a9 k
 unfold laws_markPacket.f
 repeat' first | (with_reducible first | apply laws_markByteS.mono | exact LeO.refl _ | exact LeO.none _ | refine LeO.ite ?_ ?_ | refine LeO.bind ?_ fun _ => ?_) | apply laws_markByteS.mono | exact LeO.none _ | refine LeO.ite ?_ ?_ | refine LeO.bind ?_ fun _ => ?_
set_option maxHeartbeats 8000000 in
set_option maxRecDepth 100000 in
theorem laws_markPacket.calls (k : Nat) (a0_0 : Int) (a0_1 : Int) (a0_2 : Int) (a0_3 : Int) (a0_4 : Int) (a0_5 : Int) (a0_6 : Bool) (a0_7 : Bool) (P0_8_ : Nat → Prop) (u9000_ : Value) (l0_8 : List Int) (a1 : Int) (r1 : Int) (r2 : List Int) (w0 w : World) (hB : Below w0.heap.size w0 w) (ho0_8 : Kd.R (Kd.int .u8) 5 w w0.heap.size P0_8_ u9000_ l0_8) (h : laws_markPacket.f k a0_0 a0_1 a0_2 a0_3 a0_4 a0_5 a0_6 a0_7 l0_8 a1 = some (r1, r2)) :
  Calls Try.prog 20 #[.agg #[.int .i64 a0_0, .int .i64 a0_1, .int .i64 a0_2, .int .i64 a0_3, .int .i64 a0_4, .int .i64 a0_5, .bool a0_6, .bool a0_7, u9000_], .int .i64 a1] w fun e w' => e = .returned (.int .i64 r1) ∧ Kd.R (Kd.int .u8) 5 w' w0.heap.size (fun k_ => (P0_8_ k_ ∨ w.heap.size ≤ k_)) u9000_ r2 ∧ Below w0.heap.size w0 w' ∧ Kept w w' (fun k_ => P0_8_ k_) := by
 have hu24 := Try.underlying24
 have HO0_8 := Aside0.mk (show Kd.R (Kd.int .u8) 5 w w0.heap.size (fun k_ => (P0_8_ k_ ∨ w.heap.size ≤ k_)) u9000_ l0_8 from Kd.R_mono ho0_8 (fun k_ hk => (.inl hk)))
 have HK := Aside0.mk (Kept.refl w (fun k_ => P0_8_ k_))
 have HW0 := Aside0.mk hB.size; have HB := Aside0.mk hB; clear hB
 have H : ((laws_markByteS.f k l0_8 a1).bind fun bt184 => (some (bt184.1, bt184.2))) = some (r1, r2) := h
 clear h
 replace H := Option.bind_eq_some_iff.mp H
 obtain ⟨⟨t184, t185⟩, A30, H⟩ := H
 (try dsimp only at H)
 have A3 := Aside0.mk A30; clear A30
 simp only [Option.some.injEq, Prod.mk.injEq] at H
 obtain ⟨rfl, rfl⟩ := H
 obtain ⟨Ao4, co4, eo4⟩ := Kd.R_slice HO0_8.out
 subst eo4
 go_enter Try.func20, Try.ntmps20
 go_wp2_with (first | ((with_reducible refine gate_dst (N := 2) rfl ?_); refine box_ (N := 2) (cs := #[.int .i64 a0_0, .int .i64 a0_1, .int .i64 a0_2, .int .i64 a0_3, .int .i64 a0_4, .int .i64 a0_5, .bool a0_6, .bool a0_7, .slice Ao4 l0_8.length co4]) (t := 24) (fun gb183 hg w5 hbox hb => ?_); replace HO0_8 := Aside0.mk (Kd.R_below (kR_ HO0_8.out) hb); have BK183 := Aside0.mk (hbox); have GW183 := Aside0.mk ((by rw [hg]; exact (by first | exact HK.out.1 | exact (show Kept w _ (fun k_ => P0_8_ k_) from by repeat (first | (with_reducible first | exact HK.out | apply Kept.alloc | apply Kept.drewN | apply Kept.drew) | exact HK.out)).1) : w.heap.size ≤ gb183)); replace HK := Aside0.mk (Kept.below (S := (fun k_ => P0_8_ k_)) (by repeat (first | (with_reducible first | exact HK.out | apply Kept.alloc | apply Kept.drewN | apply Kept.drew) | exact HK.out)) hb); have GE183 := ge_ hg HB; replace HB := (bs_ HB hb); clear hb hbox hg; have Z6 := zz9 BK183) | ((with_reducible refine gate_callee (f := 31) rfl ?_); refine goesL_ (some 8) rfl rfl Try.func31 (by kernel_rfl) rfl #[.slice Ao4 l0_8.length co4, .int .i64 a1] rfl ar_ ?_; (with_reducible refine (laws_markByteS.calls k (fun k_ => some k_ = (.slice Ao4 l0_8.length co4 : Value).ownBlock) (.slice Ao4 l0_8.length co4) l0_8 a1 t184 t185 w0 _ ?side1 ?side2 A3.out).mono ?_); (case side1 => exact hbA_ HB.out); (case side2 => exact Kd.R_tight rfl HO0_8.out); rintro e w7 ⟨rfl, hy0, hb, hkp⟩; refine ⟨_, rfl, ?_⟩; replace BK183 := Aside0.mk (blk_kept (g := gb183) (o := .cells #[.int .i64 a0_0, .int .i64 a0_1, .int .i64 a0_2, .int .i64 a0_3, .int .i64 a0_4, .int .i64 a0_5, .bool a0_6, .bool a0_7, .slice Ao4 l0_8.length co4] 24 (0, 0)) (kb_ BK183.out) hkp (fun hs_ => (fun e_ => (Kd.R_ne HO0_8.out BK183.out (by decide)) e_) hs_)); replace HK := Aside0.mk (Kept.then_ (S := (fun k_ => P0_8_ k_)) (by repeat (first | (with_reducible first | exact HK.out | apply Kept.alloc | apply Kept.drewN | apply Kept.drew | refine Kept.setCell ?_ (.inr GW183.out) _) | exact HK.out)) hkp (fun k_ hs_ => (fun e_ => (HO0_8.out.1 k_ e_.symm)) hs_)); replace HO0_8 := Aside0.mk (Kd.R_reok rfl hy0 (fun k_ e_ => HO0_8.out.1 k_ e_)); replace HB := Aside0.mk (hb); (try clear hb); (try clear hkp); (try clear hy0)))
 go_ret
 exact ⟨by first | rfl | (simp [errW_none, errW_some] <;> rfl) | (simp [*, errW_none, errW_some] <;> rfl), kR_ HO0_8.out, hbA_ HB.out, by repeat (first | (with_reducible first | exact HK.out | apply Kept.alloc | apply Kept.drewN | apply Kept.drew | refine Kept.setCell ?_ (.inr GW183.out) _) | exact HK.out)⟩
def laws_markPacketS.l0 : Nat → List S24 → Int → Int → Option (Int × List S24)
  | 0, _, _, _ => none
  | k + 1, x0, x1, x5 => if x5 < (x0.length : Int) then (if 0 ≤ x5 then ((laws_markByteS.f k (rd_T24 x0 x5).f8 (wrap64 ((wrap64 ((wrap64 ((wrap64 ((wrap64 ((wrap64 ((wrap64 ((wrap64 (x1 + 1)) + 1)) + 1)) + 1)) + 1)) + 1)) + 1)) + 1))).bind fun t => laws_markPacketS.l0 k (x0.set x5.toNat (⟨(x1), ((wrap64 (x1 + 1))), ((wrap64 ((wrap64 (x1 + 1)) + 1))), ((wrap64 ((wrap64 ((wrap64 (x1 + 1)) + 1)) + 1))), ((wrap64 ((wrap64 ((wrap64 ((wrap64 (x1 + 1)) + 1)) + 1)) + 1))), ((wrap64 ((wrap64 ((wrap64 ((wrap64 ((wrap64 (x1 + 1)) + 1)) + 1)) + 1)) + 1))), (decide (Int.tmod (wrap64 ((wrap64 ((wrap64 ((wrap64 ((wrap64 ((wrap64 (x1 + 1)) + 1)) + 1)) + 1)) + 1)) + 1)) 3 = 0)), (decide (Int.tmod (wrap64 ((wrap64 ((wrap64 ((wrap64 ((wrap64 ((wrap64 ((wrap64 (x1 + 1)) + 1)) + 1)) + 1)) + 1)) + 1)) + 1)) 3 = 0)), t.2⟩ : S24)) t.1 (wrap64 (x5 + 1))) else none) else (some (x1, x0))
def laws_markPacketS.f (k : Nat) (l0 : List S24) (a1 : Int) : Option (Int × List S24) := laws_markPacketS.l0 k l0 a1 0
theorem laws_markPacketS.mono_l : ∀ k, (∀ y0 y1 y2, LeO (laws_markPacketS.l0 k y0 y1 y2) (laws_markPacketS.l0 (k + 1) y0 y1 y2))
  | 0 => fun _ _ _ r h => by simp [laws_markPacketS.l0] at h
  | k + 1 => by
    have ih0 := laws_markPacketS.mono_l k
    · intro y0 y1 y2
      unfold laws_markPacketS.l0
      repeat' first
      | (with_reducible exact ih0 _ _ _)
      | (with_reducible exact laws_markByteS.mono _ _ _)
      | (with_reducible exact LeO.refl _)
      | (with_reducible exact LeO.none _)
      | (with_reducible refine LeO.ite ?_ ?_)
      | (with_reducible refine LeO.bind ?_ (fun _ => ?_))
      | exact ih0 _ _ _
      | exact laws_markByteS.mono _ _ _
      | exact LeO.none _
      | refine LeO.ite ?_ ?_
      | refine LeO.bind ?_ (fun _ => ?_)
theorem laws_markPacketS.mono : ∀ a0 a1 k, LeO (laws_markPacketS.f k a0 a1) (laws_markPacketS.f (k + 1) a0 a1) := by
  intro a0 a1 k
  have ih0 := laws_markPacketS.mono_l k
  unfold laws_markPacketS.f
  repeat' first
      | (with_reducible exact ih0 _ _ _)
      | (with_reducible exact laws_markByteS.mono _ _ _)
      | (with_reducible exact LeO.refl _)
      | (with_reducible exact LeO.none _)
      | (with_reducible refine LeO.ite ?_ ?_)
      | (with_reducible refine LeO.bind ?_ (fun _ => ?_))
      | exact ih0 _ _ _
      | exact laws_markByteS.mono _ _ _
      | exact LeO.none _
      | refine LeO.ite ?_ ?_
      | refine LeO.bind ?_ (fun _ => ?_)
set_option maxHeartbeats 8000000 in
set_option maxRecDepth 100000 in
theorem laws_markPacketS.calls (k : Nat) (P0_ : Nat → Prop) (u9000_ : Value) (l0 : List S24) (a1 : Int) (r1 : Int) (r2 : List S24) (w0 w : World) (hB : Below w0.heap.size w0 w) (ho0 : Kd.S k24 24 w w0.heap.size P0_ u9000_ l0) (h : laws_markPacketS.f k l0 a1 = some (r1, r2)) :
    Calls Try.prog 21 #[u9000_, .int .i64 a1] w fun e w' => e = .returned (.int .i64 r1) ∧ Kd.S k24 24 w' w0.heap.size P0_ u9000_ r2 ∧ Below w0.heap.size w0 w' ∧ Kept w w' (fun k_ => P0_ k_) := by
  have HO0 := Aside0.mk ho0; clear ho0
  have HK := Aside0.mk (Kept.refl w (fun k_ => P0_ k_))
  have HB := Aside0.mk hB; clear hB
  have H' := Aside0.mk (show laws_markPacketS.l0 k l0 a1 0 = some (r1, r2) from h)
  clear h
  go_enter Try.func21, Try.ntmps21
  go_wp2
  go_loopg [1, 5] k (fun kq v1 v5 w' => ∃ (x0_1 : List S24) (x1_1 : Int) (x5_1 : Int), v1 = .int .i64 x1_1 ∧ v5 = .int .i64 x5_1 ∧ Aside0 (laws_markPacketS.l0 kq x0_1 x1_1 x5_1 = some (r1, r2)) ∧ Aside0 (kq ≤ k) ∧ Aside0 (Kd.S k24 24 w' w0.heap.size P0_ u9000_ x0_1) ∧ Aside0 (Kept w w' (fun k_ => P0_ k_)) ∧ Aside0 (Below w0.heap.size w0 w'))
  case atStart => exact ⟨l0, a1, 0, (by first | rfl | (simp; done) | (simp [*]; done)), (by first | rfl | (simp; done) | (simp [*]; done)), H', ⟨Nat.le_refl _⟩, ⟨kS_ HO0.out⟩, ⟨by repeat (first | (with_reducible first | exact HK.out | apply Kept.alloc | apply Kept.drewN | apply Kept.drew) | exact HK.out)⟩, ⟨hbA_ HB.out⟩⟩
  case round =>
    clear H'; (try clear p2)
    obtain ⟨x0_1, x1_1, x5_1, rfl, rfl, HA, HK1, HO_0, HK, HB⟩ := hrel
    cases gk with
    | zero => exact absurd HA.out (by simp [laws_markPacketS.l0])
    | succ k1 =>
      have H := HA.out; clear HA
      simp only [laws_markPacketS.l0] at H
      by_cases c3 : x5_1 < (x0_1.length : Int)
      · rw [if_pos c3] at H
        have c3b0 : decide (x5_1 < (x0_1.length : Int)) = true := decide_eq_true c3
        by_cases c4 : 0 ≤ x5_1
        · rw [if_pos c4] at H
          have c4b0 : decide (0 ≤ x5_1) = true := decide_eq_true c4
          replace H := Option.bind_eq_some_iff.mp H
          obtain ⟨⟨t1, t2⟩, A20, H⟩ := H
          have A2 := Aside0.mk A20; clear A20
          have H' := Aside0.mk H
          clear H
          obtain ⟨Ao6, co6, eo6⟩ := Kd.S_slice HO_0.out
          subst eo6
          have p5 : 0 ≤ (x5_1 : Int) := c4
          have q5 : (x5_1 : Int) < ((x0_1.length : Nat) : Int) := c3
          have P5 := Aside0.mk p5
          have Q5 := Aside0.mk q5
          clear c3 c4
          obtain ⟨go5, co5, eo5, gb5, gl5, cl5, HG5⟩ := Kd.S_form HO_0.out (by omega)
          (first | cases eo5 | (injection eo5 with ea_ en_ ec_; (first | subst ea_ | (injection ea_ with ea_; subst ea_)); subst ec_; clear en_))
          have GB5 := Aside0.mk gb5; clear gb5 gl5 HG5
          have HMgo5 := Aside0.mk (show P0_ go5 from (Kd.S_R HO_0.out).1 _ rfl)
          have HS0 := Aside0.mk (show Kd.S k24 24 wr w0.heap.size P0_ (.slice (some ⟨go5, 0, none⟩) x0_1.length co6) (x0_1.set x5_1.toNat (rd_T24 x0_1 x5_1)) from Kd.S_start HO_0.out z24 x5_1)
          clear HO_0
          obtain ⟨ok0_, c0_, hM0_, hc0_, hf0_, hk0_, hb0_⟩ := Kd.S_cells HS0.out P5.out Q5.out
          obtain ⟨ve0_, rfl, ge0_⟩ := k24_openM hM0_
          have hx0 := hc0_ 0 _ rfl
          have hf0 := hf0_ 0
          (try simp only [show k24.sz = 9 from rfl, Nat.add_zero] at hx0 hf0)
          clear hM0_ hc0_ hf0_ hk0_ hb0_ ge0_
          replace p5 := eq_true p5
          replace q5 := eq_true q5
          have HP0 := Kd.S_put1 HS0.out P5.out Q5.out 0 (.int .i64 x1_1) (by decide) (⟨(x1_1), (rd_T24 x0_1 x5_1).f1, (rd_T24 x0_1 x5_1).f2, (rd_T24 x0_1 x5_1).f3, (rd_T24 x0_1 x5_1).f4, (rd_T24 x0_1 x5_1).f5, (rd_T24 x0_1 x5_1).f6, (rd_T24 x0_1 x5_1).f7, (rd_T24 x0_1 x5_1).f8⟩ : S24) (fun hM_ => by obtain ⟨v1, rfl, g1⟩ := k24_openM hM_; exact k24_mkM _ _ _ (⟨(x1_1), (rd_T24 x0_1 x5_1).f1, (rd_T24 x0_1 x5_1).f2, (rd_T24 x0_1 x5_1).f3, (rd_T24 x0_1 x5_1).f4, (rd_T24 x0_1 x5_1).f5, (rd_T24 x0_1 x5_1).f6, (rd_T24 x0_1 x5_1).f7, (rd_T24 x0_1 x5_1).f8⟩ : S24) g1)
          (try simp only [show k24.sz = 9 from rfl, Nat.add_zero] at HP0)
          go_wp2_with (first | ((with_reducible refine gate_store (t := 3) (p := 16) rfl ?_); refine store_event (t := 3) (p := 16) (v := ?vo_w8) (w1 := (wr.setCell ⟨go5, (x5_1 : Int).toNat * 9, none⟩ (.int .i64 x1_1))) ?hg ?ho ?hn ?hr ?_; (case ho => rfl); (case hg => rfl); (case hn => rfl); (case hr => first | (go_simp; done) | (go_simp; rfl)); intro w8 hw; have hg : wr.grownBy w8 (some go5) := (by rw [hw]; exact HP0.2); have HS1 : Aside0 (Kd.S k24 24 w8 w0.heap.size P0_ (.slice (some ⟨go5, 0, none⟩) x0_1.length co6) (x0_1.set x5_1.toNat (⟨(x1_1), (rd_T24 x0_1 x5_1).f1, (rd_T24 x0_1 x5_1).f2, (rd_T24 x0_1 x5_1).f3, (rd_T24 x0_1 x5_1).f4, (rd_T24 x0_1 x5_1).f5, (rd_T24 x0_1 x5_1).f6, (rd_T24 x0_1 x5_1).f7, (rd_T24 x0_1 x5_1).f8⟩ : S24))) := ⟨by rw [hw]; exact HP0.1⟩; clear HP0; replace HB := Aside0.mk ((by rw [hw]; exact below_set (HB.out) GB5.out : Below w0.heap.size w0 w8)); replace HK := Aside0.mk (Kept.of_grown (S := (fun k_ => P0_ k_)) hg (by repeat (first | (with_reducible first | exact HK.out | apply Kept.alloc | apply Kept.drewN | apply Kept.drew) | exact HK.out)) (fun k_ e_ => .inl (by injection e_ with e_; subst e_; exact HMgo5.out))); clear hg hw HS0 hx0 hf0; obtain ⟨ok0_, c0_, hM0_, hc0_, hf0_, hk0_, hb0_⟩ := Kd.S_cells HS1.out P5.out Q5.out; obtain ⟨ve0_, rfl, ge0_⟩ := k24_openM hM0_; have hx0 := hc0_ 1 _ rfl; have hf0 := hf0_ 1; (try simp only [show k24.sz = 9 from rfl, Nat.add_zero] at hx0 hf0); clear hM0_ hc0_ hf0_ hk0_ hb0_ ge0_; have HP1 := Kd.S_put1 HS1.out P5.out Q5.out 1 (.int .i64 (wrap64 (x1_1 + 1))) (by decide) (⟨(x1_1), ((wrap64 (x1_1 + 1))), (rd_T24 x0_1 x5_1).f2, (rd_T24 x0_1 x5_1).f3, (rd_T24 x0_1 x5_1).f4, (rd_T24 x0_1 x5_1).f5, (rd_T24 x0_1 x5_1).f6, (rd_T24 x0_1 x5_1).f7, (rd_T24 x0_1 x5_1).f8⟩ : S24) (fun hM_ => by obtain ⟨v1, rfl, g1⟩ := k24_openM hM_; exact k24_mkM _ _ _ (⟨(x1_1), ((wrap64 (x1_1 + 1))), (rd_T24 x0_1 x5_1).f2, (rd_T24 x0_1 x5_1).f3, (rd_T24 x0_1 x5_1).f4, (rd_T24 x0_1 x5_1).f5, (rd_T24 x0_1 x5_1).f6, (rd_T24 x0_1 x5_1).f7, (rd_T24 x0_1 x5_1).f8⟩ : S24) g1); (try simp only [show k24.sz = 9 from rfl, Nat.add_zero] at HP1)) | ((with_reducible refine gate_store (t := 3) (p := 23) rfl ?_); refine store_event (t := 3) (p := 23) (v := ?vo_w9) (w1 := (w8.setCell ⟨go5, (x5_1 : Int).toNat * 9 + 1, none⟩ (.int .i64 (wrap64 (x1_1 + 1))))) ?hg ?ho ?hn ?hr ?_; (case ho => rfl); (case hg => rfl); (case hn => rfl); (case hr => first | (go_simp; done) | (go_simp; rfl)); intro w9 hw; have hg : w8.grownBy w9 (some go5) := (by rw [hw]; exact HP1.2); have HS2 : Aside0 (Kd.S k24 24 w9 w0.heap.size P0_ (.slice (some ⟨go5, 0, none⟩) x0_1.length co6) (x0_1.set x5_1.toNat (⟨(x1_1), ((wrap64 (x1_1 + 1))), (rd_T24 x0_1 x5_1).f2, (rd_T24 x0_1 x5_1).f3, (rd_T24 x0_1 x5_1).f4, (rd_T24 x0_1 x5_1).f5, (rd_T24 x0_1 x5_1).f6, (rd_T24 x0_1 x5_1).f7, (rd_T24 x0_1 x5_1).f8⟩ : S24))) := ⟨by rw [hw]; exact HP1.1⟩; clear HP1; replace HB := Aside0.mk ((by rw [hw]; exact below_set (HB.out) GB5.out : Below w0.heap.size w0 w9)); replace HK := Aside0.mk (Kept.of_grown (S := (fun k_ => P0_ k_)) hg (by repeat (first | (with_reducible first | exact HK.out | apply Kept.alloc | apply Kept.drewN | apply Kept.drew) | exact HK.out)) (fun k_ e_ => .inl (by injection e_ with e_; subst e_; exact HMgo5.out))); clear hg hw HS1 hx0 hf0; obtain ⟨ok0_, c0_, hM0_, hc0_, hf0_, hk0_, hb0_⟩ := Kd.S_cells HS2.out P5.out Q5.out; obtain ⟨ve0_, rfl, ge0_⟩ := k24_openM hM0_; have hx0 := hc0_ 2 _ rfl; have hf0 := hf0_ 2; (try simp only [show k24.sz = 9 from rfl, Nat.add_zero] at hx0 hf0); clear hM0_ hc0_ hf0_ hk0_ hb0_ ge0_; have HP2 := Kd.S_put1 HS2.out P5.out Q5.out 2 (.int .i64 (wrap64 ((wrap64 (x1_1 + 1)) + 1))) (by decide) (⟨(x1_1), ((wrap64 (x1_1 + 1))), ((wrap64 ((wrap64 (x1_1 + 1)) + 1))), (rd_T24 x0_1 x5_1).f3, (rd_T24 x0_1 x5_1).f4, (rd_T24 x0_1 x5_1).f5, (rd_T24 x0_1 x5_1).f6, (rd_T24 x0_1 x5_1).f7, (rd_T24 x0_1 x5_1).f8⟩ : S24) (fun hM_ => by obtain ⟨v1, rfl, g1⟩ := k24_openM hM_; exact k24_mkM _ _ _ (⟨(x1_1), ((wrap64 (x1_1 + 1))), ((wrap64 ((wrap64 (x1_1 + 1)) + 1))), (rd_T24 x0_1 x5_1).f3, (rd_T24 x0_1 x5_1).f4, (rd_T24 x0_1 x5_1).f5, (rd_T24 x0_1 x5_1).f6, (rd_T24 x0_1 x5_1).f7, (rd_T24 x0_1 x5_1).f8⟩ : S24) g1); (try simp only [show k24.sz = 9 from rfl, Nat.add_zero] at HP2)) | ((with_reducible refine gate_store (t := 3) (p := 30) rfl ?_); refine store_event (t := 3) (p := 30) (v := ?vo_w10) (w1 := (w9.setCell ⟨go5, (x5_1 : Int).toNat * 9 + 2, none⟩ (.int .i64 (wrap64 ((wrap64 (x1_1 + 1)) + 1))))) ?hg ?ho ?hn ?hr ?_; (case ho => rfl); (case hg => rfl); (case hn => rfl); (case hr => first | (go_simp; done) | (go_simp; rfl)); intro w10 hw; have hg : w9.grownBy w10 (some go5) := (by rw [hw]; exact HP2.2); have HS3 : Aside0 (Kd.S k24 24 w10 w0.heap.size P0_ (.slice (some ⟨go5, 0, none⟩) x0_1.length co6) (x0_1.set x5_1.toNat (⟨(x1_1), ((wrap64 (x1_1 + 1))), ((wrap64 ((wrap64 (x1_1 + 1)) + 1))), (rd_T24 x0_1 x5_1).f3, (rd_T24 x0_1 x5_1).f4, (rd_T24 x0_1 x5_1).f5, (rd_T24 x0_1 x5_1).f6, (rd_T24 x0_1 x5_1).f7, (rd_T24 x0_1 x5_1).f8⟩ : S24))) := ⟨by rw [hw]; exact HP2.1⟩; clear HP2; replace HB := Aside0.mk ((by rw [hw]; exact below_set (HB.out) GB5.out : Below w0.heap.size w0 w10)); replace HK := Aside0.mk (Kept.of_grown (S := (fun k_ => P0_ k_)) hg (by repeat (first | (with_reducible first | exact HK.out | apply Kept.alloc | apply Kept.drewN | apply Kept.drew) | exact HK.out)) (fun k_ e_ => .inl (by injection e_ with e_; subst e_; exact HMgo5.out))); clear hg hw HS2 hx0 hf0; obtain ⟨ok0_, c0_, hM0_, hc0_, hf0_, hk0_, hb0_⟩ := Kd.S_cells HS3.out P5.out Q5.out; obtain ⟨ve0_, rfl, ge0_⟩ := k24_openM hM0_; have hx0 := hc0_ 3 _ rfl; have hf0 := hf0_ 3; (try simp only [show k24.sz = 9 from rfl, Nat.add_zero] at hx0 hf0); clear hM0_ hc0_ hf0_ hk0_ hb0_ ge0_; have HP3 := Kd.S_put1 HS3.out P5.out Q5.out 3 (.int .i64 (wrap64 ((wrap64 ((wrap64 (x1_1 + 1)) + 1)) + 1))) (by decide) (⟨(x1_1), ((wrap64 (x1_1 + 1))), ((wrap64 ((wrap64 (x1_1 + 1)) + 1))), ((wrap64 ((wrap64 ((wrap64 (x1_1 + 1)) + 1)) + 1))), (rd_T24 x0_1 x5_1).f4, (rd_T24 x0_1 x5_1).f5, (rd_T24 x0_1 x5_1).f6, (rd_T24 x0_1 x5_1).f7, (rd_T24 x0_1 x5_1).f8⟩ : S24) (fun hM_ => by obtain ⟨v1, rfl, g1⟩ := k24_openM hM_; exact k24_mkM _ _ _ (⟨(x1_1), ((wrap64 (x1_1 + 1))), ((wrap64 ((wrap64 (x1_1 + 1)) + 1))), ((wrap64 ((wrap64 ((wrap64 (x1_1 + 1)) + 1)) + 1))), (rd_T24 x0_1 x5_1).f4, (rd_T24 x0_1 x5_1).f5, (rd_T24 x0_1 x5_1).f6, (rd_T24 x0_1 x5_1).f7, (rd_T24 x0_1 x5_1).f8⟩ : S24) g1); (try simp only [show k24.sz = 9 from rfl, Nat.add_zero] at HP3)) | ((with_reducible refine gate_store (t := 3) (p := 37) rfl ?_); refine store_event (t := 3) (p := 37) (v := ?vo_w11) (w1 := (w10.setCell ⟨go5, (x5_1 : Int).toNat * 9 + 3, none⟩ (.int .i64 (wrap64 ((wrap64 ((wrap64 (x1_1 + 1)) + 1)) + 1))))) ?hg ?ho ?hn ?hr ?_; (case ho => rfl); (case hg => rfl); (case hn => rfl); (case hr => first | (go_simp; done) | (go_simp; rfl)); intro w11 hw; have hg : w10.grownBy w11 (some go5) := (by rw [hw]; exact HP3.2); have HS4 : Aside0 (Kd.S k24 24 w11 w0.heap.size P0_ (.slice (some ⟨go5, 0, none⟩) x0_1.length co6) (x0_1.set x5_1.toNat (⟨(x1_1), ((wrap64 (x1_1 + 1))), ((wrap64 ((wrap64 (x1_1 + 1)) + 1))), ((wrap64 ((wrap64 ((wrap64 (x1_1 + 1)) + 1)) + 1))), (rd_T24 x0_1 x5_1).f4, (rd_T24 x0_1 x5_1).f5, (rd_T24 x0_1 x5_1).f6, (rd_T24 x0_1 x5_1).f7, (rd_T24 x0_1 x5_1).f8⟩ : S24))) := ⟨by rw [hw]; exact HP3.1⟩; clear HP3; replace HB := Aside0.mk ((by rw [hw]; exact below_set (HB.out) GB5.out : Below w0.heap.size w0 w11)); replace HK := Aside0.mk (Kept.of_grown (S := (fun k_ => P0_ k_)) hg (by repeat (first | (with_reducible first | exact HK.out | apply Kept.alloc | apply Kept.drewN | apply Kept.drew) | exact HK.out)) (fun k_ e_ => .inl (by injection e_ with e_; subst e_; exact HMgo5.out))); clear hg hw HS3 hx0 hf0; obtain ⟨ok0_, c0_, hM0_, hc0_, hf0_, hk0_, hb0_⟩ := Kd.S_cells HS4.out P5.out Q5.out; obtain ⟨ve0_, rfl, ge0_⟩ := k24_openM hM0_; have hx0 := hc0_ 4 _ rfl; have hf0 := hf0_ 4; (try simp only [show k24.sz = 9 from rfl, Nat.add_zero] at hx0 hf0); clear hM0_ hc0_ hf0_ hk0_ hb0_ ge0_; have HP4 := Kd.S_put1 HS4.out P5.out Q5.out 4 (.int .i64 (wrap64 ((wrap64 ((wrap64 ((wrap64 (x1_1 + 1)) + 1)) + 1)) + 1))) (by decide) (⟨(x1_1), ((wrap64 (x1_1 + 1))), ((wrap64 ((wrap64 (x1_1 + 1)) + 1))), ((wrap64 ((wrap64 ((wrap64 (x1_1 + 1)) + 1)) + 1))), ((wrap64 ((wrap64 ((wrap64 ((wrap64 (x1_1 + 1)) + 1)) + 1)) + 1))), (rd_T24 x0_1 x5_1).f5, (rd_T24 x0_1 x5_1).f6, (rd_T24 x0_1 x5_1).f7, (rd_T24 x0_1 x5_1).f8⟩ : S24) (fun hM_ => by obtain ⟨v1, rfl, g1⟩ := k24_openM hM_; exact k24_mkM _ _ _ (⟨(x1_1), ((wrap64 (x1_1 + 1))), ((wrap64 ((wrap64 (x1_1 + 1)) + 1))), ((wrap64 ((wrap64 ((wrap64 (x1_1 + 1)) + 1)) + 1))), ((wrap64 ((wrap64 ((wrap64 ((wrap64 (x1_1 + 1)) + 1)) + 1)) + 1))), (rd_T24 x0_1 x5_1).f5, (rd_T24 x0_1 x5_1).f6, (rd_T24 x0_1 x5_1).f7, (rd_T24 x0_1 x5_1).f8⟩ : S24) g1); (try simp only [show k24.sz = 9 from rfl, Nat.add_zero] at HP4)) | ((with_reducible refine gate_store (t := 3) (p := 44) rfl ?_); refine store_event (t := 3) (p := 44) (v := ?vo_w12) (w1 := (w11.setCell ⟨go5, (x5_1 : Int).toNat * 9 + 4, none⟩ (.int .i64 (wrap64 ((wrap64 ((wrap64 ((wrap64 (x1_1 + 1)) + 1)) + 1)) + 1))))) ?hg ?ho ?hn ?hr ?_; (case ho => rfl); (case hg => rfl); (case hn => rfl); (case hr => first | (go_simp; done) | (go_simp; rfl)); intro w12 hw; have hg : w11.grownBy w12 (some go5) := (by rw [hw]; exact HP4.2); have HS5 : Aside0 (Kd.S k24 24 w12 w0.heap.size P0_ (.slice (some ⟨go5, 0, none⟩) x0_1.length co6) (x0_1.set x5_1.toNat (⟨(x1_1), ((wrap64 (x1_1 + 1))), ((wrap64 ((wrap64 (x1_1 + 1)) + 1))), ((wrap64 ((wrap64 ((wrap64 (x1_1 + 1)) + 1)) + 1))), ((wrap64 ((wrap64 ((wrap64 ((wrap64 (x1_1 + 1)) + 1)) + 1)) + 1))), (rd_T24 x0_1 x5_1).f5, (rd_T24 x0_1 x5_1).f6, (rd_T24 x0_1 x5_1).f7, (rd_T24 x0_1 x5_1).f8⟩ : S24))) := ⟨by rw [hw]; exact HP4.1⟩; clear HP4; replace HB := Aside0.mk ((by rw [hw]; exact below_set (HB.out) GB5.out : Below w0.heap.size w0 w12)); replace HK := Aside0.mk (Kept.of_grown (S := (fun k_ => P0_ k_)) hg (by repeat (first | (with_reducible first | exact HK.out | apply Kept.alloc | apply Kept.drewN | apply Kept.drew) | exact HK.out)) (fun k_ e_ => .inl (by injection e_ with e_; subst e_; exact HMgo5.out))); clear hg hw HS4 hx0 hf0; obtain ⟨ok0_, c0_, hM0_, hc0_, hf0_, hk0_, hb0_⟩ := Kd.S_cells HS5.out P5.out Q5.out; obtain ⟨ve0_, rfl, ge0_⟩ := k24_openM hM0_; have hx0 := hc0_ 5 _ rfl; have hf0 := hf0_ 5; (try simp only [show k24.sz = 9 from rfl, Nat.add_zero] at hx0 hf0); clear hM0_ hc0_ hf0_ hk0_ hb0_ ge0_; have HP5 := Kd.S_put1 HS5.out P5.out Q5.out 5 (.int .i64 (wrap64 ((wrap64 ((wrap64 ((wrap64 ((wrap64 (x1_1 + 1)) + 1)) + 1)) + 1)) + 1))) (by decide) (⟨(x1_1), ((wrap64 (x1_1 + 1))), ((wrap64 ((wrap64 (x1_1 + 1)) + 1))), ((wrap64 ((wrap64 ((wrap64 (x1_1 + 1)) + 1)) + 1))), ((wrap64 ((wrap64 ((wrap64 ((wrap64 (x1_1 + 1)) + 1)) + 1)) + 1))), ((wrap64 ((wrap64 ((wrap64 ((wrap64 ((wrap64 (x1_1 + 1)) + 1)) + 1)) + 1)) + 1))), (rd_T24 x0_1 x5_1).f6, (rd_T24 x0_1 x5_1).f7, (rd_T24 x0_1 x5_1).f8⟩ : S24) (fun hM_ => by obtain ⟨v1, rfl, g1⟩ := k24_openM hM_; exact k24_mkM _ _ _ (⟨(x1_1), ((wrap64 (x1_1 + 1))), ((wrap64 ((wrap64 (x1_1 + 1)) + 1))), ((wrap64 ((wrap64 ((wrap64 (x1_1 + 1)) + 1)) + 1))), ((wrap64 ((wrap64 ((wrap64 ((wrap64 (x1_1 + 1)) + 1)) + 1)) + 1))), ((wrap64 ((wrap64 ((wrap64 ((wrap64 ((wrap64 (x1_1 + 1)) + 1)) + 1)) + 1)) + 1))), (rd_T24 x0_1 x5_1).f6, (rd_T24 x0_1 x5_1).f7, (rd_T24 x0_1 x5_1).f8⟩ : S24) g1); (try simp only [show k24.sz = 9 from rfl, Nat.add_zero] at HP5)) | ((with_reducible refine gate_store (t := 3) (p := 51) rfl ?_); refine store_event (t := 3) (p := 51) (v := ?vo_w13) (w1 := (w12.setCell ⟨go5, (x5_1 : Int).toNat * 9 + 5, none⟩ (.int .i64 (wrap64 ((wrap64 ((wrap64 ((wrap64 ((wrap64 (x1_1 + 1)) + 1)) + 1)) + 1)) + 1))))) ?hg ?ho ?hn ?hr ?_; (case ho => rfl); (case hg => rfl); (case hn => rfl); (case hr => first | (go_simp; done) | (go_simp; rfl)); intro w13 hw; have hg : w12.grownBy w13 (some go5) := (by rw [hw]; exact HP5.2); have HS6 : Aside0 (Kd.S k24 24 w13 w0.heap.size P0_ (.slice (some ⟨go5, 0, none⟩) x0_1.length co6) (x0_1.set x5_1.toNat (⟨(x1_1), ((wrap64 (x1_1 + 1))), ((wrap64 ((wrap64 (x1_1 + 1)) + 1))), ((wrap64 ((wrap64 ((wrap64 (x1_1 + 1)) + 1)) + 1))), ((wrap64 ((wrap64 ((wrap64 ((wrap64 (x1_1 + 1)) + 1)) + 1)) + 1))), ((wrap64 ((wrap64 ((wrap64 ((wrap64 ((wrap64 (x1_1 + 1)) + 1)) + 1)) + 1)) + 1))), (rd_T24 x0_1 x5_1).f6, (rd_T24 x0_1 x5_1).f7, (rd_T24 x0_1 x5_1).f8⟩ : S24))) := ⟨by rw [hw]; exact HP5.1⟩; clear HP5; replace HB := Aside0.mk ((by rw [hw]; exact below_set (HB.out) GB5.out : Below w0.heap.size w0 w13)); replace HK := Aside0.mk (Kept.of_grown (S := (fun k_ => P0_ k_)) hg (by repeat (first | (with_reducible first | exact HK.out | apply Kept.alloc | apply Kept.drewN | apply Kept.drew) | exact HK.out)) (fun k_ e_ => .inl (by injection e_ with e_; subst e_; exact HMgo5.out))); clear hg hw HS5 hx0 hf0; obtain ⟨ok0_, c0_, hM0_, hc0_, hf0_, hk0_, hb0_⟩ := Kd.S_cells HS6.out P5.out Q5.out; obtain ⟨ve0_, rfl, ge0_⟩ := k24_openM hM0_; have hx0 := hc0_ 6 _ rfl; have hf0 := hf0_ 6; (try simp only [show k24.sz = 9 from rfl, Nat.add_zero] at hx0 hf0); clear hM0_ hc0_ hf0_ hk0_ hb0_ ge0_; have HP6 := Kd.S_put1 HS6.out P5.out Q5.out 6 (.bool (decide (Int.tmod (wrap64 ((wrap64 ((wrap64 ((wrap64 ((wrap64 ((wrap64 (x1_1 + 1)) + 1)) + 1)) + 1)) + 1)) + 1)) 3 = 0))) (by decide) (⟨(x1_1), ((wrap64 (x1_1 + 1))), ((wrap64 ((wrap64 (x1_1 + 1)) + 1))), ((wrap64 ((wrap64 ((wrap64 (x1_1 + 1)) + 1)) + 1))), ((wrap64 ((wrap64 ((wrap64 ((wrap64 (x1_1 + 1)) + 1)) + 1)) + 1))), ((wrap64 ((wrap64 ((wrap64 ((wrap64 ((wrap64 (x1_1 + 1)) + 1)) + 1)) + 1)) + 1))), (decide (Int.tmod (wrap64 ((wrap64 ((wrap64 ((wrap64 ((wrap64 ((wrap64 (x1_1 + 1)) + 1)) + 1)) + 1)) + 1)) + 1)) 3 = 0)), (rd_T24 x0_1 x5_1).f7, (rd_T24 x0_1 x5_1).f8⟩ : S24) (fun hM_ => by obtain ⟨v1, rfl, g1⟩ := k24_openM hM_; exact k24_mkM _ _ _ (⟨(x1_1), ((wrap64 (x1_1 + 1))), ((wrap64 ((wrap64 (x1_1 + 1)) + 1))), ((wrap64 ((wrap64 ((wrap64 (x1_1 + 1)) + 1)) + 1))), ((wrap64 ((wrap64 ((wrap64 ((wrap64 (x1_1 + 1)) + 1)) + 1)) + 1))), ((wrap64 ((wrap64 ((wrap64 ((wrap64 ((wrap64 (x1_1 + 1)) + 1)) + 1)) + 1)) + 1))), (decide (Int.tmod (wrap64 ((wrap64 ((wrap64 ((wrap64 ((wrap64 ((wrap64 (x1_1 + 1)) + 1)) + 1)) + 1)) + 1)) + 1)) 3 = 0)), (rd_T24 x0_1 x5_1).f7, (rd_T24 x0_1 x5_1).f8⟩ : S24) g1); (try simp only [show k24.sz = 9 from rfl, Nat.add_zero] at HP6)) | ((with_reducible refine gate_store (t := 4) (p := 60) rfl ?_); refine store_event (t := 4) (p := 60) (v := ?vo_w14) (w1 := (w13.setCell ⟨go5, (x5_1 : Int).toNat * 9 + 6, none⟩ (.bool (decide (Int.tmod (wrap64 ((wrap64 ((wrap64 ((wrap64 ((wrap64 ((wrap64 (x1_1 + 1)) + 1)) + 1)) + 1)) + 1)) + 1)) 3 = 0))))) ?hg ?ho ?hn ?hr ?_; (case ho => rfl); (case hg => rfl); (case hn => rfl); (case hr => first | (go_simp; done) | (go_simp; rfl)); intro w14 hw; have hg : w13.grownBy w14 (some go5) := (by rw [hw]; exact HP6.2); have HS7 : Aside0 (Kd.S k24 24 w14 w0.heap.size P0_ (.slice (some ⟨go5, 0, none⟩) x0_1.length co6) (x0_1.set x5_1.toNat (⟨(x1_1), ((wrap64 (x1_1 + 1))), ((wrap64 ((wrap64 (x1_1 + 1)) + 1))), ((wrap64 ((wrap64 ((wrap64 (x1_1 + 1)) + 1)) + 1))), ((wrap64 ((wrap64 ((wrap64 ((wrap64 (x1_1 + 1)) + 1)) + 1)) + 1))), ((wrap64 ((wrap64 ((wrap64 ((wrap64 ((wrap64 (x1_1 + 1)) + 1)) + 1)) + 1)) + 1))), (decide (Int.tmod (wrap64 ((wrap64 ((wrap64 ((wrap64 ((wrap64 ((wrap64 (x1_1 + 1)) + 1)) + 1)) + 1)) + 1)) + 1)) 3 = 0)), (rd_T24 x0_1 x5_1).f7, (rd_T24 x0_1 x5_1).f8⟩ : S24))) := ⟨by rw [hw]; exact HP6.1⟩; clear HP6; replace HB := Aside0.mk ((by rw [hw]; exact below_set (HB.out) GB5.out : Below w0.heap.size w0 w14)); replace HK := Aside0.mk (Kept.of_grown (S := (fun k_ => P0_ k_)) hg (by repeat (first | (with_reducible first | exact HK.out | apply Kept.alloc | apply Kept.drewN | apply Kept.drew) | exact HK.out)) (fun k_ e_ => .inl (by injection e_ with e_; subst e_; exact HMgo5.out))); clear hg hw HS6 hx0 hf0; obtain ⟨ok0_, c0_, hM0_, hc0_, hf0_, hk0_, hb0_⟩ := Kd.S_cells HS7.out P5.out Q5.out; obtain ⟨ve0_, rfl, ge0_⟩ := k24_openM hM0_; have hx0 := hc0_ 7 _ rfl; have hf0 := hf0_ 7; (try simp only [show k24.sz = 9 from rfl, Nat.add_zero] at hx0 hf0); clear hM0_ hc0_ hf0_ hk0_ hb0_ ge0_; have HP7 := Kd.S_put1 HS7.out P5.out Q5.out 7 (.bool (decide (Int.tmod (wrap64 ((wrap64 ((wrap64 ((wrap64 ((wrap64 ((wrap64 ((wrap64 (x1_1 + 1)) + 1)) + 1)) + 1)) + 1)) + 1)) + 1)) 3 = 0))) (by decide) (⟨(x1_1), ((wrap64 (x1_1 + 1))), ((wrap64 ((wrap64 (x1_1 + 1)) + 1))), ((wrap64 ((wrap64 ((wrap64 (x1_1 + 1)) + 1)) + 1))), ((wrap64 ((wrap64 ((wrap64 ((wrap64 (x1_1 + 1)) + 1)) + 1)) + 1))), ((wrap64 ((wrap64 ((wrap64 ((wrap64 ((wrap64 (x1_1 + 1)) + 1)) + 1)) + 1)) + 1))), (decide (Int.tmod (wrap64 ((wrap64 ((wrap64 ((wrap64 ((wrap64 ((wrap64 (x1_1 + 1)) + 1)) + 1)) + 1)) + 1)) + 1)) 3 = 0)), (decide (Int.tmod (wrap64 ((wrap64 ((wrap64 ((wrap64 ((wrap64 ((wrap64 ((wrap64 (x1_1 + 1)) + 1)) + 1)) + 1)) + 1)) + 1)) + 1)) 3 = 0)), (rd_T24 x0_1 x5_1).f8⟩ : S24) (fun hM_ => by obtain ⟨v1, rfl, g1⟩ := k24_openM hM_; exact k24_mkM _ _ _ (⟨(x1_1), ((wrap64 (x1_1 + 1))), ((wrap64 ((wrap64 (x1_1 + 1)) + 1))), ((wrap64 ((wrap64 ((wrap64 (x1_1 + 1)) + 1)) + 1))), ((wrap64 ((wrap64 ((wrap64 ((wrap64 (x1_1 + 1)) + 1)) + 1)) + 1))), ((wrap64 ((wrap64 ((wrap64 ((wrap64 ((wrap64 (x1_1 + 1)) + 1)) + 1)) + 1)) + 1))), (decide (Int.tmod (wrap64 ((wrap64 ((wrap64 ((wrap64 ((wrap64 ((wrap64 (x1_1 + 1)) + 1)) + 1)) + 1)) + 1)) + 1)) 3 = 0)), (decide (Int.tmod (wrap64 ((wrap64 ((wrap64 ((wrap64 ((wrap64 ((wrap64 ((wrap64 (x1_1 + 1)) + 1)) + 1)) + 1)) + 1)) + 1)) + 1)) 3 = 0)), (rd_T24 x0_1 x5_1).f8⟩ : S24) g1); (try simp only [show k24.sz = 9 from rfl, Nat.add_zero] at HP7)) | ((with_reducible refine gate_store (t := 4) (p := 69) rfl ?_); refine store_event (t := 4) (p := 69) (v := ?vo_w15) (w1 := (w14.setCell ⟨go5, (x5_1 : Int).toNat * 9 + 7, none⟩ (.bool (decide (Int.tmod (wrap64 ((wrap64 ((wrap64 ((wrap64 ((wrap64 ((wrap64 ((wrap64 (x1_1 + 1)) + 1)) + 1)) + 1)) + 1)) + 1)) + 1)) 3 = 0))))) ?hg ?ho ?hn ?hr ?_; (case ho => rfl); (case hg => rfl); (case hn => rfl); (case hr => first | (go_simp; done) | (go_simp; rfl)); intro w15 hw; have hg : w14.grownBy w15 (some go5) := (by rw [hw]; exact HP7.2); have HS8 : Aside0 (Kd.S k24 24 w15 w0.heap.size P0_ (.slice (some ⟨go5, 0, none⟩) x0_1.length co6) (x0_1.set x5_1.toNat (⟨(x1_1), ((wrap64 (x1_1 + 1))), ((wrap64 ((wrap64 (x1_1 + 1)) + 1))), ((wrap64 ((wrap64 ((wrap64 (x1_1 + 1)) + 1)) + 1))), ((wrap64 ((wrap64 ((wrap64 ((wrap64 (x1_1 + 1)) + 1)) + 1)) + 1))), ((wrap64 ((wrap64 ((wrap64 ((wrap64 ((wrap64 (x1_1 + 1)) + 1)) + 1)) + 1)) + 1))), (decide (Int.tmod (wrap64 ((wrap64 ((wrap64 ((wrap64 ((wrap64 ((wrap64 (x1_1 + 1)) + 1)) + 1)) + 1)) + 1)) + 1)) 3 = 0)), (decide (Int.tmod (wrap64 ((wrap64 ((wrap64 ((wrap64 ((wrap64 ((wrap64 ((wrap64 (x1_1 + 1)) + 1)) + 1)) + 1)) + 1)) + 1)) + 1)) 3 = 0)), (rd_T24 x0_1 x5_1).f8⟩ : S24))) := ⟨by rw [hw]; exact HP7.1⟩; clear HP7; replace HB := Aside0.mk ((by rw [hw]; exact below_set (HB.out) GB5.out : Below w0.heap.size w0 w15)); replace HK := Aside0.mk (Kept.of_grown (S := (fun k_ => P0_ k_)) hg (by repeat (first | (with_reducible first | exact HK.out | apply Kept.alloc | apply Kept.drewN | apply Kept.drew) | exact HK.out)) (fun k_ e_ => .inl (by injection e_ with e_; subst e_; exact HMgo5.out))); clear hg hw HS7 hx0 hf0; obtain ⟨ok1_, c1_, hM1_, hc1_, hf1_, hk1_, hb1_⟩ := Kd.S_cells HS8.out P5.out Q5.out; obtain ⟨ve1_, rfl, ge1_⟩ := k24_openM hM1_; obtain ⟨Ae1_, ce1_, ee1_⟩ := Kd.R_slice ge1_; subst ee1_; have hx1 := hc1_ 8 _ rfl; (try simp only [show k24.sz = 9 from rfl, Nat.add_zero] at hx1); have HG1 := Aside0.mk ge1_; have HK1_ := Aside0.mk hk1_; have HW1 := Aside0.mk @hb1_; clear hM1_ hc1_ hf1_ ge1_ hk1_ hb1_) | ((with_reducible refine gate_callee (f := 31) rfl ?_); refine goesL_ (some 78) rfl rfl Try.func31 (by kernel_rfl) rfl #[.slice Ae1_ (rd_T24 x0_1 x5_1).f8.length ce1_, .int .i64 (wrap64 ((wrap64 ((wrap64 ((wrap64 ((wrap64 ((wrap64 ((wrap64 ((wrap64 (x1_1 + 1)) + 1)) + 1)) + 1)) + 1)) + 1)) + 1)) + 1))] rfl ar_ ?_; refine (laws_markByteS.calls k1 (fun k_ => some k_ = (.slice Ae1_ (rd_T24 x0_1 x5_1).f8.length ce1_ : Value).ownBlock) _ _ _ t1 t2 w0 _ HB.out (Kd.R_tight rfl HG1.out) A2.out).mono ?_; rintro e w30 ⟨rfl, hy, hb, hkp⟩; refine ⟨_, rfl, ?_⟩; have HSe : Aside0 (Kd.S k24 24 w30 w0.heap.size P0_ (.slice (some ⟨go5, 0, none⟩) x0_1.length co6) (x0_1.set x5_1.toNat (⟨(x1_1), ((wrap64 (x1_1 + 1))), ((wrap64 ((wrap64 (x1_1 + 1)) + 1))), ((wrap64 ((wrap64 ((wrap64 (x1_1 + 1)) + 1)) + 1))), ((wrap64 ((wrap64 ((wrap64 ((wrap64 (x1_1 + 1)) + 1)) + 1)) + 1))), ((wrap64 ((wrap64 ((wrap64 ((wrap64 ((wrap64 (x1_1 + 1)) + 1)) + 1)) + 1)) + 1))), (decide (Int.tmod (wrap64 ((wrap64 ((wrap64 ((wrap64 ((wrap64 ((wrap64 (x1_1 + 1)) + 1)) + 1)) + 1)) + 1)) + 1)) 3 = 0)), (decide (Int.tmod (wrap64 ((wrap64 ((wrap64 ((wrap64 ((wrap64 ((wrap64 ((wrap64 (x1_1 + 1)) + 1)) + 1)) + 1)) + 1)) + 1)) + 1)) 3 = 0)), t2⟩ : S24))) := ⟨HW1.out hkp (fun k_ e_ => HG1.out.1 k_ e_.symm) (k24_mkM _ _ _ (⟨(x1_1), ((wrap64 (x1_1 + 1))), ((wrap64 ((wrap64 (x1_1 + 1)) + 1))), ((wrap64 ((wrap64 ((wrap64 (x1_1 + 1)) + 1)) + 1))), ((wrap64 ((wrap64 ((wrap64 ((wrap64 (x1_1 + 1)) + 1)) + 1)) + 1))), ((wrap64 ((wrap64 ((wrap64 ((wrap64 ((wrap64 (x1_1 + 1)) + 1)) + 1)) + 1)) + 1))), (decide (Int.tmod (wrap64 ((wrap64 ((wrap64 ((wrap64 ((wrap64 ((wrap64 (x1_1 + 1)) + 1)) + 1)) + 1)) + 1)) + 1)) 3 = 0)), (decide (Int.tmod (wrap64 ((wrap64 ((wrap64 ((wrap64 ((wrap64 ((wrap64 ((wrap64 (x1_1 + 1)) + 1)) + 1)) + 1)) + 1)) + 1)) + 1)) 3 = 0)), t2⟩ : S24) (Kd.R_reok rfl hy (fun k_ e_ => HG1.out.1 k_ e_)))⟩; replace HB := Aside0.mk hb; replace HK := Aside0.mk (Kept.then_ (S := (fun k_ => P0_ k_)) (by repeat (first | (with_reducible first | exact HK.out | apply Kept.alloc | apply Kept.drewN | apply Kept.drew) | exact HK.out)) hkp (fun k_ e_ => .inl (HK1_.out k_ (HG1.out.1 k_ e_.symm)).1)); clear hy hb hkp HW1 HS8 hx1 HG1 HK1_))
          go_roundg k1
          case measure => have := HK1.out; omega
          case rel => exact ⟨(x0_1.set x5_1.toNat (⟨(x1_1), ((wrap64 (x1_1 + 1))), ((wrap64 ((wrap64 (x1_1 + 1)) + 1))), ((wrap64 ((wrap64 ((wrap64 (x1_1 + 1)) + 1)) + 1))), ((wrap64 ((wrap64 ((wrap64 ((wrap64 (x1_1 + 1)) + 1)) + 1)) + 1))), ((wrap64 ((wrap64 ((wrap64 ((wrap64 ((wrap64 (x1_1 + 1)) + 1)) + 1)) + 1)) + 1))), (decide (Int.tmod (wrap64 ((wrap64 ((wrap64 ((wrap64 ((wrap64 ((wrap64 (x1_1 + 1)) + 1)) + 1)) + 1)) + 1)) + 1)) 3 = 0)), (decide (Int.tmod (wrap64 ((wrap64 ((wrap64 ((wrap64 ((wrap64 ((wrap64 ((wrap64 (x1_1 + 1)) + 1)) + 1)) + 1)) + 1)) + 1)) + 1)) 3 = 0)), t2⟩ : S24)), t1, (wrap64 (x5_1 + 1)), (by first | rfl | (simp; done) | (simp [*]; done)), (by first | rfl | (simp; done) | (simp [*]; done)), H', ⟨by have := HK1.out; omega⟩, ⟨kS_ HSe.out⟩, ⟨by repeat (first | (with_reducible first | exact HK.out | apply Kept.alloc | apply Kept.drewN | apply Kept.drew) | exact HK.out)⟩, ⟨hbA_ HB.out⟩⟩
        · rw [if_neg c4] at H
          exact absurd H (by simp)
      · rw [if_neg c3] at H
        have c3b0 : decide (x5_1 < (x0_1.length : Int)) = false := decide_eq_false c3
        clear c3
        simp only [Option.some.injEq, Prod.mk.injEq] at H
        obtain ⟨rfl, rfl⟩ := H
        obtain ⟨Ao9, co9, eo9⟩ := Kd.S_slice HO_0.out
        subst eo9
        go_wp2
        go_ret
        exact ⟨by first | rfl | (simp [*]; done), kS_ HO_0.out, hbA_ HB.out, by repeat (first | (with_reducible first | exact HK.out | apply Kept.alloc | apply Kept.drewN | apply Kept.drew) | exact HK.out)⟩
def laws_heldByteS.l0 : Nat → List Int → Int → Int → Option (Int)
 | 0, _, _, _ => none
 | k + 1, x0, x1, x5 => if x5 < (x0.length : Int) then (if 0 ≤ x5 then (if (rd x0 x5) = ((x1) % 256) then (laws_heldByteS.l0 k x0 (wrap64 (x1 + 1)) (wrap64 (x5 + 1))) else (some (-1))) else (none)) else (some x1)
def laws_heldByteS.f (k : Nat) (l0 : List Int) (a1 : Int) : Option (Int) := laws_heldByteS.l0 k l0 a1 0
theorem laws_heldByteS.mono_l : ∀ k, (∀ y0 y1 y2, LeO (laws_heldByteS.l0 k y0 y1 y2) (laws_heldByteS.l0 (k + 1) y0 y1 y2))
 | 0 => fun _ _ _ r h => by simp [laws_heldByteS.l0] at h
 | k + 1 => by
  have ih0 := laws_heldByteS.mono_l k
  ·intro y0 y1 y2
   unfold laws_heldByteS.l0
   repeat' first | (with_reducible first | apply ih0 | exact LeO.refl _ | exact LeO.none _ | refine LeO.ite ?_ ?_ | refine LeO.bind ?_ fun _ => ?_) | apply ih0 | exact LeO.none _ | refine LeO.ite ?_ ?_ | refine LeO.bind ?_ fun _ => ?_
theorem laws_heldByteS.mono : ∀ a0 a1 k, LeO (laws_heldByteS.f k a0 a1) (laws_heldByteS.f (k + 1) a0 a1) := by
 intro a0 a1 k
 have ih0 := laws_heldByteS.mono_l k
 unfold laws_heldByteS.f
 repeat' first | (with_reducible first | apply ih0 | exact LeO.refl _ | exact LeO.none _ | refine LeO.ite ?_ ?_ | refine LeO.bind ?_ fun _ => ?_) | apply ih0 | exact LeO.none _ | refine LeO.ite ?_ ?_ | refine LeO.bind ?_ fun _ => ?_
set_option maxHeartbeats 8000000 in
set_option maxRecDepth 100000 in
theorem laws_heldByteS.calls (k : Nat) (A0 : Option Addr) (c0 : Nat) (l0 : List Int) (a1 : Int) (r : Int) (w : World) (hr0 : Kd.C (Kd.int .u8) w A0 l0.length l0) (hc0 : l0.length ≤ c0) (h : laws_heldByteS.f k l0 a1 = some r) :
  Calls Try.prog 64 #[.slice A0 l0.length c0, .int .i64 a1] w fun e w' => e = .returned (.int .i64 r) ∧ Drawn0 w w' := by
 have HR0 := Aside0.mk hr0; have HC0 := Aside0.mk hc0; clear hr0 hc0
 have H : (laws_heldByteS.l0 k l0 a1 0) = some r := h
 clear h
 have H' := Aside0.mk H
 clear H
 go_enter Try.func64, Try.ntmps64
 go_wp2
 go_loopg [1, 5] k (fun kq v1 v5 w' => ∃ (x1_1 : Int) (x5_1 : Int), v1 = .int .i64 x1_1 ∧ v5 = .int .i64 x5_1 ∧ Aside0 (laws_heldByteS.l0 kq l0 x1_1 x5_1 = some r) ∧ Aside0 (kq ≤ k) ∧ Drawn0 w w')
 case atStart => exact ⟨(a1), (0), (by first | rfl | (simp; done) | (simp [*]; done)), (by first | rfl | (simp; done) | (simp [*]; done)), H', ⟨Nat.le_refl _⟩, by repeat (first | exact Drawn0.refl _ | apply Drawn0.step)⟩
 case round =>
  clear H'; (try clear p2)
  obtain ⟨x1_1, x5_1, rfl, rfl, HA, HK1, ⟨m1, rfl⟩⟩ := hrel
  cases gk with
  | zero => exact absurd HA.out (by simp [laws_heldByteS.l0])
  | succ k1 =>
   have H := HA.out; clear HA
   simp only [laws_heldByteS.l0] at H
   by_cases c3 : x5_1 < (l0.length : Int)
   ·rw [if_pos c3] at H
    have c3b0 : decide (x5_1 < (l0.length : Int)) = true := decide_eq_true c3
    clear c3
    by_cases c4 : 0 ≤ x5_1
    ·rw [if_pos c4] at H
     have c4b0 : decide (0 ≤ x5_1) = true := decide_eq_true c4
     clear c4
     by_cases c5 : (rd l0 x5_1) = ((x1_1) % 256)
     ·rw [if_pos c5] at H
      have c5b0 : ((rd l0 x5_1) == ((x1_1) % 256)) = true := beq_iff_eq.mpr c5
      have c5b1 : ((rd l0 x5_1) != ((x1_1) % 256)) = false := bne_eq_false_iff_eq.mpr c5
      clear c5
      have H' := Aside0.mk H
      clear H
      have p186 : 0 ≤ (x5_1 : Int) := of_decide_eq_true (by first | (with_reducible assumption) | assumption)
      have q186 : x5_1 < (l0.length : Int) := of_decide_eq_true (by first | (with_reducible assumption) | assumption)
      obtain ⟨ad186, e186, hx186_0⟩ := Kd.at_int HR0.out x5_1 p186 q186
      cases e186
      replace p186 := eq_true p186
      replace q186 := eq_true q186
      go_wp2
      go_roundg k1
      case measure => have := HK1.out; omega
      case rel => exact ⟨(wrap64 (x1_1 + 1)), (wrap64 (x5_1 + 1)), (by first | rfl | (simp; done) | (simp [*]; done)), (by first | rfl | (simp; done) | (simp [*]; done)), H', ⟨by have := HK1.out; omega⟩, by repeat (first | exact Drawn0.refl _ | apply Drawn0.step)⟩
     ·rw [if_neg c5] at H
      have c5b0 : ((rd l0 x5_1) == ((x1_1) % 256)) = false := beq_eq_false_iff_ne.mpr c5
      have c5b1 : ((rd l0 x5_1) != ((x1_1) % 256)) = true := bne_iff_ne.mpr c5
      obtain rfl := Option.some.inj H
      have p186 : 0 ≤ (x5_1 : Int) := of_decide_eq_true (by first | (with_reducible assumption) | assumption)
      have q186 : x5_1 < (l0.length : Int) := of_decide_eq_true (by first | (with_reducible assumption) | assumption)
      obtain ⟨ad186, e186, hx186_0⟩ := Kd.at_int HR0.out x5_1 p186 q186
      cases e186
      replace p186 := eq_true p186
      replace q186 := eq_true q186
      go_wp2
      go_ret
      exact ⟨by first | rfl | (simp; done) | (simp [*]; done), by repeat (first | exact Drawn0.refl _ | apply Drawn0.step)⟩
    ·rw [if_neg c4] at H
     exact absurd H (by simp)
   ·rw [if_neg c3] at H
    have c3b0 : decide (x5_1 < (l0.length : Int)) = false := decide_eq_false c3
    clear c3
    obtain rfl := Option.some.inj H
    go_wp2
    go_ret
    exact ⟨by first | rfl | (simp; done) | (simp [*]; done), by repeat (first | exact Drawn0.refl _ | apply Drawn0.step)⟩
end Go.Proofs.Ytbhofhdmbbipgaa.PFnExactPacketCut
