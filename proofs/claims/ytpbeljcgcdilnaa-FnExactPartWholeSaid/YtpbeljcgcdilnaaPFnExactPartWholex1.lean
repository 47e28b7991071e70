/- Printed by wip/xp/xprint.sh out of the translation, for this claim: what each function answers, as a plain function, and that the machine does just that. No condition. -/
import Derived.Test.YtpbeljcgcdilnaaPFnExactPartWholex0
namespace Go.Proofs.Ytpbeljcgcdilnaa.PFnExactPartWhole
open Go.RowKit Go.Proofs.YtpbeljcgcdilnaaW.PrintWords Go.Proofs.YtpbeljcgcdilnaaW.PrintLast Go.Proofs.YtpbeljcgcdilnaaW.PrintMore
attribute [local go_sem] max2_int min2_int max_two min_two max_three min_three max_four min_four   -- for this text's walks alone
set_option linter.unusedVariables false
set_option linter.unusedSimpArgs false
def impl_in.f (a0 : Int) (a1 : Int) (a2 : Int) : Option (Bool) := if a0 ≥ a1 then (some (decide (a0 ≤ a2))) else (some false)
set_option maxHeartbeats 8000000 in
set_option maxRecDepth 100000 in
theorem impl_in.calls (a0 : Int) (a1 : Int) (a2 : Int) (r : Bool) (w : World) (h : impl_in.f a0 a1 a2 = some r) :
  Calls Try.prog 49 #[.int .i64 a0, .int .i64 a1, .int .i64 a2] w fun e w' => e = .returned (.bool r) ∧ Drawn0 w w' := by
 have H : (if a0 ≥ a1 then (some (decide (a0 ≤ a2))) else (some false)) = some r := h
 clear h
 by_cases c4 : a0 ≥ a1
 ·rw [if_pos c4] at H
  have c4b0 : decide (a1 ≤ a0) = true := decide_eq_true c4
  clear c4
  obtain rfl := Option.some.inj H
  go_enter Try.func49, Try.ntmps49
  go_wp2
  go_ret
  exact ⟨by first | rfl | (simp; done) | (simp [*]; done), by repeat (first | exact Drawn0.refl _ | apply Drawn0.step)⟩
 ·rw [if_neg c4] at H
  have c4b0 : decide (a1 ≤ a0) = false := decide_eq_false c4
  clear c4
  obtain rfl := Option.some.inj H
  go_enter Try.func49, Try.ntmps49
  go_wp2
  go_ret
  exact ⟨by first | rfl | (simp; done) | (simp [*]; done), by repeat (first | exact Drawn0.refl _ | apply Drawn0.step)⟩
def impl_word.f (a0 : Int) : Option (Bool) := (impl_in.f a0 0 65535).bind fun t101 => (some t101)
set_option maxHeartbeats 8000000 in
set_option maxRecDepth 100000 in
theorem impl_word.calls (a0 : Int) (r : Bool) (w : World) (h : impl_word.f a0 = some r) :
  Calls Try.prog 48 #[.int .i64 a0] w fun e w' => e = .returned (.bool r) ∧ Drawn0 w w' := by
 have H : ((impl_in.f a0 0 65535).bind fun t101 => (some t101)) = some r := h
 clear h
 replace H := Option.bind_eq_some_iff.mp H
 obtain ⟨t101, A20, H⟩ := H
 (try dsimp only at H)
 have A2 := Aside0.mk A20; clear A20
 obtain rfl := Option.some.inj H
 go_enter Try.func48, Try.ntmps48
 go_wp2_with (first | ((with_reducible refine gate_callee (f := 49) rfl ?_); refine goesL_ (some 4) rfl rfl Try.func49 (by kernel_rfl) rfl #[.int .i64 a0, .int .i64 0, .int .i64 65535] rfl ar_ ?_; (with_reducible refine (impl_in.calls a0 0 65535 t101 _ A2.out).mono ?_); rintro e w' ⟨rfl, ⟨nd, rfl⟩⟩; refine ⟨_, rfl, ?_⟩))
 go_ret
 exact ⟨by first | rfl | (simp; done) | (simp [*]; done), by repeat (first | exact Drawn0.refl _ | apply Drawn0.step)⟩
def impl_PacketOk.f (a0_0 : Int) (a0_1 : Int) (a0_2 : Int) (a0_3 : Int) (a0_4 : Int) (a0_5 : Int) (a0_6 : Bool) (a0_7 : Bool) (l0_8 : List Int) : Option (Bool) := (impl_word.f a0_0).bind fun t103 => (if t103 = true then ((impl_word.f a0_1).bind fun t104 => (if t104 = true then ((impl_in.f a0_2 0 255).bind fun t105 => (if t105 = true then ((impl_in.f a0_3 0 255).bind fun t106 => (if t106 = true then ((impl_in.f a0_4 0 255).bind fun t107 => (if t107 = true then ((impl_in.f a0_5 0 255).bind fun t108 => (if t108 = true then (if (l0_8.length : Int) ≤ 48 then (if a0_6 = true then (if (l0_8.length : Int) > 0 then (if a0_7 = true then (if a0_5 = 0 then (some (!a0_6)) else (some false)) else (some true)) else (some false)) else (if a0_7 = true then (if a0_5 = 0 then (some (!a0_6)) else (some false)) else (some true))) else (some false)) else (some false))) else (some false))) else (some false))) else (some false))) else (some false))) else (some false))
set_option maxHeartbeats 8000000 in
set_option maxRecDepth 100000 in
theorem impl_PacketOk.calls (a0_0 : Int) (a0_1 : Int) (a0_2 : Int) (a0_3 : Int) (a0_4 : Int) (a0_5 : Int) (a0_6 : Bool) (a0_7 : Bool) (A0_8 : Option Addr) (c0_8 : Nat) (l0_8 : List Int) (r : Bool) (w : World) (hr0_8 : Kd.C (Kd.int .u8) w A0_8 l0_8.length l0_8) (hc0_8 : l0_8.length ≤ c0_8) (h : impl_PacketOk.f a0_0 a0_1 a0_2 a0_3 a0_4 a0_5 a0_6 a0_7 l0_8 = some r) :
  Calls Try.prog 14 #[.agg #[.int .i64 a0_0, .int .i64 a0_1, .int .i64 a0_2, .int .i64 a0_3, .int .i64 a0_4, .int .i64 a0_5, .bool a0_6, .bool a0_7, .slice A0_8 l0_8.length c0_8]] w fun e w' => e = .returned (.bool r) ∧ Below w.heap.size w w' := by
 have hu28 := Try.underlying28; have HR0_8 := Aside0.mk hr0_8; have HC0_8 := Aside0.mk hc0_8; clear hr0_8 hc0_8
 have HB := Aside0.mk (Below.refl w.heap.size w)
 have H : ((impl_word.f a0_0).bind fun t103 => (if t103 = true then ((impl_word.f a0_1).bind fun t104 => (if t104 = true then ((impl_in.f a0_2 0 255).bind fun t105 => (if t105 = true then ((impl_in.f a0_3 0 255).bind fun t106 => (if t106 = true then ((impl_in.f a0_4 0 255).bind fun t107 => (if t107 = true then ((impl_in.f a0_5 0 255).bind fun t108 => (if t108 = true then (if (l0_8.length : Int) ≤ 48 then (if a0_6 = true then (if (l0_8.length : Int) > 0 then (if a0_7 = true then (if a0_5 = 0 then (some (!a0_6)) else (some false)) else (some true)) else (some false)) else (if a0_7 = true then (if a0_5 = 0 then (some (!a0_6)) else (some false)) else (some true))) else (some false)) else (some false))) else (some false))) else (some false))) else (some false))) else (some false))) else (some false))) = some r := h
 clear h
 replace H := Option.bind_eq_some_iff.mp H
 obtain ⟨t103, A20, H⟩ := H
 (try dsimp only at H)
 have A2 := Aside0.mk A20; clear A20
 by_cases c3 : t103 = true
 ·subst c3
  rw [if_pos rfl] at H
  replace H := Option.bind_eq_some_iff.mp H
  obtain ⟨t104, A40, H⟩ := H
  (try dsimp only at H)
  have A4 := Aside0.mk A40; clear A40
  by_cases c5 : t104 = true
  ·subst c5
   rw [if_pos rfl] at H
   replace H := Option.bind_eq_some_iff.mp H
   obtain ⟨t105, A60, H⟩ := H
   (try dsimp only at H)
   have A6 := Aside0.mk A60; clear A60
   by_cases c7 : t105 = true
   ·subst c7
    rw [if_pos rfl] at H
    replace H := Option.bind_eq_some_iff.mp H
    obtain ⟨t106, A80, H⟩ := H
    (try dsimp only at H)
    have A8 := Aside0.mk A80; clear A80
    by_cases c9 : t106 = true
    ·subst c9
     rw [if_pos rfl] at H
     replace H := Option.bind_eq_some_iff.mp H
     obtain ⟨t107, A100, H⟩ := H
     (try dsimp only at H)
     have A10 := Aside0.mk A100; clear A100
     by_cases c11 : t107 = true
     ·subst c11
      rw [if_pos rfl] at H
      replace H := Option.bind_eq_some_iff.mp H
      obtain ⟨t108, A120, H⟩ := H
      (try dsimp only at H)
      have A12 := Aside0.mk A120; clear A120
      by_cases c13 : t108 = true
      ·subst c13
       rw [if_pos rfl] at H
       by_cases c14 : (l0_8.length : Int) ≤ 48
       ·rw [if_pos c14] at H
        have c14b0 : decide ((l0_8.length : Int) ≤ 48) = true := decide_eq_true c14
        have c14b1 : decide (l0_8.length ≤ 48) = true := decide_eq_true (by omega)
        clear c14
        by_cases c15 : a0_6 = true
        ·subst c15
         rw [if_pos rfl] at H
         by_cases c16 : (l0_8.length : Int) > 0
         ·rw [if_pos c16] at H
          have c16b0 : decide (0 < (l0_8.length : Int)) = true := decide_eq_true c16
          have c16b1 : decide (0 < l0_8.length) = true := decide_eq_true (by omega)
          clear c16
          by_cases c17 : a0_7 = true
          ·subst c17
           rw [if_pos rfl] at H
           by_cases c18 : a0_5 = 0
           ·rw [if_pos c18] at H
            have c18b0 : (a0_5 == 0) = true := beq_iff_eq.mpr c18
            have c18b1 : (a0_5 != 0) = false := bne_eq_false_iff_eq.mpr c18
            clear c18
            obtain rfl := Option.some.inj H
            go_enter Try.func14, Try.ntmps14
            go_wp2_with (first | ((with_reducible refine gate_dst (N := 1) rfl ?_); (try (refine gate_guard (by rfl) ?_; dsimp only)); refine box_ (N := 1) (cs := #[.int .i64 a0_0, .int .i64 a0_1, .int .i64 a0_2, .int .i64 a0_3, .int .i64 a0_4, .int .i64 a0_5, .bool true, .bool true, .slice A0_8 l0_8.length c0_8]) (t := 28) (fun gb102 hg w19 hbox hb => ?_); have BK102 := Aside0.mk (hbox); have GW102 := ge_ hg HB; have GE102 := ge_ hg HB; replace HB := (bs_ HB hb); clear hb hbox hg; have Z20 := zz9 BK102) | ((with_reducible refine gate_callee (f := 48) rfl ?_); refine goesL_ (some 5) rfl rfl Try.func48 (by kernel_rfl) rfl #[.int .i64 a0_0] rfl ar_ ?_; (with_reducible refine (impl_word.calls a0_0 true _ A2.out).mono ?_); rintro e w' ⟨rfl, ⟨nd, rfl⟩⟩; refine ⟨_, rfl, ?_⟩) | (go_at_call 48; (with_reducible refine (impl_word.calls a0_1 true _ A4.out).mono ?_); rintro e w' ⟨rfl, ⟨nd, rfl⟩⟩) | (go_at_call 49; (with_reducible refine (impl_in.calls a0_2 0 255 true _ A6.out).mono ?_); rintro e w' ⟨rfl, ⟨nd, rfl⟩⟩) | (go_at_call 49; (with_reducible refine (impl_in.calls a0_3 0 255 true _ A8.out).mono ?_); rintro e w' ⟨rfl, ⟨nd, rfl⟩⟩) | (go_at_call 49; (with_reducible refine (impl_in.calls a0_4 0 255 true _ A10.out).mono ?_); rintro e w' ⟨rfl, ⟨nd, rfl⟩⟩) | (go_at_call 49; (with_reducible refine (impl_in.calls a0_5 0 255 true _ A12.out).mono ?_); rintro e w' ⟨rfl, ⟨nd, rfl⟩⟩))
            go_ret
            exact ⟨by first | rfl | (simp [errW_none, errW_some] <;> rfl) | (simp [*, errW_none, errW_some] <;> rfl), hbA_ HB.out⟩
           ·rw [if_neg c18] at H
            have c18b0 : (a0_5 == 0) = false := beq_eq_false_iff_ne.mpr c18
            have c18b1 : (a0_5 != 0) = true := bne_iff_ne.mpr c18
            obtain rfl := Option.some.inj H
            go_enter Try.func14, Try.ntmps14
            go_wp2_with (first | ((with_reducible refine gate_dst (N := 1) rfl ?_); (try (refine gate_guard (by rfl) ?_; dsimp only)); refine box_ (N := 1) (cs := #[.int .i64 a0_0, .int .i64 a0_1, .int .i64 a0_2, .int .i64 a0_3, .int .i64 a0_4, .int .i64 a0_5, .bool true, .bool true, .slice A0_8 l0_8.length c0_8]) (t := 28) (fun gb102 hg w21 hbox hb => ?_); have BK102 := Aside0.mk (hbox); have GW102 := ge_ hg HB; have GE102 := ge_ hg HB; replace HB := (bs_ HB hb); clear hb hbox hg; have Z22 := zz9 BK102) | ((with_reducible refine gate_callee (f := 48) rfl ?_); refine goesL_ (some 5) rfl rfl Try.func48 (by kernel_rfl) rfl #[.int .i64 a0_0] rfl ar_ ?_; (with_reducible refine (impl_word.calls a0_0 true _ A2.out).mono ?_); rintro e w' ⟨rfl, ⟨nd, rfl⟩⟩; refine ⟨_, rfl, ?_⟩) | (go_at_call 48; (with_reducible refine (impl_word.calls a0_1 true _ A4.out).mono ?_); rintro e w' ⟨rfl, ⟨nd, rfl⟩⟩) | (go_at_call 49; (with_reducible refine (impl_in.calls a0_2 0 255 true _ A6.out).mono ?_); rintro e w' ⟨rfl, ⟨nd, rfl⟩⟩) | (go_at_call 49; (with_reducible refine (impl_in.calls a0_3 0 255 true _ A8.out).mono ?_); rintro e w' ⟨rfl, ⟨nd, rfl⟩⟩) | (go_at_call 49; (with_reducible refine (impl_in.calls a0_4 0 255 true _ A10.out).mono ?_); rintro e w' ⟨rfl, ⟨nd, rfl⟩⟩) | (go_at_call 49; (with_reducible refine (impl_in.calls a0_5 0 255 true _ A12.out).mono ?_); rintro e w' ⟨rfl, ⟨nd, rfl⟩⟩))
            go_ret
            exact ⟨by first | rfl | (simp [errW_none, errW_some] <;> rfl) | (simp [*, errW_none, errW_some] <;> rfl), hbA_ HB.out⟩
          ·replace c17 := Bool.eq_false_iff.mpr c17
           subst c17
           rw [if_neg (show ¬ (false = true) by decide)] at H
           obtain rfl := Option.some.inj H
           go_enter Try.func14, Try.ntmps14
           go_wp2_with (first | ((with_reducible refine gate_dst (N := 1) rfl ?_); (try (refine gate_guard (by rfl) ?_; dsimp only)); refine box_ (N := 1) (cs := #[.int .i64 a0_0, .int .i64 a0_1, .int .i64 a0_2, .int .i64 a0_3, .int .i64 a0_4, .int .i64 a0_5, .bool true, .bool false, .slice A0_8 l0_8.length c0_8]) (t := 28) (fun gb102 hg w23 hbox hb => ?_); have BK102 := Aside0.mk (hbox); have GW102 := ge_ hg HB; have GE102 := ge_ hg HB; replace HB := (bs_ HB hb); clear hb hbox hg; have Z24 := zz9 BK102) | ((with_reducible refine gate_callee (f := 48) rfl ?_); refine goesL_ (some 5) rfl rfl Try.func48 (by kernel_rfl) rfl #[.int .i64 a0_0] rfl ar_ ?_; (with_reducible refine (impl_word.calls a0_0 true _ A2.out).mono ?_); rintro e w' ⟨rfl, ⟨nd, rfl⟩⟩; refine ⟨_, rfl, ?_⟩) | (go_at_call 48; (with_reducible refine (impl_word.calls a0_1 true _ A4.out).mono ?_); rintro e w' ⟨rfl, ⟨nd, rfl⟩⟩) | (go_at_call 49; (with_reducible refine (impl_in.calls a0_2 0 255 true _ A6.out).mono ?_); rintro e w' ⟨rfl, ⟨nd, rfl⟩⟩) | (go_at_call 49; (with_reducible refine (impl_in.calls a0_3 0 255 true _ A8.out).mono ?_); rintro e w' ⟨rfl, ⟨nd, rfl⟩⟩) | (go_at_call 49; (with_reducible refine (impl_in.calls a0_4 0 255 true _ A10.out).mono ?_); rintro e w' ⟨rfl, ⟨nd, rfl⟩⟩) | (go_at_call 49; (with_reducible refine (impl_in.calls a0_5 0 255 true _ A12.out).mono ?_); rintro e w' ⟨rfl, ⟨nd, rfl⟩⟩))
           go_ret
           exact ⟨by first | rfl | (simp [errW_none, errW_some] <;> rfl) | (simp [*, errW_none, errW_some] <;> rfl), hbA_ HB.out⟩
         ·rw [if_neg c16] at H
          have c16b0 : decide (0 < (l0_8.length : Int)) = false := decide_eq_false c16
          have c16b1 : decide (0 < l0_8.length) = false := decide_eq_false (by omega)
          clear c16
          obtain rfl := Option.some.inj H
          go_enter Try.func14, Try.ntmps14
          go_wp2_with (first | ((with_reducible refine gate_dst (N := 1) rfl ?_); (try (refine gate_guard (by rfl) ?_; dsimp only)); refine box_ (N := 1) (cs := #[.int .i64 a0_0, .int .i64 a0_1, .int .i64 a0_2, .int .i64 a0_3, .int .i64 a0_4, .int .i64 a0_5, .bool true, .bool a0_7, .slice A0_8 l0_8.length c0_8]) (t := 28) (fun gb102 hg w25 hbox hb => ?_); have BK102 := Aside0.mk (hbox); have GW102 := ge_ hg HB; have GE102 := ge_ hg HB; replace HB := (bs_ HB hb); clear hb hbox hg; have Z26 := zz9 BK102) | ((with_reducible refine gate_callee (f := 48) rfl ?_); refine goesL_ (some 5) rfl rfl Try.func48 (by kernel_rfl) rfl #[.int .i64 a0_0] rfl ar_ ?_; (with_reducible refine (impl_word.calls a0_0 true _ A2.out).mono ?_); rintro e w' ⟨rfl, ⟨nd, rfl⟩⟩; refine ⟨_, rfl, ?_⟩) | (go_at_call 48; (with_reducible refine (impl_word.calls a0_1 true _ A4.out).mono ?_); rintro e w' ⟨rfl, ⟨nd, rfl⟩⟩) | (go_at_call 49; (with_reducible refine (impl_in.calls a0_2 0 255 true _ A6.out).mono ?_); rintro e w' ⟨rfl, ⟨nd, rfl⟩⟩) | (go_at_call 49; (with_reducible refine (impl_in.calls a0_3 0 255 true _ A8.out).mono ?_); rintro e w' ⟨rfl, ⟨nd, rfl⟩⟩) | (go_at_call 49; (with_reducible refine (impl_in.calls a0_4 0 255 true _ A10.out).mono ?_); rintro e w' ⟨rfl, ⟨nd, rfl⟩⟩) | (go_at_call 49; (with_reducible refine (impl_in.calls a0_5 0 255 true _ A12.out).mono ?_); rintro e w' ⟨rfl, ⟨nd, rfl⟩⟩))
          go_ret
          exact ⟨by first | rfl | (simp [errW_none, errW_some] <;> rfl) | (simp [*, errW_none, errW_some] <;> rfl), hbA_ HB.out⟩
        ·replace c15 := Bool.eq_false_iff.mpr c15
         subst c15
         rw [if_neg (show ¬ (false = true) by decide)] at H
         by_cases c27 : a0_7 = true
         ·subst c27
          rw [if_pos rfl] at H
          by_cases c28 : a0_5 = 0
          ·rw [if_pos c28] at H
           have c28b0 : (a0_5 == 0) = true := beq_iff_eq.mpr c28
           have c28b1 : (a0_5 != 0) = false := bne_eq_false_iff_eq.mpr c28
           clear c28
           obtain rfl := Option.some.inj H
           go_enter Try.func14, Try.ntmps14
           go_wp2_with (first | ((with_reducible refine gate_dst (N := 1) rfl ?_); (try (refine gate_guard (by rfl) ?_; dsimp only)); refine box_ (N := 1) (cs := #[.int .i64 a0_0, .int .i64 a0_1, .int .i64 a0_2, .int .i64 a0_3, .int .i64 a0_4, .int .i64 a0_5, .bool false, .bool true, .slice A0_8 l0_8.length c0_8]) (t := 28) (fun gb102 hg w29 hbox hb => ?_); have BK102 := Aside0.mk (hbox); have GW102 := ge_ hg HB; have GE102 := ge_ hg HB; replace HB := (bs_ HB hb); clear hb hbox hg; have Z30 := zz9 BK102) | ((with_reducible refine gate_callee (f := 48) rfl ?_); refine goesL_ (some 5) rfl rfl Try.func48 (by kernel_rfl) rfl #[.int .i64 a0_0] rfl ar_ ?_; (with_reducible refine (impl_word.calls a0_0 true _ A2.out).mono ?_); rintro e w' ⟨rfl, ⟨nd, rfl⟩⟩; refine ⟨_, rfl, ?_⟩) | (go_at_call 48; (with_reducible refine (impl_word.calls a0_1 true _ A4.out).mono ?_); rintro e w' ⟨rfl, ⟨nd, rfl⟩⟩) | (go_at_call 49; (with_reducible refine (impl_in.calls a0_2 0 255 true _ A6.out).mono ?_); rintro e w' ⟨rfl, ⟨nd, rfl⟩⟩) | (go_at_call 49; (with_reducible refine (impl_in.calls a0_3 0 255 true _ A8.out).mono ?_); rintro e w' ⟨rfl, ⟨nd, rfl⟩⟩) | (go_at_call 49; (with_reducible refine (impl_in.calls a0_4 0 255 true _ A10.out).mono ?_); rintro e w' ⟨rfl, ⟨nd, rfl⟩⟩) | (go_at_call 49; (with_reducible refine (impl_in.calls a0_5 0 255 true _ A12.out).mono ?_); rintro e w' ⟨rfl, ⟨nd, rfl⟩⟩))
           go_ret
           exact ⟨by first | rfl | (simp [errW_none, errW_some] <;> rfl) | (simp [*, errW_none, errW_some] <;> rfl), hbA_ HB.out⟩
          ·rw [if_neg c28] at H
           have c28b0 : (a0_5 == 0) = false := beq_eq_false_iff_ne.mpr c28
           have c28b1 : (a0_5 != 0) = true := bne_iff_ne.mpr c28
           obtain rfl := Option.some.inj H
           go_enter Try.func14, Try.ntmps14
           go_wp2_with (first | ((with_reducible refine gate_dst (N := 1) rfl ?_); (try (refine gate_guard (by rfl) ?_; dsimp only)); refine box_ (N := 1) (cs := #[.int .i64 a0_0, .int .i64 a0_1, .int .i64 a0_2, .int .i64 a0_3, .int .i64 a0_4, .int .i64 a0_5, .bool false, .bool true, .slice A0_8 l0_8.length c0_8]) (t := 28) (fun gb102 hg w31 hbox hb => ?_); have BK102 := Aside0.mk (hbox); have GW102 := ge_ hg HB; have GE102 := ge_ hg HB; replace HB := (bs_ HB hb); clear hb hbox hg; have Z32 := zz9 BK102) | ((with_reducible refine gate_callee (f := 48) rfl ?_); refine goesL_ (some 5) rfl rfl Try.func48 (by kernel_rfl) rfl #[.int .i64 a0_0] rfl ar_ ?_; (with_reducible refine (impl_word.calls a0_0 true _ A2.out).mono ?_); rintro e w' ⟨rfl, ⟨nd, rfl⟩⟩; refine ⟨_, rfl, ?_⟩) | (go_at_call 48; (with_reducible refine (impl_word.calls a0_1 true _ A4.out).mono ?_); rintro e w' ⟨rfl, ⟨nd, rfl⟩⟩) | (go_at_call 49; (with_reducible refine (impl_in.calls a0_2 0 255 true _ A6.out).mono ?_); rintro e w' ⟨rfl, ⟨nd, rfl⟩⟩) | (go_at_call 49; (with_reducible refine (impl_in.calls a0_3 0 255 true _ A8.out).mono ?_); rintro e w' ⟨rfl, ⟨nd, rfl⟩⟩) | (go_at_call 49; (with_reducible refine (impl_in.calls a0_4 0 255 true _ A10.out).mono ?_); rintro e w' ⟨rfl, ⟨nd, rfl⟩⟩) | (go_at_call 49; (with_reducible refine (impl_in.calls a0_5 0 255 true _ A12.out).mono ?_); rintro e w' ⟨rfl, ⟨nd, rfl⟩⟩))
           go_ret
           exact ⟨by first | rfl | (simp [errW_none, errW_some] <;> rfl) | (simp [*, errW_none, errW_some] <;> rfl), hbA_ HB.out⟩
         ·replace c27 := Bool.eq_false_iff.mpr c27
          subst c27
          rw [if_neg (show ¬ (false = true) by decide)] at H
          obtain rfl := Option.some.inj H
          go_enter Try.func14, Try.ntmps14
          go_wp2_with (first | ((with_reducible refine gate_dst (N := 1) rfl ?_); (try (refine gate_guard (by rfl) ?_; dsimp only)); refine box_ (N := 1) (cs := #[.int .i64 a0_0, .int .i64 a0_1, .int .i64 a0_2, .int .i64 a0_3, .int .i64 a0_4, .int .i64 a0_5, .bool false, .bool false, .slice A0_8 l0_8.length c0_8]) (t := 28) (fun gb102 hg w33 hbox hb => ?_); have BK102 := Aside0.mk (hbox); have GW102 := ge_ hg HB; have GE102 := ge_ hg HB; replace HB := (bs_ HB hb); clear hb hbox hg; have Z34 := zz9 BK102) | ((with_reducible refine gate_callee (f := 48) rfl ?_); refine goesL_ (some 5) rfl rfl Try.func48 (by kernel_rfl) rfl #[.int .i64 a0_0] rfl ar_ ?_; (with_reducible refine (impl_word.calls a0_0 true _ A2.out).mono ?_); rintro e w' ⟨rfl, ⟨nd, rfl⟩⟩; refine ⟨_, rfl, ?_⟩) | (go_at_call 48; (with_reducible refine (impl_word.calls a0_1 true _ A4.out).mono ?_); rintro e w' ⟨rfl, ⟨nd, rfl⟩⟩) | (go_at_call 49; (with_reducible refine (impl_in.calls a0_2 0 255 true _ A6.out).mono ?_); rintro e w' ⟨rfl, ⟨nd, rfl⟩⟩) | (go_at_call 49; (with_reducible refine (impl_in.calls a0_3 0 255 true _ A8.out).mono ?_); rintro e w' ⟨rfl, ⟨nd, rfl⟩⟩) | (go_at_call 49; (with_reducible refine (impl_in.calls a0_4 0 255 true _ A10.out).mono ?_); rintro e w' ⟨rfl, ⟨nd, rfl⟩⟩) | (go_at_call 49; (with_reducible refine (impl_in.calls a0_5 0 255 true _ A12.out).mono ?_); rintro e w' ⟨rfl, ⟨nd, rfl⟩⟩))
          go_ret
          exact ⟨by first | rfl | (simp [errW_none, errW_some] <;> rfl) | (simp [*, errW_none, errW_some] <;> rfl), hbA_ HB.out⟩
       ·rw [if_neg c14] at H
        have c14b0 : decide ((l0_8.length : Int) ≤ 48) = false := decide_eq_false c14
        have c14b1 : decide (l0_8.length ≤ 48) = false := decide_eq_false (by omega)
        clear c14
        obtain rfl := Option.some.inj H
        go_enter Try.func14, Try.ntmps14
        go_wp2_with (first | ((with_reducible refine gate_dst (N := 1) rfl ?_); (try (refine gate_guard (by rfl) ?_; dsimp only)); refine box_ (N := 1) (cs := #[.int .i64 a0_0, .int .i64 a0_1, .int .i64 a0_2, .int .i64 a0_3, .int .i64 a0_4, .int .i64 a0_5, .bool a0_6, .bool a0_7, .slice A0_8 l0_8.length c0_8]) (t := 28) (fun gb102 hg w35 hbox hb => ?_); have BK102 := Aside0.mk (hbox); have GW102 := ge_ hg HB; have GE102 := ge_ hg HB; replace HB := (bs_ HB hb); clear hb hbox hg; have Z36 := zz9 BK102) | ((with_reducible refine gate_callee (f := 48) rfl ?_); refine goesL_ (some 5) rfl rfl Try.func48 (by kernel_rfl) rfl #[.int .i64 a0_0] rfl ar_ ?_; (with_reducible refine (impl_word.calls a0_0 true _ A2.out).mono ?_); rintro e w' ⟨rfl, ⟨nd, rfl⟩⟩; refine ⟨_, rfl, ?_⟩) | (go_at_call 48; (with_reducible refine (impl_word.calls a0_1 true _ A4.out).mono ?_); rintro e w' ⟨rfl, ⟨nd, rfl⟩⟩) | (go_at_call 49; (with_reducible refine (impl_in.calls a0_2 0 255 true _ A6.out).mono ?_); rintro e w' ⟨rfl, ⟨nd, rfl⟩⟩) | (go_at_call 49; (with_reducible refine (impl_in.calls a0_3 0 255 true _ A8.out).mono ?_); rintro e w' ⟨rfl, ⟨nd, rfl⟩⟩) | (go_at_call 49; (with_reducible refine (impl_in.calls a0_4 0 255 true _ A10.out).mono ?_); rintro e w' ⟨rfl, ⟨nd, rfl⟩⟩) | (go_at_call 49; (with_reducible refine (impl_in.calls a0_5 0 255 true _ A12.out).mono ?_); rintro e w' ⟨rfl, ⟨nd, rfl⟩⟩))
        go_ret
        exact ⟨by first | rfl | (simp [errW_none, errW_some] <;> rfl) | (simp [*, errW_none, errW_some] <;> rfl), hbA_ HB.out⟩
      ·replace c13 := Bool.eq_false_iff.mpr c13
       subst c13
       rw [if_neg (show ¬ (false = true) by decide)] at H
       obtain rfl := Option.some.inj H
       go_enter Try.func14, Try.ntmps14
       go_wp2_with (first | ((with_reducible refine gate_dst (N := 1) rfl ?_); (try (refine gate_guard (by rfl) ?_; dsimp only)); refine box_ (N := 1) (cs := #[.int .i64 a0_0, .int .i64 a0_1, .int .i64 a0_2, .int .i64 a0_3, .int .i64 a0_4, .int .i64 a0_5, .bool a0_6, .bool a0_7, .slice A0_8 l0_8.length c0_8]) (t := 28) (fun gb102 hg w37 hbox hb => ?_); have BK102 := Aside0.mk (hbox); have GW102 := ge_ hg HB; have GE102 := ge_ hg HB; replace HB := (bs_ HB hb); clear hb hbox hg; have Z38 := zz9 BK102) | ((with_reducible refine gate_callee (f := 48) rfl ?_); refine goesL_ (some 5) rfl rfl Try.func48 (by kernel_rfl) rfl #[.int .i64 a0_0] rfl ar_ ?_; (with_reducible refine (impl_word.calls a0_0 true _ A2.out).mono ?_); rintro e w' ⟨rfl, ⟨nd, rfl⟩⟩; refine ⟨_, rfl, ?_⟩) | (go_at_call 48; (with_reducible refine (impl_word.calls a0_1 true _ A4.out).mono ?_); rintro e w' ⟨rfl, ⟨nd, rfl⟩⟩) | (go_at_call 49; (with_reducible refine (impl_in.calls a0_2 0 255 true _ A6.out).mono ?_); rintro e w' ⟨rfl, ⟨nd, rfl⟩⟩) | (go_at_call 49; (with_reducible refine (impl_in.calls a0_3 0 255 true _ A8.out).mono ?_); rintro e w' ⟨rfl, ⟨nd, rfl⟩⟩) | (go_at_call 49; (with_reducible refine (impl_in.calls a0_4 0 255 true _ A10.out).mono ?_); rintro e w' ⟨rfl, ⟨nd, rfl⟩⟩) | (go_at_call 49; (with_reducible refine (impl_in.calls a0_5 0 255 false _ A12.out).mono ?_); rintro e w' ⟨rfl, ⟨nd, rfl⟩⟩))
       go_ret
       exact ⟨by first | rfl | (simp [errW_none, errW_some] <;> rfl) | (simp [*, errW_none, errW_some] <;> rfl), hbA_ HB.out⟩
     ·replace c11 := Bool.eq_false_iff.mpr c11
      subst c11
      rw [if_neg (show ¬ (false = true) by decide)] at H
      obtain rfl := Option.some.inj H
      go_enter Try.func14, Try.ntmps14
      go_wp2_with (first | ((with_reducible refine gate_dst (N := 1) rfl ?_); (try (refine gate_guard (by rfl) ?_; dsimp only)); refine box_ (N := 1) (cs := #[.int .i64 a0_0, .int .i64 a0_1, .int .i64 a0_2, .int .i64 a0_3, .int .i64 a0_4, .int .i64 a0_5, .bool a0_6, .bool a0_7, .slice A0_8 l0_8.length c0_8]) (t := 28) (fun gb102 hg w39 hbox hb => ?_); have BK102 := Aside0.mk (hbox); have GW102 := ge_ hg HB; have GE102 := ge_ hg HB; replace HB := (bs_ HB hb); clear hb hbox hg; have Z40 := zz9 BK102) | ((with_reducible refine gate_callee (f := 48) rfl ?_); refine goesL_ (some 5) rfl rfl Try.func48 (by kernel_rfl) rfl #[.int .i64 a0_0] rfl ar_ ?_; (with_reducible refine (impl_word.calls a0_0 true _ A2.out).mono ?_); rintro e w' ⟨rfl, ⟨nd, rfl⟩⟩; refine ⟨_, rfl, ?_⟩) | (go_at_call 48; (with_reducible refine (impl_word.calls a0_1 true _ A4.out).mono ?_); rintro e w' ⟨rfl, ⟨nd, rfl⟩⟩) | (go_at_call 49; (with_reducible refine (impl_in.calls a0_2 0 255 true _ A6.out).mono ?_); rintro e w' ⟨rfl, ⟨nd, rfl⟩⟩) | (go_at_call 49; (with_reducible refine (impl_in.calls a0_3 0 255 true _ A8.out).mono ?_); rintro e w' ⟨rfl, ⟨nd, rfl⟩⟩) | (go_at_call 49; (with_reducible refine (impl_in.calls a0_4 0 255 false _ A10.out).mono ?_); rintro e w' ⟨rfl, ⟨nd, rfl⟩⟩))
      go_ret
      exact ⟨by first | rfl | (simp [errW_none, errW_some] <;> rfl) | (simp [*, errW_none, errW_some] <;> rfl), hbA_ HB.out⟩
    ·replace c9 := Bool.eq_false_iff.mpr c9
     subst c9
     rw [if_neg (show ¬ (false = true) by decide)] at H
     obtain rfl := Option.some.inj H
     go_enter Try.func14, Try.ntmps14
     go_wp2_with (first | ((with_reducible refine gate_dst (N := 1) rfl ?_); (try (refine gate_guard (by rfl) ?_; dsimp only)); refine box_ (N := 1) (cs := #[.int .i64 a0_0, .int .i64 a0_1, .int .i64 a0_2, .int .i64 a0_3, .int .i64 a0_4, .int .i64 a0_5, .bool a0_6, .bool a0_7, .slice A0_8 l0_8.length c0_8]) (t := 28) (fun gb102 hg w41 hbox hb => ?_); have BK102 := Aside0.mk (hbox); have GW102 := ge_ hg HB; have GE102 := ge_ hg HB; replace HB := (bs_ HB hb); clear hb hbox hg; have Z42 := zz9 BK102) | ((with_reducible refine gate_callee (f := 48) rfl ?_); refine goesL_ (some 5) rfl rfl Try.func48 (by kernel_rfl) rfl #[.int .i64 a0_0] rfl ar_ ?_; (with_reducible refine (impl_word.calls a0_0 true _ A2.out).mono ?_); rintro e w' ⟨rfl, ⟨nd, rfl⟩⟩; refine ⟨_, rfl, ?_⟩) | (go_at_call 48; (with_reducible refine (impl_word.calls a0_1 true _ A4.out).mono ?_); rintro e w' ⟨rfl, ⟨nd, rfl⟩⟩) | (go_at_call 49; (with_reducible refine (impl_in.calls a0_2 0 255 true _ A6.out).mono ?_); rintro e w' ⟨rfl, ⟨nd, rfl⟩⟩) | (go_at_call 49; (with_reducible refine (impl_in.calls a0_3 0 255 false _ A8.out).mono ?_); rintro e w' ⟨rfl, ⟨nd, rfl⟩⟩))
     go_ret
     exact ⟨by first | rfl | (simp [errW_none, errW_some] <;> rfl) | (simp [*, errW_none, errW_some] <;> rfl), hbA_ HB.out⟩
   ·replace c7 := Bool.eq_false_iff.mpr c7
    subst c7
    rw [if_neg (show ¬ (false = true) by decide)] at H
    obtain rfl := Option.some.inj H
    go_enter Try.func14, Try.ntmps14
    go_wp2_with (first | ((with_reducible refine gate_dst (N := 1) rfl ?_); (try (refine gate_guard (by rfl) ?_; dsimp only)); refine box_ (N := 1) (cs := #[.int .i64 a0_0, .int .i64 a0_1, .int .i64 a0_2, .int .i64 a0_3, .int .i64 a0_4, .int .i64 a0_5, .bool a0_6, .bool a0_7, .slice A0_8 l0_8.length c0_8]) (t := 28) (fun gb102 hg w43 hbox hb => ?_); have BK102 := Aside0.mk (hbox); have GW102 := ge_ hg HB; have GE102 := ge_ hg HB; replace HB := (bs_ HB hb); clear hb hbox hg; have Z44 := zz9 BK102) | ((with_reducible refine gate_callee (f := 48) rfl ?_); refine goesL_ (some 5) rfl rfl Try.func48 (by kernel_rfl) rfl #[.int .i64 a0_0] rfl ar_ ?_; (with_reducible refine (impl_word.calls a0_0 true _ A2.out).mono ?_); rintro e w' ⟨rfl, ⟨nd, rfl⟩⟩; refine ⟨_, rfl, ?_⟩) | (go_at_call 48; (with_reducible refine (impl_word.calls a0_1 true _ A4.out).mono ?_); rintro e w' ⟨rfl, ⟨nd, rfl⟩⟩) | (go_at_call 49; (with_reducible refine (impl_in.calls a0_2 0 255 false _ A6.out).mono ?_); rintro e w' ⟨rfl, ⟨nd, rfl⟩⟩))
    go_ret
    exact ⟨by first | rfl | (simp [errW_none, errW_some] <;> rfl) | (simp [*, errW_none, errW_some] <;> rfl), hbA_ HB.out⟩
  ·replace c5 := Bool.eq_false_iff.mpr c5
   subst c5
   rw [if_neg (show ¬ (false = true) by decide)] at H
   obtain rfl := Option.some.inj H
   go_enter Try.func14, Try.ntmps14
   go_wp2_with (first | ((with_reducible refine gate_dst (N := 1) rfl ?_); (try (refine gate_guard (by rfl) ?_; dsimp only)); refine box_ (N := 1) (cs := #[.int .i64 a0_0, .int .i64 a0_1, .int .i64 a0_2, .int .i64 a0_3, .int .i64 a0_4, .int .i64 a0_5, .bool a0_6, .bool a0_7, .slice A0_8 l0_8.length c0_8]) (t := 28) (fun gb102 hg w45 hbox hb => ?_); have BK102 := Aside0.mk (hbox); have GW102 := ge_ hg HB; have GE102 := ge_ hg HB; replace HB := (bs_ HB hb); clear hb hbox hg; have Z46 := zz9 BK102) | ((with_reducible refine gate_callee (f := 48) rfl ?_); refine goesL_ (some 5) rfl rfl Try.func48 (by kernel_rfl) rfl #[.int .i64 a0_0] rfl ar_ ?_; (with_reducible refine (impl_word.calls a0_0 true _ A2.out).mono ?_); rintro e w' ⟨rfl, ⟨nd, rfl⟩⟩; refine ⟨_, rfl, ?_⟩) | (go_at_call 48; (with_reducible refine (impl_word.calls a0_1 false _ A4.out).mono ?_); rintro e w' ⟨rfl, ⟨nd, rfl⟩⟩))
   go_ret
   exact ⟨by first | rfl | (simp [errW_none, errW_some] <;> rfl) | (simp [*, errW_none, errW_some] <;> rfl), hbA_ HB.out⟩
 ·replace c3 := Bool.eq_false_iff.mpr c3
  subst c3
  rw [if_neg (show ¬ (false = true) by decide)] at H
  obtain rfl := Option.some.inj H
  go_enter Try.func14, Try.ntmps14
  go_wp2_with (first | ((with_reducible refine gate_dst (N := 1) rfl ?_); (try (refine gate_guard (by rfl) ?_; dsimp only)); refine box_ (N := 1) (cs := #[.int .i64 a0_0, .int .i64 a0_1, .int .i64 a0_2, .int .i64 a0_3, .int .i64 a0_4, .int .i64 a0_5, .bool a0_6, .bool a0_7, .slice A0_8 l0_8.length c0_8]) (t := 28) (fun gb102 hg w47 hbox hb => ?_); have BK102 := Aside0.mk (hbox); have GW102 := ge_ hg HB; have GE102 := ge_ hg HB; replace HB := (bs_ HB hb); clear hb hbox hg; have Z48 := zz9 BK102) | ((with_reducible refine gate_callee (f := 48) rfl ?_); refine goesL_ (some 5) rfl rfl Try.func48 (by kernel_rfl) rfl #[.int .i64 a0_0] rfl ar_ ?_; (with_reducible refine (impl_word.calls a0_0 false _ A2.out).mono ?_); rintro e w' ⟨rfl, ⟨nd, rfl⟩⟩; refine ⟨_, rfl, ?_⟩))
  go_ret
  exact ⟨by first | rfl | (simp [errW_none, errW_some] <;> rfl) | (simp [*, errW_none, errW_some] <;> rfl), hbA_ HB.out⟩
def impl_Packet_same.f (a0_0 : Int) (a0_1 : Int) (a0_2 : Int) (a0_3 : Int) (a0_4 : Int) (a0_5 : Int) (a0_6 : Bool) (a0_7 : Bool) (l0_8 : List Int) (a1_0 : Int) (a1_1 : Int) (a1_2 : Int) (a1_3 : Int) (a1_4 : Int) (a1_5 : Int) (a1_6 : Bool) (a1_7 : Bool) (l1_8 : List Int) : Option (Bool) := if a0_0 = a1_0 then (if a0_1 = a1_1 then (if a0_2 = a1_2 then (some (a0_4 == a1_4)) else (some false)) else (some false)) else (some false)
set_option maxHeartbeats 8000000 in
set_option maxRecDepth 100000 in
theorem impl_Packet_same.calls (a0_0 : Int) (a0_1 : Int) (a0_2 : Int) (a0_3 : Int) (a0_4 : Int) (a0_5 : Int) (a0_6 : Bool) (a0_7 : Bool) (A0_8 : Option Addr) (c0_8 : Nat) (l0_8 : List Int) (a1_0 : Int) (a1_1 : Int) (a1_2 : Int) (a1_3 : Int) (a1_4 : Int) (a1_5 : Int) (a1_6 : Bool) (a1_7 : Bool) (A1_8 : Option Addr) (c1_8 : Nat) (l1_8 : List Int) (r : Bool) (w : World) (hr0_8 : Kd.C (Kd.int .u8) w A0_8 l0_8.length l0_8) (hc0_8 : l0_8.length ≤ c0_8) (hr1_8 : Kd.C (Kd.int .u8) w A1_8 l1_8.length l1_8) (hc1_8 : l1_8.length ≤ c1_8) (h : impl_Packet_same.f a0_0 a0_1 a0_2 a0_3 a0_4 a0_5 a0_6 a0_7 l0_8 a1_0 a1_1 a1_2 a1_3 a1_4 a1_5 a1_6 a1_7 l1_8 = some r) :
  Calls Try.prog 81 #[.agg #[.int .i64 a0_0, .int .i64 a0_1, .int .i64 a0_2, .int .i64 a0_3, .int .i64 a0_4, .int .i64 a0_5, .bool a0_6, .bool a0_7, .slice A0_8 l0_8.length c0_8], .agg #[.int .i64 a1_0, .int .i64 a1_1, .int .i64 a1_2, .int .i64 a1_3, .int .i64 a1_4, .int .i64 a1_5, .bool a1_6, .bool a1_7, .slice A1_8 l1_8.length c1_8]] w fun e w' => e = .returned (.bool r) ∧ Below w.heap.size w w' := by
 have hu28 := Try.underlying28; have HR0_8 := Aside0.mk hr0_8; have HC0_8 := Aside0.mk hc0_8; clear hr0_8 hc0_8; have HR1_8 := Aside0.mk hr1_8; have HC1_8 := Aside0.mk hc1_8; clear hr1_8 hc1_8
 have HB := Aside0.mk (Below.refl w.heap.size w)
 have H : (if a0_0 = a1_0 then (if a0_1 = a1_1 then (if a0_2 = a1_2 then (some (a0_4 == a1_4)) else (some false)) else (some false)) else (some false)) = some r := h
 clear h
 by_cases c3 : a0_0 = a1_0
 ·rw [if_pos c3] at H
  have c3b0 : (a0_0 == a1_0) = true := beq_iff_eq.mpr c3
  have c3b1 : (a0_0 != a1_0) = false := bne_eq_false_iff_eq.mpr c3
  clear c3
  by_cases c4 : a0_1 = a1_1
  ·rw [if_pos c4] at H
   have c4b0 : (a0_1 == a1_1) = true := beq_iff_eq.mpr c4
   have c4b1 : (a0_1 != a1_1) = false := bne_eq_false_iff_eq.mpr c4
   clear c4
   by_cases c5 : a0_2 = a1_2
   ·rw [if_pos c5] at H
    have c5b0 : (a0_2 == a1_2) = true := beq_iff_eq.mpr c5
    have c5b1 : (a0_2 != a1_2) = false := bne_eq_false_iff_eq.mpr c5
    clear c5
    obtain rfl := Option.some.inj H
    go_enter Try.func81, Try.ntmps81
    go_wp2_with (first | ((with_reducible refine gate_dst (N := 2) rfl ?_); refine box_ (N := 2) (cs := #[.int .i64 a0_0, .int .i64 a0_1, .int .i64 a0_2, .int .i64 a0_3, .int .i64 a0_4, .int .i64 a0_5, .bool a0_6, .bool a0_7, .slice A0_8 l0_8.length c0_8]) (t := 28) (fun gb109 hg w6 hbox hb => ?_); have BK109 := Aside0.mk (hbox); have GW109 := ge_ hg HB; have GE109 := ge_ hg HB; replace HB := (bs_ HB hb); clear hb hbox hg) | ((with_reducible refine gate_dst (N := 3) rfl ?_); refine box_ (N := 3) (cs := #[.int .i64 a1_0, .int .i64 a1_1, .int .i64 a1_2, .int .i64 a1_3, .int .i64 a1_4, .int .i64 a1_5, .bool a1_6, .bool a1_7, .slice A1_8 l1_8.length c1_8]) (t := 28) (fun gb110 hg w7 hbox hb => ?_); have BK110 := Aside0.mk (hbox); have GW110 := ge_ hg HB; have GE110 := ge_ hg HB; replace HB := (bs_ HB hb); have NB109_110 := nl_ hg BK109; have NB110_109 := ng_ hg BK109; replace BK109 := (bbA_ BK109 hb); clear hb hbox hg; have hnb8 := NB109_110.out; have hnc8 := NB110_109.out; have Z9 := zz9 BK109; have Z10 := zz9 BK110))
    go_ret
    exact ⟨by first | rfl | (simp [errW_none, errW_some] <;> rfl) | (simp [*, errW_none, errW_some] <;> rfl), hbA_ HB.out⟩
   ·rw [if_neg c5] at H
    have c5b0 : (a0_2 == a1_2) = false := beq_eq_false_iff_ne.mpr c5
    have c5b1 : (a0_2 != a1_2) = true := bne_iff_ne.mpr c5
    obtain rfl := Option.some.inj H
    go_enter Try.func81, Try.ntmps81
    go_wp2_with (first | ((with_reducible refine gate_dst (N := 2) rfl ?_); refine box_ (N := 2) (cs := #[.int .i64 a0_0, .int .i64 a0_1, .int .i64 a0_2, .int .i64 a0_3, .int .i64 a0_4, .int .i64 a0_5, .bool a0_6, .bool a0_7, .slice A0_8 l0_8.length c0_8]) (t := 28) (fun gb109 hg w11 hbox hb => ?_); have BK109 := Aside0.mk (hbox); have GW109 := ge_ hg HB; have GE109 := ge_ hg HB; replace HB := (bs_ HB hb); clear hb hbox hg) | ((with_reducible refine gate_dst (N := 3) rfl ?_); refine box_ (N := 3) (cs := #[.int .i64 a1_0, .int .i64 a1_1, .int .i64 a1_2, .int .i64 a1_3, .int .i64 a1_4, .int .i64 a1_5, .bool a1_6, .bool a1_7, .slice A1_8 l1_8.length c1_8]) (t := 28) (fun gb110 hg w12 hbox hb => ?_); have BK110 := Aside0.mk (hbox); have GW110 := ge_ hg HB; have GE110 := ge_ hg HB; replace HB := (bs_ HB hb); have NB109_110 := nl_ hg BK109; have NB110_109 := ng_ hg BK109; replace BK109 := (bbA_ BK109 hb); clear hb hbox hg; have hnb13 := NB109_110.out; have hnc13 := NB110_109.out; have Z14 := zz9 BK109; have Z15 := zz9 BK110))
    go_ret
    exact ⟨by first | rfl | (simp [errW_none, errW_some] <;> rfl) | (simp [*, errW_none, errW_some] <;> rfl), hbA_ HB.out⟩
  ·rw [if_neg c4] at H
   have c4b0 : (a0_1 == a1_1) = false := beq_eq_false_iff_ne.mpr c4
   have c4b1 : (a0_1 != a1_1) = true := bne_iff_ne.mpr c4
   obtain rfl := Option.some.inj H
   go_enter Try.func81, Try.ntmps81
   go_wp2_with (first | ((with_reducible refine gate_dst (N := 2) rfl ?_); refine box_ (N := 2) (cs := #[.int .i64 a0_0, .int .i64 a0_1, .int .i64 a0_2, .int .i64 a0_3, .int .i64 a0_4, .int .i64 a0_5, .bool a0_6, .bool a0_7, .slice A0_8 l0_8.length c0_8]) (t := 28) (fun gb109 hg w16 hbox hb => ?_); have BK109 := Aside0.mk (hbox); have GW109 := ge_ hg HB; have GE109 := ge_ hg HB; replace HB := (bs_ HB hb); clear hb hbox hg) | ((with_reducible refine gate_dst (N := 3) rfl ?_); refine box_ (N := 3) (cs := #[.int .i64 a1_0, .int .i64 a1_1, .int .i64 a1_2, .int .i64 a1_3, .int .i64 a1_4, .int .i64 a1_5, .bool a1_6, .bool a1_7, .slice A1_8 l1_8.length c1_8]) (t := 28) (fun gb110 hg w17 hbox hb => ?_); have BK110 := Aside0.mk (hbox); have GW110 := ge_ hg HB; have GE110 := ge_ hg HB; replace HB := (bs_ HB hb); have NB109_110 := nl_ hg BK109; have NB110_109 := ng_ hg BK109; replace BK109 := (bbA_ BK109 hb); clear hb hbox hg; have hnb18 := NB109_110.out; have hnc18 := NB110_109.out; have Z19 := zz9 BK109; have Z20 := zz9 BK110))
   go_ret
   exact ⟨by first | rfl | (simp [errW_none, errW_some] <;> rfl) | (simp [*, errW_none, errW_some] <;> rfl), hbA_ HB.out⟩
 ·rw [if_neg c3] at H
  have c3b0 : (a0_0 == a1_0) = false := beq_eq_false_iff_ne.mpr c3
  have c3b1 : (a0_0 != a1_0) = true := bne_iff_ne.mpr c3
  obtain rfl := Option.some.inj H
  go_enter Try.func81, Try.ntmps81
  go_wp2_with (first | ((with_reducible refine gate_dst (N := 2) rfl ?_); refine box_ (N := 2) (cs := #[.int .i64 a0_0, .int .i64 a0_1, .int .i64 a0_2, .int .i64 a0_3, .int .i64 a0_4, .int .i64 a0_5, .bool a0_6, .bool a0_7, .slice A0_8 l0_8.length c0_8]) (t := 28) (fun gb109 hg w21 hbox hb => ?_); have BK109 := Aside0.mk (hbox); have GW109 := ge_ hg HB; have GE109 := ge_ hg HB; replace HB := (bs_ HB hb); clear hb hbox hg) | ((with_reducible refine gate_dst (N := 3) rfl ?_); refine box_ (N := 3) (cs := #[.int .i64 a1_0, .int .i64 a1_1, .int .i64 a1_2, .int .i64 a1_3, .int .i64 a1_4, .int .i64 a1_5, .bool a1_6, .bool a1_7, .slice A1_8 l1_8.length c1_8]) (t := 28) (fun gb110 hg w22 hbox hb => ?_); have BK110 := Aside0.mk (hbox); have GW110 := ge_ hg HB; have GE110 := ge_ hg HB; replace HB := (bs_ HB hb); have NB109_110 := nl_ hg BK109; have NB110_109 := ng_ hg BK109; replace BK109 := (bbA_ BK109 hb); clear hb hbox hg; have hnb23 := NB109_110.out; have hnc23 := NB110_109.out; have Z24 := zz9 BK109; have Z25 := zz9 BK110))
  go_ret
  exact ⟨by first | rfl | (simp [errW_none, errW_some] <;> rfl) | (simp [*, errW_none, errW_some] <;> rfl), hbA_ HB.out⟩
mutual
def impl_PartOk.l0 : Nat → Int → List (S28) → Int → Int → List (S28) → Int → Option (Bool)
 | 0, _, _, _, _, _, _ => none
 | k + 1, x3, x8, x9, x10, x112000, x112001 => if x10 < x9 then (if 0 ≤ x10 then (if x10 < (x8.length : Int) then ((impl_PacketOk.f ((rd_T28 x8 x10).f0) ((rd_T28 x8 x10).f1) ((rd_T28 x8 x10).f2) ((rd_T28 x8 x10).f3) ((rd_T28 x8 x10).f4) ((rd_T28 x8 x10).f5) ((rd_T28 x8 x10).f6) ((rd_T28 x8 x10).f7) ((rd_T28 x8 x10).f8)).bind fun t115 => (if t115 = true then (if 0 < (x112000.length : Int) then ((impl_Packet_same.f ((rd_T28 x8 x10).f0) ((rd_T28 x8 x10).f1) ((rd_T28 x8 x10).f2) ((rd_T28 x8 x10).f3) ((rd_T28 x8 x10).f4) ((rd_T28 x8 x10).f5) ((rd_T28 x8 x10).f6) ((rd_T28 x8 x10).f7) ((rd_T28 x8 x10).f8) ((rd_T28 x112000 0).f0) ((rd_T28 x112000 0).f1) ((rd_T28 x112000 0).f2) ((rd_T28 x112000 0).f3) ((rd_T28 x112000 0).f4) ((rd_T28 x112000 0).f5) ((rd_T28 x112000 0).f6) ((rd_T28 x112000 0).f7) ((rd_T28 x112000 0).f8)).bind fun t117 => (impl_PartOk.j1 k x3 x10 x8 x9 x10 (!t117) x112000 x112001 ((rd_T28 x8 x10).f0) ((rd_T28 x8 x10).f1) ((rd_T28 x8 x10).f2) ((rd_T28 x8 x10).f3) ((rd_T28 x8 x10).f4) ((rd_T28 x8 x10).f5) ((rd_T28 x8 x10).f6) ((rd_T28 x8 x10).f7) ((rd_T28 x8 x10).f8))) else (none)) else (impl_PartOk.j1 k x3 x10 x8 x9 x10 true x112000 x112001 ((rd_T28 x8 x10).f0) ((rd_T28 x8 x10).f1) ((rd_T28 x8 x10).f2) ((rd_T28 x8 x10).f3) ((rd_T28 x8 x10).f4) ((rd_T28 x8 x10).f5) ((rd_T28 x8 x10).f6) ((rd_T28 x8 x10).f7) ((rd_T28 x8 x10).f8)))) else (none)) else (none)) else (if (x112000.length : Int) > 0 then (if x3 ≤ 48 then ((impl_in.f x112001 0 1000000).bind fun t112 => (some t112)) else (some false)) else (some false))
def impl_PartOk.j1 : Nat → Int → Int → List (S28) → Int → Int → Bool → List (S28) → Int → Int → Int → Int → Int → Int → Int → Bool → Bool → List Int → Option (Bool)
 | 0, _, _, _, _, _, _, _, _, _, _, _, _, _, _, _, _, _ => none
 | k + 1, x3, x4, x8, x9, x10, x26, x112000, x112001, x115000, x115001, x115002, x115003, x115004, x115005, x115006, x115007, x115008 => if x26 = true then (some false) else (if x4 > 0 then (if 0 ≤ (wrap64 (x4 - 1)) then (if (wrap64 (x4 - 1)) < (x112000.length : Int) then (if x115005 < (wrap64 (((rd_T28 x112000 (wrap64 (x4 - 1))).f5) + (((rd_T28 x112000 (wrap64 (x4 - 1))).f8).length : Int))) then (some false) else (if ((rd_T28 x112000 (wrap64 (x4 - 1))).f6 = true) then (impl_PartOk.l0 k (wrap64 (x3 + (x115008.length : Int))) x8 x9 (wrap64 (x10 + 1)) x112000 x112001) else (some false))) else (none)) else (none)) else (impl_PartOk.l0 k (wrap64 (x3 + (x115008.length : Int))) x8 x9 (wrap64 (x10 + 1)) x112000 x112001))
end
def impl_PartOk.f (k : Nat) (l0_0 : List (S28)) (a0_1 : Int) : Option (Bool) := impl_PartOk.l0 k 0 l0_0 (l0_0.length : Int) 0 l0_0 a0_1
theorem impl_PartOk.mono_l : ∀ k, (∀ y0 y1 y2 y3 y4 y5, LeO (impl_PartOk.l0 k y0 y1 y2 y3 y4 y5) (impl_PartOk.l0 (k + 1) y0 y1 y2 y3 y4 y5)) ∧ (∀ y0 y1 y2 y3 y4 y5 y6 y7 y8 y9 y10 y11 y12 y13 y14 y15 y16, LeO (impl_PartOk.j1 k y0 y1 y2 y3 y4 y5 y6 y7 y8 y9 y10 y11 y12 y13 y14 y15 y16) (impl_PartOk.j1 (k + 1) y0 y1 y2 y3 y4 y5 y6 y7 y8 y9 y10 y11 y12 y13 y14 y15 y16))
 | 0 => ⟨fun _ _ _ _ _ _ r h => by simp [impl_PartOk.l0] at h, fun _ _ _ _ _ _ _ _ _ _ _ _ _ _ _ _ _ r h => by simp [impl_PartOk.j1] at h⟩
 | k + 1 => by
  obtain ⟨ih0, ih1⟩ := impl_PartOk.mono_l k
  refine ⟨?_, ?_⟩
  ·intro y0 y1 y2 y3 y4 y5
   unfold impl_PartOk.l0
   repeat' first | (with_reducible first | apply ih0 | apply ih1 | exact LeO.refl _ | exact LeO.none _ | refine LeO.ite ?_ ?_ | refine LeO.bind ?_ fun _ => ?_) | apply ih0 | apply ih1 | exact LeO.none _ | refine LeO.ite ?_ ?_ | refine LeO.bind ?_ fun _ => ?_
  ·intro y0 y1 y2 y3 y4 y5 y6 y7 y8 y9 y10 y11 y12 y13 y14 y15 y16
   unfold impl_PartOk.j1
   repeat' first | (with_reducible first | apply ih0 | apply ih1 | exact LeO.refl _ | exact LeO.none _ | refine LeO.ite ?_ ?_ | refine LeO.bind ?_ fun _ => ?_) | apply ih0 | apply ih1 | exact LeO.none _ | refine LeO.ite ?_ ?_ | refine LeO.bind ?_ fun _ => ?_
theorem impl_PartOk.mono : ∀ a0 a1 k, LeO (impl_PartOk.f k a0 a1) (impl_PartOk.f (k + 1) a0 a1) := by
 intro a0 a1 k
 obtain ⟨ih0, ih1⟩ := impl_PartOk.mono_l k
 unfold impl_PartOk.f
 repeat' first | (with_reducible first | apply ih0 | apply ih1 | exact LeO.refl _ | exact LeO.none _ | refine LeO.ite ?_ ?_ | refine LeO.bind ?_ fun _ => ?_) | apply ih0 | apply ih1 | exact LeO.none _ | refine LeO.ite ?_ ?_ | refine LeO.bind ?_ fun _ => ?_
def impl_PartOk.T5 : Bool × List (List Nat × List Nat) := (true, [([], []), ([0], [0]), ([1], [1]), ([2, 1], [2]), ([3], [3]), ([3], [3]), ([5, 3], [3, 5]), ([6, 3], [3, 6]), ([7, 3], [3, 7]), ([4, 8, 3, 3], [3, 4, 8]), ([9, 3], [3, 9]), ([3, 10], [3, 10])])
def impl_PartOk.B5 : List Nat := [0, 1, 3, 7, 15, 15, 47, 111, 239, 511, 1023, 2047]
theorem impl_PartOk.tab5 : rtab .any (opsOf Try.f44 5) = impl_PartOk.T5 := by kernel_rfl
theorem impl_PartOk.bits5 : waitsOk impl_PartOk.T5.2 impl_PartOk.B5 = true := by kernel_rfl
set_option maxHeartbeats 8000000 in
set_option maxRecDepth 100000 in
theorem impl_PartOk.calls (k : Nat) (A0_0 : Option Addr) (c0_0 : Nat) (l0_0 : List (S28)) (a0_1 : Int) (r : Bool) (w : World) (hr0_0 : Kd.C k28 w A0_0 l0_0.length l0_0) (hc0_0 : l0_0.length ≤ c0_0) (h : impl_PartOk.f k l0_0 a0_1 = some r) :
  Calls Try.prog 44 #[.agg #[.slice A0_0 l0_0.length c0_0, .int .i64 a0_1]] w fun e w' => e = .returned (.bool r) ∧ Below w.heap.size w w' := by
 have hu25 := Try.underlying25; have hu28 := Try.underlying28; have HR0_0 := Aside0.mk hr0_0; have HC0_0 := Aside0.mk hc0_0; clear hr0_0 hc0_0
 have HB := Aside0.mk (Below.refl w.heap.size w)
 have H : (impl_PartOk.l0 k 0 l0_0 (l0_0.length : Int) 0 l0_0 a0_1) = some r := h
 clear h
 have H' := Aside0.mk H
 clear H
 go_enter Try.func44, Try.ntmps44
 go_wp2_with (first | ((with_reducible refine gate_dst (N := 1) rfl ?_); refine box_ (N := 1) (cs := #[.slice A0_0 l0_0.length c0_0, .int .i64 a0_1]) (t := 25) (fun gb111 hg w2 hbox hb => ?_); have BK111 := Aside0.mk (hbox); have GW111 := ge_ hg HB; have GE111 := ge_ hg HB; replace HB := (bs_ HB hb); clear hb hbox hg; have Z3 := zz2 BK111))
 go_loopg [3, 10] k (fun kq v3 v10 w' => ∃ (x3_1 : Int) (x10_1 : Int), v3 = .int .i64 x3_1 ∧ v10 = .int .i64 x10_1 ∧ Aside0 (impl_PartOk.l0 kq x3_1 l0_0 (l0_0.length : Int) x10_1 l0_0 a0_1 = some r) ∧ Aside0 (kq ≤ k) ∧ Aside0 (w'.heap[gb111]? = some (.cells #[(.slice A0_0 l0_0.length c0_0), .int .i64 a0_1] 25 (0, 0))) ∧ Aside0 (Below w.heap.size w w'))
 case atStart => exact ⟨(0), (0), (by first | rfl | (simp; done) | (simp [*]; done)), (by first | rfl | (simp; done) | (simp [*]; done)), H', ⟨Nat.le_refl _⟩, ⟨by refine kb_ ?_; exact BK111.out⟩, ⟨hbA_ HB.out⟩⟩
 case round =>
  clear H'; (try clear p2); (try clear Z3)
  obtain ⟨x3_1, x10_1, rfl, rfl, HA, HK1, BK111, HB⟩ := hrel
  cases gk with
  | zero => exact absurd HA.out (by simp [impl_PartOk.l0])
  | succ k1 =>
   have H := HA.out; clear HA
   simp only [impl_PartOk.l0] at H
   by_cases c4 : x10_1 < (l0_0.length : Int)
   ·rw [if_pos c4] at H
    have c4b0 : decide (x10_1 < (l0_0.length : Int)) = true := decide_eq_true c4
    clear c4
    by_cases c5 : 0 ≤ x10_1
    ·rw [if_pos c5] at H
     have c5b0 : decide (0 ≤ x10_1) = true := decide_eq_true c5
     clear c5
     by_cases c6 : x10_1 < (l0_0.length : Int)
     ·rw [if_pos c6] at H
      have c6b0 : decide (x10_1 < (l0_0.length : Int)) = true := decide_eq_true c6
      clear c6; have HC7 := Aside0.mk H; clear H
      have p113 : 0 ≤ (x10_1 : Int) := of_decide_eq_true (by first | (with_reducible assumption) | assumption)
      have q113 : x10_1 < (l0_0.length : Int) := of_decide_eq_true (by first | (with_reducible assumption) | assumption)
      obtain ⟨ad113, A113_8, c113_8, e113, hx113_0, hx113_1, hx113_2, hx113_3, hx113_4, hx113_5, hx113_6, hx113_7, hx113_8, hl113_8, hi113_8⟩ := at_T28 HR0_0.out x10_1 p113 q113
      cases e113
      replace hx113_0 := cc_ HB hx113_0
      replace hx113_1 := cc_ HB hx113_1
      replace hx113_2 := cc_ HB hx113_2
      replace hx113_3 := cc_ HB hx113_3
      replace hx113_4 := cc_ HB hx113_4
      replace hx113_5 := cc_ HB hx113_5
      replace hx113_6 := cc_ HB hx113_6
      replace hx113_7 := cc_ HB hx113_7
      replace hx113_8 := cc_ HB hx113_8
      have HR113_8 := Aside0.mk hi113_8; have HC113_8 := Aside0.mk hl113_8; clear hi113_8 hl113_8
      replace p113 := eq_true p113
      replace q113 := eq_true q113
      go_upto_region 5 with (first | ((with_reducible refine gate_dst (N := 5) rfl ?_); refine box_ (N := 5) (cs := #[.int .i64 0, .int .i64 0, .int .i64 0, .int .i64 0, .int .i64 0, .int .i64 0, .bool false, .bool false, .slice none 0 0]) (t := 28) (fun gb114 hg w8 hbox hb => ?_); have BK114 := Aside0.mk (hbox); have GW114 := ge_ hg HB; have GE114 := ge_ hg HB; replace HB := (bs_ HB hb); have NB111_114 := nl_ hg BK111; have NB114_111 := ng_ hg BK111; replace BK111 := (bbA_ BK111 hb); clear hb hbox hg; have hnb9 := NB114_111.out; have hnc9 := NB111_114.out; have Z10 := zz9 BK114))
      (try simp only [Act.put, List.setIfInBounds_toArray, List.set_cons_zero, List.set_cons_succ])
      go_cut [26] (fun v26 wc => ∃ (kq : Nat) (x26_6 : Bool), v26 = .bool x26_6 ∧ Aside0 (impl_PartOk.j1 kq x3_1 x10_1 l0_0 (l0_0.length : Int) x10_1 x26_6 l0_0 a0_1 ((rd_T28 l0_0 x10_1).f0) ((rd_T28 l0_0 x10_1).f1) ((rd_T28 l0_0 x10_1).f2) ((rd_T28 l0_0 x10_1).f3) ((rd_T28 l0_0 x10_1).f4) ((rd_T28 l0_0 x10_1).f5) ((rd_T28 l0_0 x10_1).f6) ((rd_T28 l0_0 x10_1).f7) ((rd_T28 l0_0 x10_1).f8) = some r) ∧ Aside0 (kq ≤ k1) ∧ Aside0 (wc.heap[gb111]? = some (.cells #[(.slice (some ad113) l0_0.length c0_0), .int .i64 a0_1] 25 (0, 0))) ∧ Aside0 (wc.heap[gb114]? = some (.cells #[.int .i64 ((rd_T28 l0_0 x10_1).f0), .int .i64 ((rd_T28 l0_0 x10_1).f1), .int .i64 ((rd_T28 l0_0 x10_1).f2), .int .i64 ((rd_T28 l0_0 x10_1).f3), .int .i64 ((rd_T28 l0_0 x10_1).f4), .int .i64 ((rd_T28 l0_0 x10_1).f5), .bool ((rd_T28 l0_0 x10_1).f6), .bool ((rd_T28 l0_0 x10_1).f7), (.slice A113_8 ((rd_T28 l0_0 x10_1).f8).length c113_8)] 28 (0, 0))) ∧ Aside0 (Below w.heap.size w wc))
      case first =>
       have H := HC7.out; clear HC7
       replace H := Option.bind_eq_some_iff.mp H
       obtain ⟨t115, A110, H⟩ := H
       (try dsimp only at H)
       have A11 := Aside0.mk A110; clear A110
       by_cases c12 : t115 = true
       ·subst c12
        rw [if_pos rfl] at H
        by_cases c13 : 0 < (l0_0.length : Int)
        ·rw [if_pos c13] at H
         have c13b0 : decide (0 < (l0_0.length : Int)) = true := decide_eq_true c13
         have c13b1 : decide (0 < l0_0.length) = true := decide_eq_true (by omega)
         clear c13
         (first | rw [c13b0] | (simp only [i64_w, i32_w]; rw [c13b0]) | skip)
         replace H := Option.bind_eq_some_iff.mp H
         obtain ⟨t117, A140, H⟩ := H
         (try dsimp only at H)
         have A14 := Aside0.mk A140; clear A140
         have H' := Aside0.mk H
         clear H
         try go_wp2
         obtain ⟨w15, h_w15⟩ : ∃ w_, (((((((((w8.setCell ⟨gb114, 0, none⟩ (.int .i64 ((rd_T28 l0_0 x10_1).f0))).setCell ⟨gb114, 1, none⟩ (.int .i64 ((rd_T28 l0_0 x10_1).f1))).setCell ⟨gb114, 2, none⟩ (.int .i64 ((rd_T28 l0_0 x10_1).f2))).setCell ⟨gb114, 3, none⟩ (.int .i64 ((rd_T28 l0_0 x10_1).f3))).setCell ⟨gb114, 4, none⟩ (.int .i64 ((rd_T28 l0_0 x10_1).f4))).setCell ⟨gb114, 5, none⟩ (.int .i64 ((rd_T28 l0_0 x10_1).f5))).setCell ⟨gb114, 6, none⟩ (.bool ((rd_T28 l0_0 x10_1).f6))).setCell ⟨gb114, 7, none⟩ (.bool ((rd_T28 l0_0 x10_1).f7))).setCell ⟨gb114, 8, none⟩ (.slice A113_8 ((rd_T28 l0_0 x10_1).f8).length c113_8)) = w_ := ⟨_, rfl⟩
         have n0_ : Aside0 (w15.heap[gb111]? = some (.cells #[.slice (some ad113) l0_0.length c0_0, .int .i64 a0_1] 25 (0, 0))) := ⟨by subst h_w15; exact kf_ BK111.out⟩
         have n1_ : Aside0 (w15.heap[gb114]? = some (.cells #[.int .i64 ((rd_T28 l0_0 x10_1).f0), .int .i64 ((rd_T28 l0_0 x10_1).f1), .int .i64 ((rd_T28 l0_0 x10_1).f2), .int .i64 ((rd_T28 l0_0 x10_1).f3), .int .i64 ((rd_T28 l0_0 x10_1).f4), .int .i64 ((rd_T28 l0_0 x10_1).f5), .bool ((rd_T28 l0_0 x10_1).f6), .bool ((rd_T28 l0_0 x10_1).f7), .slice A113_8 ((rd_T28 l0_0 x10_1).f8).length c113_8] 28 (0, 0))) := ⟨by subst h_w15; refine kb_ ?_; refine pz9 (cs := #[.int .i64 0, .int .i64 0, .int .i64 0, .int .i64 0, .int .i64 0, .int .i64 0, .bool false, .bool false, .slice none 0 0]) ?_; refine kb_ ?_; exact BK114.out⟩
         have n2_ : Aside0 (Below w.heap.size w w15) := ⟨by subst h_w15; exact hbA_ HB.out⟩
         (try clear BK111); (try clear BK114); (try clear HB)
         (try rw [h_w15]); clear h_w15
         have BK111 := n0_; have BK114 := n1_; have HB := n2_; clear n0_ n1_ n2_; replace BK111 := Aside0.mk (blk_drew BK111.out); replace BK114 := Aside0.mk (blk_drew BK114.out); replace HB := (bd_ HB)
         have p116 : 0 ≤ (0 : Int) := (by omega)
         have q116 : 0 < (l0_0.length : Int) := of_decide_eq_true (by first | (with_reducible assumption) | assumption)
         obtain ⟨ad116, A116_8, c116_8, e116, hx116_0, hx116_1, hx116_2, hx116_3, hx116_4, hx116_5, hx116_6, hx116_7, hx116_8, hl116_8, hi116_8⟩ := at_T28 HR0_0.out 0 p116 q116
         (try simp only [show ((0 : Int)).toNat = 0 from rfl, show 0 * 9 = 0 from rfl, Addr.add_zero'] at hx116_0 hx116_1 hx116_2 hx116_3 hx116_4 hx116_5 hx116_6 hx116_7 hx116_8); have hw116_8 := hx116_8; have hw116_7 := hx116_7; have hw116_6 := hx116_6; have hw116_5 := hx116_5; have hw116_4 := hx116_4; have hw116_3 := hx116_3; have hw116_2 := hx116_2; have hw116_1 := hx116_1; have hw116_0 := hx116_0
         obtain rfl : ad113 = ad116 := (by injection e116)
         have qi116 : (0 < l0_0.length) = True := eq_true (by omega)
         replace hx116_0 := cc_ HB hx116_0
         replace hx116_1 := cc_ HB hx116_1
         replace hx116_2 := cc_ HB hx116_2
         replace hx116_3 := cc_ HB hx116_3
         replace hx116_4 := cc_ HB hx116_4
         replace hx116_5 := cc_ HB hx116_5
         replace hx116_6 := cc_ HB hx116_6
         replace hx116_7 := cc_ HB hx116_7
         replace hx116_8 := cc_ HB hx116_8
         have HR116_8 := Aside0.mk hi116_8; have HC116_8 := Aside0.mk hl116_8; clear hi116_8 hl116_8
         replace p116 := eq_true p116
         replace q116 := eq_true q116
         refine start_ (n := 12) (S := fun w' => w'.cell? ⟨gb114, 0, none⟩ = some (.int .i64 ((rd_T28 l0_0 x10_1).f0)) ∧ w'.cell? ⟨gb114, 1, none⟩ = some (.int .i64 ((rd_T28 l0_0 x10_1).f1)) ∧ w'.cell? ⟨gb114, 2, none⟩ = some (.int .i64 ((rd_T28 l0_0 x10_1).f2)) ∧ w'.cell? ⟨gb114, 3, none⟩ = some (.int .i64 ((rd_T28 l0_0 x10_1).f3)) ∧ w'.cell? ⟨gb114, 4, none⟩ = some (.int .i64 ((rd_T28 l0_0 x10_1).f4)) ∧ w'.cell? ⟨gb114, 5, none⟩ = some (.int .i64 ((rd_T28 l0_0 x10_1).f5)) ∧ w'.cell? ⟨gb114, 6, none⟩ = some (.bool ((rd_T28 l0_0 x10_1).f6)) ∧ w'.cell? ⟨gb114, 7, none⟩ = some (.bool ((rd_T28 l0_0 x10_1).f7)) ∧ w'.cell? ⟨gb114, 8, none⟩ = some (.slice A113_8 ((rd_T28 l0_0 x10_1).f8).length c113_8) ∧ w'.cell? ⟨gb111, 0, none⟩ = some (.slice (some ad113) l0_0.length c0_0) ∧ w'.cell? ⟨gb111, 1, none⟩ = some (.int .i64 a0_1) ∧ w'.cell? ad113 = some (.int .i64 ((rd_T28 l0_0 0).f0)) ∧ w'.cell? ⟨ad113.block, ad113.off + 1, none⟩ = some (.int .i64 ((rd_T28 l0_0 0).f1)) ∧ w'.cell? ⟨ad113.block, ad113.off + 2, none⟩ = some (.int .i64 ((rd_T28 l0_0 0).f2)) ∧ w'.cell? ⟨ad113.block, ad113.off + 3, none⟩ = some (.int .i64 ((rd_T28 l0_0 0).f3)) ∧ w'.cell? ⟨ad113.block, ad113.off + 4, none⟩ = some (.int .i64 ((rd_T28 l0_0 0).f4)) ∧ w'.cell? ⟨ad113.block, ad113.off + 5, none⟩ = some (.int .i64 ((rd_T28 l0_0 0).f5)) ∧ w'.cell? ⟨ad113.block, ad113.off + 6, none⟩ = some (.bool ((rd_T28 l0_0 0).f6)) ∧ w'.cell? ⟨ad113.block, ad113.off + 7, none⟩ = some (.bool ((rd_T28 l0_0 0).f7)) ∧ w'.cell? ⟨ad113.block, ad113.off + 8, none⟩ = some (.slice A116_8 ((rd_T28 l0_0 0).f8).length c116_8)) (ds := []) #[false, false, false, false, false, false, false, false, false, false, false, false] (by kernel_rfl) rfl rfl ⟨bc_ BK114 0, bc_ BK114 1, bc_ BK114 2, bc_ BK114 3, bc_ BK114 4, bc_ BK114 5, bc_ BK114 6, bc_ BK114 7, bc_ BK114 8, bc_ BK111 0, bc_ BK111 1, (cc_ HB hw116_0), (cc_ HB hw116_1), (cc_ HB hw116_2), (cc_ HB hw116_3), (cc_ HB hw116_4), (cc_ HB hw116_5), (cc_ HB hw116_6), (cc_ HB hw116_7), (cc_ HB hw116_8)⟩ (fun hHeld => ?_); refine with_tabW impl_PartOk.tab5 impl_PartOk.bits5 (fun HT_ HW_ => ?_)
         generalize w15.drew = w16 at BK111 BK114 HB HR116_8 hx116_0 hx116_1 hx116_2 hx116_3 hx116_4 hx116_5 hx116_6 hx116_7 hx116_8 hHeld ⊢
         refine tk_ (i := 0) (N := some 15) HT_ HW_ hHeld ?_
         refine on_ (i := 1) (N := some 16) HT_ (fun K hK => ?_)
         refine goes_ Try.func14 (by kernel_rfl) rfl #[.agg #[.int .i64 ((rd_T28 l0_0 x10_1).f0), .int .i64 ((rd_T28 l0_0 x10_1).f1), .int .i64 ((rd_T28 l0_0 x10_1).f2), .int .i64 ((rd_T28 l0_0 x10_1).f3), .int .i64 ((rd_T28 l0_0 x10_1).f4), .int .i64 ((rd_T28 l0_0 x10_1).f5), .bool ((rd_T28 l0_0 x10_1).f6), .bool ((rd_T28 l0_0 x10_1).f7), .slice A113_8 ((rd_T28 l0_0 x10_1).f8).length c113_8]] (by rfl) rfl rfl ar_ ?_
         with_reducible refine (impl_PacketOk.calls ((rd_T28 l0_0 x10_1).f0) ((rd_T28 l0_0 x10_1).f1) ((rd_T28 l0_0 x10_1).f2) ((rd_T28 l0_0 x10_1).f3) ((rd_T28 l0_0 x10_1).f4) ((rd_T28 l0_0 x10_1).f5) ((rd_T28 l0_0 x10_1).f6) ((rd_T28 l0_0 x10_1).f7) _ _ ((rd_T28 l0_0 x10_1).f8) true _ ?side1 ?side2 A11.out).mono ?_
         (case side1 => exact kC_ (Kd.C_below HR113_8.out HB.out))
         (case side2 => exact HC113_8.out)
         rintro e w17 ⟨rfl, hb⟩
         refine ⟨_, rfl, ?_⟩
         replace BK111 := (bbA_ BK111 hb); replace BK114 := (bbA_ BK114 hb); replace HB := (bs_ HB hb); (try clear hb); (try clear hb2); (try clear hk); (try clear hi)
         refine hK.out _ _ ⟨bc_ BK114 0, bc_ BK114 1, bc_ BK114 2, bc_ BK114 3, bc_ BK114 4, bc_ BK114 5, bc_ BK114 6, bc_ BK114 7, bc_ BK114 8, bc_ BK111 0, bc_ BK111 1, (cc_ HB hw116_0), (cc_ HB hw116_1), (cc_ HB hw116_2), (cc_ HB hw116_3), (cc_ HB hw116_4), (cc_ HB hw116_5), (cc_ HB hw116_6), (cc_ HB hw116_7), (cc_ HB hw116_8)⟩ (fun hHeld => ?_)
         clear hK K; refine nm_ 16 ?_; refine pu_ (i := 2) (N := some 17) HT_ ?_; refine pu_ (i := 3) (N := some 18) HT_ ?_; refine pu_ (i := 5) (N := some 20) HT_ ?_; refine tk_ (i := 4) (N := some 19) HT_ HW_ hHeld ?_; refine tk_ (i := 6) (N := some 21) HT_ HW_ hHeld ?_; refine pu_ (i := 7) (N := some 22) HT_ ?_; refine tk_ (i := 8) (N := some 23) HT_ HW_ hHeld ?_
         refine on_ (i := 9) (N := some 24) HT_ (fun K hK => ?_)
         refine goes_ Try.func81 (by kernel_rfl) rfl #[.agg #[.int .i64 ((rd_T28 l0_0 x10_1).f0), .int .i64 ((rd_T28 l0_0 x10_1).f1), .int .i64 ((rd_T28 l0_0 x10_1).f2), .int .i64 ((rd_T28 l0_0 x10_1).f3), .int .i64 ((rd_T28 l0_0 x10_1).f4), .int .i64 ((rd_T28 l0_0 x10_1).f5), .bool ((rd_T28 l0_0 x10_1).f6), .bool ((rd_T28 l0_0 x10_1).f7), .slice A113_8 ((rd_T28 l0_0 x10_1).f8).length c113_8], .agg #[.int .i64 ((rd_T28 l0_0 0).f0), .int .i64 ((rd_T28 l0_0 0).f1), .int .i64 ((rd_T28 l0_0 0).f2), .int .i64 ((rd_T28 l0_0 0).f3), .int .i64 ((rd_T28 l0_0 0).f4), .int .i64 ((rd_T28 l0_0 0).f5), .bool ((rd_T28 l0_0 0).f6), .bool ((rd_T28 l0_0 0).f7), .slice A116_8 ((rd_T28 l0_0 0).f8).length c116_8]] (by rfl) rfl rfl ar_ ?_
         with_reducible refine (impl_Packet_same.calls ((rd_T28 l0_0 x10_1).f0) ((rd_T28 l0_0 x10_1).f1) ((rd_T28 l0_0 x10_1).f2) ((rd_T28 l0_0 x10_1).f3) ((rd_T28 l0_0 x10_1).f4) ((rd_T28 l0_0 x10_1).f5) ((rd_T28 l0_0 x10_1).f6) ((rd_T28 l0_0 x10_1).f7) _ _ ((rd_T28 l0_0 x10_1).f8) ((rd_T28 l0_0 0).f0) ((rd_T28 l0_0 0).f1) ((rd_T28 l0_0 0).f2) ((rd_T28 l0_0 0).f3) ((rd_T28 l0_0 0).f4) ((rd_T28 l0_0 0).f5) ((rd_T28 l0_0 0).f6) ((rd_T28 l0_0 0).f7) _ _ ((rd_T28 l0_0 0).f8) t117 _ ?side1 ?side2 ?side3 ?side4 A14.out).mono ?_
         (case side1 => exact kC_ (Kd.C_below HR113_8.out HB.out))
         (case side2 => exact HC113_8.out)
         (case side3 => exact kC_ (Kd.C_below HR116_8.out HB.out))
         (case side4 => exact HC116_8.out)
         rintro e w18 ⟨rfl, hb⟩
         refine ⟨_, rfl, ?_⟩
         replace BK111 := (bbA_ BK111 hb); replace BK114 := (bbA_ BK114 hb); replace HB := (bs_ HB hb); (try clear hb); (try clear hb2); (try clear hk); (try clear hi)
         refine hK.out _ _ ⟨bc_ BK114 0, bc_ BK114 1, bc_ BK114 2, bc_ BK114 3, bc_ BK114 4, bc_ BK114 5, bc_ BK114 6, bc_ BK114 7, bc_ BK114 8, bc_ BK111 0, bc_ BK111 1, (cc_ HB hw116_0), (cc_ HB hw116_1), (cc_ HB hw116_2), (cc_ HB hw116_3), (cc_ HB hw116_4), (cc_ HB hw116_5), (cc_ HB hw116_6), (cc_ HB hw116_7), (cc_ HB hw116_8)⟩ (fun hHeld => ?_)
         clear hK K; refine nm_ 24 ?_; refine pu_ (i := 10) (N := some 25) HT_ ?_; refine pu_ (i := 11) (N := some 26) HT_ ?_
         refine done_ (done_of HT_.out (by kernel_rfl)) ?_
         try go_wp2
         go_meet
         case rel => exact ⟨_, (!t117), (by first | rfl | (simp; done) | (simp [*]; done)), H', ⟨by have := HK1.out; first | omega | exact Nat.le_refl _⟩, ⟨by refine kb_ ?_; exact BK111.out⟩, ⟨by refine kb_ ?_; exact BK114.out⟩, ⟨hbA_ HB.out⟩⟩
        ·rw [if_neg c13] at H
         exact absurd H (by simp)
       ·replace c12 := Bool.eq_false_iff.mpr c12
        subst c12
        rw [if_neg (show ¬ (false = true) by decide)] at H
        have H' := Aside0.mk H
        clear H
        try go_wp2
        obtain ⟨w19, h_w19⟩ : ∃ w_, (((((((((w8.setCell ⟨gb114, 0, none⟩ (.int .i64 ((rd_T28 l0_0 x10_1).f0))).setCell ⟨gb114, 1, none⟩ (.int .i64 ((rd_T28 l0_0 x10_1).f1))).setCell ⟨gb114, 2, none⟩ (.int .i64 ((rd_T28 l0_0 x10_1).f2))).setCell ⟨gb114, 3, none⟩ (.int .i64 ((rd_T28 l0_0 x10_1).f3))).setCell ⟨gb114, 4, none⟩ (.int .i64 ((rd_T28 l0_0 x10_1).f4))).setCell ⟨gb114, 5, none⟩ (.int .i64 ((rd_T28 l0_0 x10_1).f5))).setCell ⟨gb114, 6, none⟩ (.bool ((rd_T28 l0_0 x10_1).f6))).setCell ⟨gb114, 7, none⟩ (.bool ((rd_T28 l0_0 x10_1).f7))).setCell ⟨gb114, 8, none⟩ (.slice A113_8 ((rd_T28 l0_0 x10_1).f8).length c113_8)) = w_ := ⟨_, rfl⟩
        have n0_ : Aside0 (w19.heap[gb111]? = some (.cells #[.slice (some ad113) l0_0.length c0_0, .int .i64 a0_1] 25 (0, 0))) := ⟨by subst h_w19; exact kf_ BK111.out⟩
        have n1_ : Aside0 (w19.heap[gb114]? = some (.cells #[.int .i64 ((rd_T28 l0_0 x10_1).f0), .int .i64 ((rd_T28 l0_0 x10_1).f1), .int .i64 ((rd_T28 l0_0 x10_1).f2), .int .i64 ((rd_T28 l0_0 x10_1).f3), .int .i64 ((rd_T28 l0_0 x10_1).f4), .int .i64 ((rd_T28 l0_0 x10_1).f5), .bool ((rd_T28 l0_0 x10_1).f6), .bool ((rd_T28 l0_0 x10_1).f7), .slice A113_8 ((rd_T28 l0_0 x10_1).f8).length c113_8] 28 (0, 0))) := ⟨by subst h_w19; refine kb_ ?_; refine pz9 (cs := #[.int .i64 0, .int .i64 0, .int .i64 0, .int .i64 0, .int .i64 0, .int .i64 0, .bool false, .bool false, .slice none 0 0]) ?_; refine kb_ ?_; exact BK114.out⟩
        have n2_ : Aside0 (Below w.heap.size w w19) := ⟨by subst h_w19; exact hbA_ HB.out⟩
        (try clear BK111); (try clear BK114); (try clear HB)
        (try rw [h_w19]); clear h_w19
        have BK111 := n0_; have BK114 := n1_; have HB := n2_; clear n0_ n1_ n2_; replace BK111 := Aside0.mk (blk_drew BK111.out); replace BK114 := Aside0.mk (blk_drew BK114.out); replace HB := (bd_ HB)
        refine start_ (n := 12) (S := fun w' => w'.cell? ⟨gb114, 0, none⟩ = some (.int .i64 ((rd_T28 l0_0 x10_1).f0)) ∧ w'.cell? ⟨gb114, 1, none⟩ = some (.int .i64 ((rd_T28 l0_0 x10_1).f1)) ∧ w'.cell? ⟨gb114, 2, none⟩ = some (.int .i64 ((rd_T28 l0_0 x10_1).f2)) ∧ w'.cell? ⟨gb114, 3, none⟩ = some (.int .i64 ((rd_T28 l0_0 x10_1).f3)) ∧ w'.cell? ⟨gb114, 4, none⟩ = some (.int .i64 ((rd_T28 l0_0 x10_1).f4)) ∧ w'.cell? ⟨gb114, 5, none⟩ = some (.int .i64 ((rd_T28 l0_0 x10_1).f5)) ∧ w'.cell? ⟨gb114, 6, none⟩ = some (.bool ((rd_T28 l0_0 x10_1).f6)) ∧ w'.cell? ⟨gb114, 7, none⟩ = some (.bool ((rd_T28 l0_0 x10_1).f7)) ∧ w'.cell? ⟨gb114, 8, none⟩ = some (.slice A113_8 ((rd_T28 l0_0 x10_1).f8).length c113_8)) (ds := []) #[false, false, false, false, false, false, false, false, false, false, false, false] (by kernel_rfl) rfl rfl (cz9 BK114.out) (fun hHeld => ?_); refine with_tabW impl_PartOk.tab5 impl_PartOk.bits5 (fun HT_ HW_ => ?_)
        generalize w19.drew = w20 at BK111 BK114 HB hHeld ⊢
        refine tk_ (i := 0) (N := some 15) HT_ HW_ hHeld ?_
        refine on_ (i := 1) (N := some 16) HT_ (fun K hK => ?_)
        refine goes_ Try.func14 (by kernel_rfl) rfl #[.agg #[.int .i64 ((rd_T28 l0_0 x10_1).f0), .int .i64 ((rd_T28 l0_0 x10_1).f1), .int .i64 ((rd_T28 l0_0 x10_1).f2), .int .i64 ((rd_T28 l0_0 x10_1).f3), .int .i64 ((rd_T28 l0_0 x10_1).f4), .int .i64 ((rd_T28 l0_0 x10_1).f5), .bool ((rd_T28 l0_0 x10_1).f6), .bool ((rd_T28 l0_0 x10_1).f7), .slice A113_8 ((rd_T28 l0_0 x10_1).f8).length c113_8]] (by rfl) rfl rfl ar_ ?_
        with_reducible refine (impl_PacketOk.calls ((rd_T28 l0_0 x10_1).f0) ((rd_T28 l0_0 x10_1).f1) ((rd_T28 l0_0 x10_1).f2) ((rd_T28 l0_0 x10_1).f3) ((rd_T28 l0_0 x10_1).f4) ((rd_T28 l0_0 x10_1).f5) ((rd_T28 l0_0 x10_1).f6) ((rd_T28 l0_0 x10_1).f7) _ _ ((rd_T28 l0_0 x10_1).f8) false _ ?side1 ?side2 A11.out).mono ?_
        (case side1 => exact kC_ (Kd.C_below HR113_8.out HB.out))
        (case side2 => exact HC113_8.out)
        rintro e w21 ⟨rfl, hb⟩
        refine ⟨_, rfl, ?_⟩
        replace BK111 := (bbA_ BK111 hb); replace BK114 := (bbA_ BK114 hb); replace HB := (bs_ HB hb); (try clear hb); (try clear hb2); (try clear hk); (try clear hi)
        refine hK.out _ _ (cz9 BK114.out) (fun hHeld => ?_)
        clear hK K; refine nm_ 16 ?_; refine pu_ (i := 2) (N := some 17) HT_ ?_; refine pu_ (i := 3) (N := some 18) HT_ ?_; refine pn_ (i := 4) (N := some 19) HT_ ?_; refine pn_ (i := 5) (N := some 20) HT_ ?_; refine pn_ (i := 6) (N := some 21) HT_ ?_; refine pn_ (i := 7) (N := some 22) HT_ ?_; refine pn_ (i := 8) (N := some 23) HT_ ?_; refine pn_ (i := 9) (N := some 24) HT_ ?_; refine pn_ (i := 10) (N := some 25) HT_ ?_; refine pu_ (i := 11) (N := some 26) HT_ ?_
        refine done_ (done_of HT_.out (by kernel_rfl)) ?_
        try go_wp2
        go_meet
        case rel => exact ⟨_, (true), (by first | rfl | (simp; done) | (simp [*]; done)), H', ⟨by have := HK1.out; first | omega | exact Nat.le_refl _⟩, ⟨by refine kb_ ?_; exact BK111.out⟩, ⟨by refine kb_ ?_; exact BK114.out⟩, ⟨hbA_ HB.out⟩⟩
      case rest =>
       clear HC7; (try clear c1); (try clear p1); (try clear q1); (try clear hx1); (try clear qi1); (try clear p2); (try clear c4); (try clear c4b0); (try clear c5); (try clear c5b0); (try clear c6); (try clear c6b0); (try clear c8); (try clear c9); (try clear c11); (try clear p11); (try clear q11); (try clear hx11); (try clear qi11); (try clear c12); (try clear c13); (try clear c13b0); (try clear c13b1); (try clear c14); (try clear Z10); (try clear Z3); (try clear hx113_0); (try clear hx113_1); (try clear hx113_2); (try clear hx113_3); (try clear hx113_4); (try clear hx113_5); (try clear hx113_6); (try clear hx113_7); (try clear hx113_8); (try clear hx116_0); (try clear hx116_1); (try clear hx116_2); (try clear hx116_3); (try clear hx116_4); (try clear hx116_5); (try clear hx116_6); (try clear hx116_7); (try clear hx116_8); (try clear p113); (try clear p116); (try clear p2); (try clear q113); (try clear q116)
       obtain ⟨kq, x26_6, rfl, HA, HJ6, BK111, BK114, HB⟩ := hcut
       cases kq with
       | zero => exact absurd HA.out (by simp [impl_PartOk.j1])
       | succ kj6 =>
        have H := HA.out; clear HA
        simp only [impl_PartOk.j1] at H
        by_cases c22 : x26_6 = true
        ·subst c22
         rw [if_pos rfl] at H
         obtain rfl := Option.some.inj H
         go_wp2
         go_ret
         exact ⟨by first | rfl | (simp [errW_none, errW_some] <;> rfl) | (simp [*, errW_none, errW_some] <;> rfl), hbA_ HB.out⟩
        ·replace c22 := Bool.eq_false_iff.mpr c22
         subst c22
         rw [if_neg (show ¬ (false = true) by decide)] at H
         by_cases c23 : x10_1 > 0
         ·rw [if_pos c23] at H
          have c23b0 : decide (0 < x10_1) = true := decide_eq_true c23
          clear c23
          obtain ⟨ji24, hji24⟩ : ∃ j_ : Int, (wrap64 (x10_1 - 1)) = j_ := ⟨_, rfl⟩
          (first | rw [hji24] at H | simp only [hji24] at H)
          have hji24w : (IntKind.i64.wrap (x10_1 - 1)) = ji24 := (i64_w _).trans hji24
          by_cases c25 : 0 ≤ (ji24)
          ·rw [if_pos c25] at H
           have c25b0 : decide (0 ≤ (ji24)) = true := decide_eq_true c25
           clear c25
           by_cases c26 : (ji24) < (l0_0.length : Int)
           ·rw [if_pos c26] at H
            have c26b0 : decide ((ji24) < (l0_0.length : Int)) = true := decide_eq_true c26
            clear c26
            by_cases c27 : ((rd_T28 l0_0 x10_1).f5) < (wrap64 (((rd_T28 l0_0 (ji24)).f5) + (((rd_T28 l0_0 (ji24)).f8).length : Int)))
            ·rw [if_pos c27] at H
             have c27b0 : decide (((rd_T28 l0_0 x10_1).f5) < (wrap64 (((rd_T28 l0_0 (ji24)).f5) + (((rd_T28 l0_0 (ji24)).f8).length : Int)))) = true := decide_eq_true c27
             clear c27
             obtain rfl := Option.some.inj H
             have hnb28 := NB111_114.out; have hnc28 := NB114_111.out; have Z29 := zz2 BK111
             have p118 : 0 ≤ ((ji24) : Int) := of_decide_eq_true (by first | (with_reducible assumption) | assumption)
             have q118 : (ji24) < (l0_0.length : Int) := of_decide_eq_true (by first | (with_reducible assumption) | assumption)
             obtain ⟨ad118, A118_8, c118_8, e118, hx118_0, hx118_1, hx118_2, hx118_3, hx118_4, hx118_5, hx118_6, hx118_7, hx118_8, hl118_8, hi118_8⟩ := at_T28 HR0_0.out (ji24) p118 q118
             obtain rfl : ad113 = ad118 := (by injection e118)
             replace hx118_0 := cc_ HB hx118_0
             replace hx118_1 := cc_ HB hx118_1
             replace hx118_2 := cc_ HB hx118_2
             replace hx118_3 := cc_ HB hx118_3
             replace hx118_4 := cc_ HB hx118_4
             replace hx118_5 := cc_ HB hx118_5
             replace hx118_6 := cc_ HB hx118_6
             replace hx118_7 := cc_ HB hx118_7
             replace hx118_8 := cc_ HB hx118_8
             have HR118_8 := Aside0.mk hi118_8; have HC118_8 := Aside0.mk hl118_8; clear hi118_8 hl118_8
             replace p118 := eq_true p118
             replace q118 := eq_true q118
             go_wp2_with (first | ((with_reducible refine gate_dst (N := 6) rfl ?_); refine box_ (N := 6) (cs := #[.int .i64 0, .int .i64 0, .int .i64 0, .int .i64 0, .int .i64 0, .int .i64 0, .bool false, .bool false, .slice none 0 0]) (t := 28) (fun gb119 hg w30 hbox hb => ?_); have BK119 := Aside0.mk (hbox); have GW119 := ge_ hg HB; have GE119 := ge_ hg HB; replace HB := (bs_ HB hb); have NB111_119 := nl_ hg BK111; have NB119_111 := ng_ hg BK111; replace BK111 := (bbA_ BK111 hb); have NB114_119 := nl_ hg BK114; have NB119_114 := ng_ hg BK114; replace BK114 := (bbA_ BK114 hb); clear hb hbox hg; have hnb31 := NB119_111.out; have hnc31 := NB111_119.out; have hnb32 := NB119_114.out; have hnc32 := NB114_119.out; have Z33 := zz9 BK119; have Z34 := zz9 BK114))
             go_ret
             exact ⟨by first | rfl | (simp [errW_none, errW_some] <;> rfl) | (simp only [← hji24]; first | rfl | (simp [errW_none, errW_some] <;> rfl)) | (simp [*, errW_none, errW_some] <;> rfl), hbA_ HB.out⟩
            ·rw [if_neg c27] at H
             have c27b0 : decide (((rd_T28 l0_0 x10_1).f5) < (wrap64 (((rd_T28 l0_0 (ji24)).f5) + (((rd_T28 l0_0 (ji24)).f8).length : Int)))) = false := decide_eq_false c27
             clear c27
             obtain ⟨bq35, hbq35⟩ : ∃ b_ : Bool, b_ = ((rd_T28 l0_0 (ji24)).f6) := ⟨_, rfl⟩
             replace H : (if (bq35 = true) then (impl_PartOk.l0 kj6 (wrap64 (x3_1 + (((rd_T28 l0_0 x10_1).f8).length : Int))) l0_0 (l0_0.length : Int) (wrap64 (x10_1 + 1)) l0_0 a0_1) else (some false)) = some r := by rw [← hbq35] at H; exact H
             have Nbq35 := Aside0.mk hbq35; clear hbq35
             by_cases c36 : (bq35 = true)
             ·subst c36
              rw [if_pos rfl] at H
              have H' := Aside0.mk H
              clear H; have hnb37 := NB111_114.out; have hnc37 := NB114_111.out; have Z38 := zz2 BK111
              have p118 : 0 ≤ ((ji24) : Int) := of_decide_eq_true (by first | (with_reducible assumption) | assumption)
              have q118 : (ji24) < (l0_0.length : Int) := of_decide_eq_true (by first | (with_reducible assumption) | assumption)
              obtain ⟨ad118, A118_8, c118_8, e118, hx118_0, hx118_1, hx118_2, hx118_3, hx118_4, hx118_5, hx118_6, hx118_7, hx118_8, hl118_8, hi118_8⟩ := at_T28 HR0_0.out (ji24) p118 q118
              (try rw [← Nbq35.out] at hx118_6)
              (try rw [← Nbq35.out] at hx118_7)
              obtain rfl : ad113 = ad118 := (by injection e118)
              replace hx118_0 := cc_ HB hx118_0
              replace hx118_1 := cc_ HB hx118_1
              replace hx118_2 := cc_ HB hx118_2
              replace hx118_3 := cc_ HB hx118_3
              replace hx118_4 := cc_ HB hx118_4
              replace hx118_5 := cc_ HB hx118_5
              replace hx118_6 := cc_ HB hx118_6
              replace hx118_7 := cc_ HB hx118_7
              replace hx118_8 := cc_ HB hx118_8
              have HR118_8 := Aside0.mk hi118_8; have HC118_8 := Aside0.mk hl118_8; clear hi118_8 hl118_8
              replace p118 := eq_true p118
              replace q118 := eq_true q118
              go_wp2_with (first | ((with_reducible refine gate_dst (N := 6) rfl ?_); refine box_ (N := 6) (cs := #[.int .i64 0, .int .i64 0, .int .i64 0, .int .i64 0, .int .i64 0, .int .i64 0, .bool false, .bool false, .slice none 0 0]) (t := 28) (fun gb119 hg w39 hbox hb => ?_); have BK119 := Aside0.mk (hbox); have GW119 := ge_ hg HB; have GE119 := ge_ hg HB; replace HB := (bs_ HB hb); have NB111_119 := nl_ hg BK111; have NB119_111 := ng_ hg BK111; replace BK111 := (bbA_ BK111 hb); have NB114_119 := nl_ hg BK114; have NB119_114 := ng_ hg BK114; replace BK114 := (bbA_ BK114 hb); clear hb hbox hg; have hnb40 := NB119_111.out; have hnc40 := NB111_119.out; have hnb41 := NB119_114.out; have hnc41 := NB114_119.out; have Z42 := zz9 BK119; have Z43 := zz9 BK114))
              go_roundg kj6
              case measure => have := HK1.out; have := HJ6.out; omega
              case rel => exact ⟨(wrap64 (x3_1 + (((rd_T28 l0_0 x10_1).f8).length : Int))), (wrap64 (x10_1 + 1)), (by first | rfl | (simp; done) | (simp [*]; done)), (by first | rfl | (simp; done) | (simp [*]; done)), H', ⟨by have := HK1.out; have := HJ6.out; omega⟩, ⟨by exact kf_ BK111.out⟩, ⟨hbA_ HB.out⟩⟩
             ·replace c36 := Bool.eq_false_iff.mpr c36
              subst c36
              rw [if_neg (show ¬ (false = true) by decide)] at H
              obtain rfl := Option.some.inj H
              have hnb44 := NB111_114.out; have hnc44 := NB114_111.out; have Z45 := zz2 BK111
              have p118 : 0 ≤ ((ji24) : Int) := of_decide_eq_true (by first | (with_reducible assumption) | assumption)
              have q118 : (ji24) < (l0_0.length : Int) := of_decide_eq_true (by first | (with_reducible assumption) | assumption)
              obtain ⟨ad118, A118_8, c118_8, e118, hx118_0, hx118_1, hx118_2, hx118_3, hx118_4, hx118_5, hx118_6, hx118_7, hx118_8, hl118_8, hi118_8⟩ := at_T28 HR0_0.out (ji24) p118 q118
              (try rw [← Nbq35.out] at hx118_6)
              (try rw [← Nbq35.out] at hx118_7)
              obtain rfl : ad113 = ad118 := (by injection e118)
              replace hx118_0 := cc_ HB hx118_0
              replace hx118_1 := cc_ HB hx118_1
              replace hx118_2 := cc_ HB hx118_2
              replace hx118_3 := cc_ HB hx118_3
              replace hx118_4 := cc_ HB hx118_4
              replace hx118_5 := cc_ HB hx118_5
              replace hx118_6 := cc_ HB hx118_6
              replace hx118_7 := cc_ HB hx118_7
              replace hx118_8 := cc_ HB hx118_8
              have HR118_8 := Aside0.mk hi118_8; have HC118_8 := Aside0.mk hl118_8; clear hi118_8 hl118_8
              replace p118 := eq_true p118
              replace q118 := eq_true q118
              go_wp2_with (first | ((with_reducible refine gate_dst (N := 6) rfl ?_); refine box_ (N := 6) (cs := #[.int .i64 0, .int .i64 0, .int .i64 0, .int .i64 0, .int .i64 0, .int .i64 0, .bool false, .bool false, .slice none 0 0]) (t := 28) (fun gb119 hg w46 hbox hb => ?_); have BK119 := Aside0.mk (hbox); have GW119 := ge_ hg HB; have GE119 := ge_ hg HB; replace HB := (bs_ HB hb); have NB111_119 := nl_ hg BK111; have NB119_111 := ng_ hg BK111; replace BK111 := (bbA_ BK111 hb); have NB114_119 := nl_ hg BK114; have NB119_114 := ng_ hg BK114; replace BK114 := (bbA_ BK114 hb); clear hb hbox hg; have hnb47 := NB119_111.out; have hnc47 := NB111_119.out; have hnb48 := NB119_114.out; have hnc48 := NB114_119.out; have Z49 := zz9 BK119; have Z50 := zz9 BK114))
              go_ret
              exact ⟨by first | rfl | (simp [errW_none, errW_some] <;> rfl) | (simp only [← hji24]; first | rfl | (simp [errW_none, errW_some] <;> rfl)) | (simp [*, errW_none, errW_some] <;> rfl), hbA_ HB.out⟩
           ·rw [if_neg c26] at H
            exact absurd H (by simp)
          ·rw [if_neg c25] at H
           exact absurd H (by simp)
         ·rw [if_neg c23] at H
          have c23b0 : decide (0 < x10_1) = false := decide_eq_false c23
          clear c23
          have H' := Aside0.mk H
          clear H; have hnb51 := NB114_111.out; have hnc51 := NB111_114.out; have Z52 := zz9 BK114
          go_wp2
          go_roundg kj6
          case measure => have := HK1.out; have := HJ6.out; omega
          case rel => exact ⟨(wrap64 (x3_1 + (((rd_T28 l0_0 x10_1).f8).length : Int))), (wrap64 (x10_1 + 1)), (by first | rfl | (simp; done) | (simp [*]; done)), (by first | rfl | (simp; done) | (simp [*]; done)), H', ⟨by have := HK1.out; have := HJ6.out; omega⟩, ⟨by refine kb_ ?_; exact BK111.out⟩, ⟨hbA_ HB.out⟩⟩
     ·rw [if_neg c6] at H
      exact absurd H (by simp)
    ·rw [if_neg c5] at H
     exact absurd H (by simp)
   ·rw [if_neg c4] at H
    have c4b0 : decide (x10_1 < (l0_0.length : Int)) = false := decide_eq_false c4
    clear c4
    by_cases c53 : (l0_0.length : Int) > 0
    ·rw [if_pos c53] at H
     have c53b0 : decide (0 < (l0_0.length : Int)) = true := decide_eq_true c53
     have c53b1 : decide (0 < l0_0.length) = true := decide_eq_true (by omega)
     clear c53
     by_cases c54 : x3_1 ≤ 48
     ·rw [if_pos c54] at H
      have c54b0 : decide (x3_1 ≤ 48) = true := decide_eq_true c54
      clear c54
      replace H := Option.bind_eq_some_iff.mp H
      obtain ⟨t112, A550, H⟩ := H
      (try dsimp only at H)
      have A55 := Aside0.mk A550; clear A550
      obtain rfl := Option.some.inj H
      have Z56 := zz2 BK111
      go_wp2_with (first | (go_at_call 49; (with_reducible refine (impl_in.calls a0_1 0 1000000 t112 _ A55.out).mono ?_); rintro e w' ⟨rfl, ⟨nd, rfl⟩⟩))
      go_ret
      exact ⟨by first | rfl | (simp [errW_none, errW_some] <;> rfl) | (simp [*, errW_none, errW_some] <;> rfl), hbA_ HB.out⟩
     ·rw [if_neg c54] at H
      have c54b0 : decide (x3_1 ≤ 48) = false := decide_eq_false c54
      clear c54
      obtain rfl := Option.some.inj H
      have Z57 := zz2 BK111
      go_wp2
      go_ret
      exact ⟨by first | rfl | (simp [errW_none, errW_some] <;> rfl) | (simp [*, errW_none, errW_some] <;> rfl), hbA_ HB.out⟩
    ·rw [if_neg c53] at H
     have c53b0 : decide (0 < (l0_0.length : Int)) = false := decide_eq_false c53
     have c53b1 : decide (0 < l0_0.length) = false := decide_eq_false (by omega)
     clear c53
     obtain rfl := Option.some.inj H
     have Z58 := zz2 BK111
     go_wp2
     go_ret
     exact ⟨by first | rfl | (simp [errW_none, errW_some] <;> rfl) | (simp [*, errW_none, errW_some] <;> rfl), hbA_ HB.out⟩
theorem slices_Clip_byte_byte.calls (A0 : Option Addr) (c0 n0 : Nat) (w : World) (hc : n0 ≤ c0) : Calls Try.prog 108 #[.slice A0 n0 c0] w fun e w' => e = .returned (.slice A0 n0 n0) ∧ w' = w := by
  go_enter Try.func108, Try.ntmps108
  go_wp2
  go_ret
  exact ⟨rfl, rfl⟩
def impl_clone_byte.f (l0 : List Int) : Option (List Int) := if l0.length * 1 ≤ 140737488355328 then some l0 else none
theorem impl_clone_byte.calls (A0 : Option Addr) (c0 : Nat) (l0 : List Int) (r : List Int) (w : World) (hr0 : Kd.C (Kd.int .u8) w A0 l0.length l0) (hc0 : l0.length ≤ c0) (h : impl_clone_byte.f l0 = some r) :
    Calls Try.prog 93 #[.slice A0 l0.length c0] w fun e w' => ∃ v0_ : Value, e = .returned (v0_) ∧ Kd.R (Kd.int .u8) 5 w' w.heap.size (fun _ => True) v0_ r ∧ Below w.heap.size w w' := by
  obtain ⟨hle, rfl⟩ : l0.length * 1 ≤ 140737488355328 ∧ l0 = r := by
    unfold impl_clone_byte.f at h; split at h
    · exact ⟨by assumption, Option.some.inj h⟩
    · cases h
  have hm := hr0.2.1
  have HR := Aside0.mk hr0; clear hr0 h
  by_cases h0 : l0.length = 0
  · have hb : ((l0.length : Int) == 0) = true := by simp [h0]
    have HL : Aside0 (l0 = []) := ⟨List.eq_nil_of_length_eq_zero h0⟩
    clear h0
    go_enter Try.func93, Try.ntmps93
    go_wp2
    go_ret
    refine ⟨_, rfl, ?_, Below.refl _ _⟩
    rw [HL.out]; exact Kd.R_nil _ _ _ _ _
  · have hb : ((l0.length : Int) == 0) = false := by simp; intro hh; exact h0 (by simp [hh])
    clear h0
    go_enter Try.func93, Try.ntmps93
    go_wp2_with (first
      | ((with_reducible refine gate_dst (N := 7) rfl ?_); refine Kd.R_append_rows (Kd.int .u8) (Rr := (Kd.int .u8).K w) w.heap.size rfl _ _ 22 5 (.int .u8 0) 1 rfl Try.underlying22 info5 rfl (by decide) (by decide) (.slice none 0 0) [] l0 A0 l0.length c0 (fun _ => True) (fun _ => True) rfl rfl (Kd.R_nil _ _ _ _ _) HR.out (fun x cs h => h) (fun k _ => ⟨trivial, by simp [Value.ownBlock]⟩) (fun _ _ => trivial) (Below.refl _ _) (Nat.le_refl _) (by simpa using hle) ?_; intro v1 w1 ho hb1 hg hat; rw [List.nil_append] at ho; obtain ⟨A1, c1, hv1, hc1, _⟩ := Kd.R_reads ho; have HO := Aside0.mk ho; clear ho hat hg; have HB := Aside0.mk hb1; clear hb1; subst hv1)
      | (go_at_call 108; (with_reducible refine (slices_Clip_byte_byte.calls _ _ _ _ hc1).mono ?_); rintro e w' ⟨rfl, rfl⟩))
    go_ret
    exact ⟨_, rfl, Kd.R_clip HO.out (Nat.le_refl _) hc1, HB.out⟩
def impl_Packet_copy.f (a0_0 : Int) (a0_1 : Int) (a0_2 : Int) (a0_3 : Int) (a0_4 : Int) (a0_5 : Int) (a0_6 : Bool) (a0_7 : Bool) (l0_8 : List Int) : Option (Int × Int × Int × Int × Int × Int × Bool × Bool × List Int) := (impl_clone_byte.f l0_8).bind fun t122 => (some (a0_0, a0_1, a0_2, a0_3, a0_4, a0_5, a0_6, a0_7, t122))
set_option maxHeartbeats 8000000 in
set_option maxRecDepth 100000 in
theorem impl_Packet_copy.calls (a0_0 : Int) (a0_1 : Int) (a0_2 : Int) (a0_3 : Int) (a0_4 : Int) (a0_5 : Int) (a0_6 : Bool) (a0_7 : Bool) (A0_8 : Option Addr) (c0_8 : Nat) (l0_8 : List Int) (r1 : Int) (r2 : Int) (r3 : Int) (r4 : Int) (r5 : Int) (r6 : Int) (r7 : Bool) (r8 : Bool) (r9 : List Int) (w : World) (hr0_8 : Kd.C (Kd.int .u8) w A0_8 l0_8.length l0_8) (hc0_8 : l0_8.length ≤ c0_8) (h : impl_Packet_copy.f a0_0 a0_1 a0_2 a0_3 a0_4 a0_5 a0_6 a0_7 l0_8 = some (r1, r2, r3, r4, r5, r6, r7, r8, r9)) :
  Calls Try.prog 82 #[.agg #[.int .i64 a0_0, .int .i64 a0_1, .int .i64 a0_2, .int .i64 a0_3, .int .i64 a0_4, .int .i64 a0_5, .bool a0_6, .bool a0_7, .slice A0_8 l0_8.length c0_8]] w fun e w' => ∃ v8_ : Value, e = .returned (.agg #[.int .i64 r1, .int .i64 r2, .int .i64 r3, .int .i64 r4, .int .i64 r5, .int .i64 r6, .bool r7, .bool r8, v8_]) ∧ Kd.R (Kd.int .u8) 5 w' w.heap.size (fun _ => True) v8_ r9 ∧ Below w.heap.size w w' := by
 have hu28 := Try.underlying28; have HR0_8 := Aside0.mk hr0_8; have HC0_8 := Aside0.mk hc0_8; clear hr0_8 hc0_8
 have HB := Aside0.mk (Below.refl w.heap.size w)
 have H : ((impl_clone_byte.f l0_8).bind fun t122 => (some (a0_0, a0_1, a0_2, a0_3, a0_4, a0_5, a0_6, a0_7, t122))) = some (r1, r2, r3, r4, r5, r6, r7, r8, r9) := h
 clear h
 replace H := Option.bind_eq_some_iff.mp H
 obtain ⟨t122, A20, H⟩ := H
 (try dsimp only at H)
 have A2 := Aside0.mk A20; clear A20
 simp only [Option.some.injEq, Prod.mk.injEq] at H
 obtain ⟨rfl, rfl, rfl, rfl, rfl, rfl, rfl, rfl, rfl⟩ := H
 go_enter Try.func82, Try.ntmps82
 go_wp2_with (first | ((with_reducible refine gate_dst (N := 1) rfl ?_); refine box_ (N := 1) (cs := #[.int .i64 a0_0, .int .i64 a0_1, .int .i64 a0_2, .int .i64 a0_3, .int .i64 a0_4, .int .i64 a0_5, .bool a0_6, .bool a0_7, .slice A0_8 l0_8.length c0_8]) (t := 28) (fun gb120 hg w3 hbox hb => ?_); have BK120 := Aside0.mk (hbox); have GW120 := ge_ hg HB; have GE120 := ge_ hg HB; replace HB := (bs_ HB hb); clear hb hbox hg) | ((with_reducible refine gate_dst (N := 2) rfl ?_); refine box_ (N := 2) (cs := #[.int .i64 0, .int .i64 0, .int .i64 0, .int .i64 0, .int .i64 0, .int .i64 0, .bool false, .bool false, .slice none 0 0]) (t := 28) (fun gb121 hg w4 hbox hb => ?_); have BK121 := Aside0.mk (hbox); have GW121 := ge_ hg HB; have GE121 := ge_ hg HB; replace HB := (bs_ HB hb); have NB120_121 := nl_ hg BK120; have NB121_120 := ng_ hg BK120; replace BK120 := (bbA_ BK120 hb); clear hb hbox hg; have hnb5 := NB120_121.out; have hnc5 := NB121_120.out; have Z6 := zz9 BK120) | ((with_reducible refine gate_callee (f := 93) rfl ?_); refine goesL_ (some 5) rfl rfl Try.func93 (by kernel_rfl) rfl #[.slice A0_8 l0_8.length c0_8] rfl ar_ ?_; (with_reducible refine (impl_clone_byte.calls _ _ l0_8 t122 _ ?side1 ?side2 A2.out).mono ?_); (case side1 => exact kC_ (Kd.C_below HR0_8.out HB.out)); (case side2 => exact HC0_8.out); rintro e w7 ⟨v123, rfl, ho0, hb⟩; refine ⟨_, rfl, ?_⟩; have HO124 := Aside0.mk (Kd.R_lower ho0 (below_size (hbA_ HB.out))); replace BK120 := (bbA_ BK120 hb); replace BK121 := (bbA_ BK121 hb); replace HB := (bs_ HB hb); (try clear hb); (try clear hb2); (try clear hk); (try clear hi); (try clear ho0); obtain ⟨Ao8, co8, eo8⟩ := Kd.R_slice HO124.out; subst eo8; have Z9 := zz9 BK120; have Z10 := zz9 BK121))
 refine bodyPost_ret (results_cell_row rfl _ _ gb121 28 #[.int .i64 a0_0, .int .i64 a0_1, .int .i64 a0_2, .int .i64 a0_3, .int .i64 a0_4, .int .i64 a0_5, .bool a0_6, .bool a0_7, .slice Ao8 t122.length co8] (0, 0) _ rfl (by refine kb_ ?_; refine pz9 (cs := #[.int .i64 0, .int .i64 0, .int .i64 0, .int .i64 0, .int .i64 0, .int .i64 0, .bool false, .bool false, .slice none 0 0]) ?_; exact kf_ BK121.out) Try.underlying28 rfl (by kernel_rfl)) rfl ?_
 exact ⟨_, by first | rfl | (simp [errW_none, errW_some] <;> rfl) | (simp [*, errW_none, errW_some] <;> rfl), by refine kR_ ?_; exact rfm_ ((Kd.R_far (p := ⟨gb120, 8, none⟩) (Kd.R_types (Kd.R_types HO124.out BK120.out (by decide)) BK121.out (by decide)) (fun _ hk => hk.1.2) (.slice Ao8 t122.length co8))) (fun _ hk => trivial), hbA_ HB.out⟩
end Go.Proofs.Ytpbeljcgcdilnaa.PFnExactPartWhole
