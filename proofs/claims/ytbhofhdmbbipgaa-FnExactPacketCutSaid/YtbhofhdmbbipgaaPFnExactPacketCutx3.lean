/- Printed by wip/xp/xprint.sh out of the translation, for this claim: what each function answers, as a plain function, and that the machine does just that. No condition. -/
import Derived.Test.YtbhofhdmbbipgaaPFnExactPacketCutx0
import Derived.Test.YtbhofhdmbbipgaaPFnExactPacketCutx2
namespace Go.Proofs.Ytbhofhdmbbipgaa.PFnExactPacketCut
open Go.RowKit Go.Proofs.YtbhofhdmbbipgaaW.PrintWords Go.Proofs.YtbhofhdmbbipgaaW.PrintLast Go.Proofs.YtbhofhdmbbipgaaW.PrintMore
attribute [local go_sem] max2_int min2_int max_two min_two max_three min_three max_four min_four   -- for this text's walks alone
set_option linter.unusedVariables false
set_option linter.unusedSimpArgs false
def spec_PacketOk.j0 : Nat → Bool → Int → Int → Int → Int → Int → Int → Bool → Bool → List Int → Option (Bool)
 | 0, _, _, _, _, _, _, _, _, _, _ => none
 | k + 1, x36, x122000, x122001, x122002, x122003, x122004, x122005, x122006, x122007, x122008 => if x36 = true then (some false) else (if (x122008.length : Int) ≤ 48 then (if x122006 = true then (if (x122008.length : Int) > 0 then (if x122007 = true then (if x122005 = 0 then (some (!x122006)) else (some false)) else (some true)) else (some false)) else (if x122007 = true then (if x122005 = 0 then (some (!x122006)) else (some false)) else (some true))) else (some false))
def spec_PacketOk.f (k : Nat) (a0_0 : Int) (a0_1 : Int) (a0_2 : Int) (a0_3 : Int) (a0_4 : Int) (a0_5 : Int) (a0_6 : Bool) (a0_7 : Bool) (l0_8 : List Int) : Option (Bool) := (spec_l1In.f a0_0 0 65535).bind fun t122 => (if t122 = true then ((spec_l1In.f a0_1 0 65535).bind fun t123 => (if t123 = true then ((spec_l1In.f a0_2 0 255).bind fun t124 => (if t124 = true then ((spec_l1In.f a0_3 0 255).bind fun t125 => (if t125 = true then ((spec_l1In.f a0_4 0 255).bind fun t126 => (if t126 = true then ((spec_l1In.f a0_5 0 255).bind fun t127 => (spec_PacketOk.j0 k (!t127) a0_0 a0_1 a0_2 a0_3 a0_4 a0_5 a0_6 a0_7 l0_8)) else (spec_PacketOk.j0 k true a0_0 a0_1 a0_2 a0_3 a0_4 a0_5 a0_6 a0_7 l0_8))) else (spec_PacketOk.j0 k true a0_0 a0_1 a0_2 a0_3 a0_4 a0_5 a0_6 a0_7 l0_8))) else (spec_PacketOk.j0 k true a0_0 a0_1 a0_2 a0_3 a0_4 a0_5 a0_6 a0_7 l0_8))) else (spec_PacketOk.j0 k true a0_0 a0_1 a0_2 a0_3 a0_4 a0_5 a0_6 a0_7 l0_8))) else (spec_PacketOk.j0 k true a0_0 a0_1 a0_2 a0_3 a0_4 a0_5 a0_6 a0_7 l0_8))
theorem spec_PacketOk.mono_l : ∀ k, (∀ y0 y1 y2 y3 y4 y5 y6 y7 y8 y9, LeO (spec_PacketOk.j0 k y0 y1 y2 y3 y4 y5 y6 y7 y8 y9) (spec_PacketOk.j0 (k + 1) y0 y1 y2 y3 y4 y5 y6 y7 y8 y9))
 | 0 => fun _ _ _ _ _ _ _ _ _ _ r h => by simp [spec_PacketOk.j0] at h
 | k + 1 => by
  have ih0 := spec_PacketOk.mono_l k
  ·intro y0 y1 y2 y3 y4 y5 y6 y7 y8 y9
   unfold spec_PacketOk.j0
   repeat' first | (with_reducible first | apply ih0 | exact LeO.refl _ | exact LeO.none _ | refine LeO.ite ?_ ?_ | refine LeO.bind ?_ fun _ => ?_) | apply ih0 | exact LeO.none _ | refine LeO.ite ?_ ?_ | refine LeO.bind ?_ fun _ => ?_
theorem spec_PacketOk.mono : ∀ a0 a1 a2 a3 a4 a5 a6 a7 a8 k, LeO (spec_PacketOk.f k a0 a1 a2 a3 a4 a5 a6 a7 a8) (spec_PacketOk.f (k + 1) a0 a1 a2 a3 a4 a5 a6 a7 a8) := by
 intro a0 a1 a2 a3 a4 a5 a6 a7 a8 k
 have ih0 := spec_PacketOk.mono_l k
 unfold spec_PacketOk.f
 repeat' first | (with_reducible first | apply ih0 | exact LeO.refl _ | exact LeO.none _ | refine LeO.ite ?_ ?_ | refine LeO.bind ?_ fun _ => ?_) | apply ih0 | exact LeO.none _ | refine LeO.ite ?_ ?_ | refine LeO.bind ?_ fun _ => ?_
set_option maxHeartbeats 8000000 in
set_option maxRecDepth 100000 in
theorem spec_PacketOk.calls (k : Nat) (a0_0 : Int) (a0_1 : Int) (a0_2 : Int) (a0_3 : Int) (a0_4 : Int) (a0_5 : Int) (a0_6 : Bool) (a0_7 : Bool) (A0_8 : Option Addr) (c0_8 : Nat) (l0_8 : List Int) (r : Bool) (w : World) (hr0_8 : Kd.C (Kd.int .u8) w A0_8 l0_8.length l0_8) (hc0_8 : l0_8.length ≤ c0_8) (h : spec_PacketOk.f k a0_0 a0_1 a0_2 a0_3 a0_4 a0_5 a0_6 a0_7 l0_8 = some r) :
  Calls Try.prog 58 #[.agg #[.int .i64 a0_0, .int .i64 a0_1, .int .i64 a0_2, .int .i64 a0_3, .int .i64 a0_4, .int .i64 a0_5, .bool a0_6, .bool a0_7, .slice A0_8 l0_8.length c0_8]] w fun e w' => e = .returned (.bool r) ∧ Below w.heap.size w w' := by
 have hu24 := Try.underlying24; have HR0_8 := Aside0.mk hr0_8; have HC0_8 := Aside0.mk hc0_8; clear hr0_8 hc0_8
 have HB := Aside0.mk (Below.refl w.heap.size w)
 have H : ((spec_l1In.f a0_0 0 65535).bind fun t122 => (if t122 = true then ((spec_l1In.f a0_1 0 65535).bind fun t123 => (if t123 = true then ((spec_l1In.f a0_2 0 255).bind fun t124 => (if t124 = true then ((spec_l1In.f a0_3 0 255).bind fun t125 => (if t125 = true then ((spec_l1In.f a0_4 0 255).bind fun t126 => (if t126 = true then ((spec_l1In.f a0_5 0 255).bind fun t127 => (spec_PacketOk.j0 k (!t127) a0_0 a0_1 a0_2 a0_3 a0_4 a0_5 a0_6 a0_7 l0_8)) else (spec_PacketOk.j0 k true a0_0 a0_1 a0_2 a0_3 a0_4 a0_5 a0_6 a0_7 l0_8))) else (spec_PacketOk.j0 k true a0_0 a0_1 a0_2 a0_3 a0_4 a0_5 a0_6 a0_7 l0_8))) else (spec_PacketOk.j0 k true a0_0 a0_1 a0_2 a0_3 a0_4 a0_5 a0_6 a0_7 l0_8))) else (spec_PacketOk.j0 k true a0_0 a0_1 a0_2 a0_3 a0_4 a0_5 a0_6 a0_7 l0_8))) else (spec_PacketOk.j0 k true a0_0 a0_1 a0_2 a0_3 a0_4 a0_5 a0_6 a0_7 l0_8))) = some r := h
 clear h; have HC2 := Aside0.mk H; clear H
 go_enter Try.func58, Try.ntmps58
 go_upto_region 1 with (first | ((with_reducible refine gate_dst (N := 1) rfl ?_); (try (refine gate_guard (by rfl) ?_; dsimp only)); refine box_ (N := 1) (cs := #[.int .i64 a0_0, .int .i64 a0_1, .int .i64 a0_2, .int .i64 a0_3, .int .i64 a0_4, .int .i64 a0_5, .bool a0_6, .bool a0_7, .slice A0_8 l0_8.length c0_8]) (t := 24) (fun gb121 hg w3 hbox hb => ?_); have BK121 := Aside0.mk (hbox); have GW121 := ge_ hg HB; have GE121 := ge_ hg HB; replace HB := (bs_ HB hb); clear hb hbox hg))
 (try simp only [Act.put, List.setIfInBounds_toArray, List.set_cons_zero, List.set_cons_succ])
 go_cut [36] (fun v36 wc => ∃ (kq : Nat) (x36_1 : Bool), v36 = .bool x36_1 ∧ Aside0 (spec_PacketOk.j0 kq x36_1 a0_0 a0_1 a0_2 a0_3 a0_4 a0_5 a0_6 a0_7 l0_8 = some r) ∧ Aside0 (kq ≤ k) ∧ Aside0 (wc.heap[gb121]? = some (.cells #[.int .i64 a0_0, .int .i64 a0_1, .int .i64 a0_2, .int .i64 a0_3, .int .i64 a0_4, .int .i64 a0_5, .bool a0_6, .bool a0_7, (.slice A0_8 l0_8.length c0_8)] 24 (0, 0))) ∧ Aside0 (Below w.heap.size w wc))
 case first =>
  have H := HC2.out; clear HC2
  replace H := Option.bind_eq_some_iff.mp H
  obtain ⟨t122, A40, H⟩ := H
  (try dsimp only at H)
  have A4 := Aside0.mk A40; clear A40
  by_cases c5 : t122 = true
  ·subst c5
   rw [if_pos rfl] at H
   replace H := Option.bind_eq_some_iff.mp H
   obtain ⟨t123, A60, H⟩ := H
   (try dsimp only at H)
   have A6 := Aside0.mk A60; clear A60
   by_cases c7 : t123 = true
   ·subst c7
    rw [if_pos rfl] at H
    replace H := Option.bind_eq_some_iff.mp H
    obtain ⟨t124, A80, H⟩ := H
    (try dsimp only at H)
    have A8 := Aside0.mk A80; clear A80
    by_cases c9 : t124 = true
    ·subst c9
     rw [if_pos rfl] at H
     replace H := Option.bind_eq_some_iff.mp H
     obtain ⟨t125, A100, H⟩ := H
     (try dsimp only at H)
     have A10 := Aside0.mk A100; clear A100
     by_cases c11 : t125 = true
     ·subst c11
      rw [if_pos rfl] at H
      replace H := Option.bind_eq_some_iff.mp H
      obtain ⟨t126, A120, H⟩ := H
      (try dsimp only at H)
      have A12 := Aside0.mk A120; clear A120
      by_cases c13 : t126 = true
      ·subst c13
       rw [if_pos rfl] at H
       replace H := Option.bind_eq_some_iff.mp H
       obtain ⟨t127, A140, H⟩ := H
       (try dsimp only at H)
       have A14 := Aside0.mk A140; clear A140
       have H' := Aside0.mk H
       clear H; have Z15 := zz9 BK121
       go_wp2_with (first | ((with_reducible refine gate_callee (f := 59) rfl ?_); refine goesL_ (some 5) rfl rfl Try.func59 (by kernel_rfl) rfl #[.int .i64 a0_0, .int .i64 0, .int .i64 65535] rfl ar_ ?_; (with_reducible refine (spec_l1In.calls a0_0 0 65535 true _ A4.out).mono ?_); rintro e w' ⟨rfl, ⟨nd, rfl⟩⟩; refine ⟨_, rfl, ?_⟩) | (go_at_call 59; (with_reducible refine (spec_l1In.calls a0_1 0 65535 true _ A6.out).mono ?_); rintro e w' ⟨rfl, ⟨nd, rfl⟩⟩) | (go_at_call 59; (with_reducible refine (spec_l1In.calls a0_2 0 255 true _ A8.out).mono ?_); rintro e w' ⟨rfl, ⟨nd, rfl⟩⟩) | (go_at_call 59; (with_reducible refine (spec_l1In.calls a0_3 0 255 true _ A10.out).mono ?_); rintro e w' ⟨rfl, ⟨nd, rfl⟩⟩) | (go_at_call 59; (with_reducible refine (spec_l1In.calls a0_4 0 255 true _ A12.out).mono ?_); rintro e w' ⟨rfl, ⟨nd, rfl⟩⟩) | (go_at_call 59; (with_reducible refine (spec_l1In.calls a0_5 0 255 t127 _ A14.out).mono ?_); rintro e w' ⟨rfl, ⟨nd, rfl⟩⟩))
       go_meet
       case rel => exact ⟨_, (!t127), (by first | rfl | (simp; done) | (simp [*]; done)), H', ⟨by first | omega | exact Nat.le_refl _⟩, ⟨by refine kb_ ?_; exact BK121.out⟩, ⟨hbA_ HB.out⟩⟩
      ·replace c13 := Bool.eq_false_iff.mpr c13
       subst c13
       rw [if_neg (show ¬ (false = true) by decide)] at H
       have H' := Aside0.mk H
       clear H; have Z16 := zz9 BK121
       go_wp2_with (first | ((with_reducible refine gate_callee (f := 59) rfl ?_); refine goesL_ (some 5) rfl rfl Try.func59 (by kernel_rfl) rfl #[.int .i64 a0_0, .int .i64 0, .int .i64 65535] rfl ar_ ?_; (with_reducible refine (spec_l1In.calls a0_0 0 65535 true _ A4.out).mono ?_); rintro e w' ⟨rfl, ⟨nd, rfl⟩⟩; refine ⟨_, rfl, ?_⟩) | (go_at_call 59; (with_reducible refine (spec_l1In.calls a0_1 0 65535 true _ A6.out).mono ?_); rintro e w' ⟨rfl, ⟨nd, rfl⟩⟩) | (go_at_call 59; (with_reducible refine (spec_l1In.calls a0_2 0 255 true _ A8.out).mono ?_); rintro e w' ⟨rfl, ⟨nd, rfl⟩⟩) | (go_at_call 59; (with_reducible refine (spec_l1In.calls a0_3 0 255 true _ A10.out).mono ?_); rintro e w' ⟨rfl, ⟨nd, rfl⟩⟩) | (go_at_call 59; (with_reducible refine (spec_l1In.calls a0_4 0 255 false _ A12.out).mono ?_); rintro e w' ⟨rfl, ⟨nd, rfl⟩⟩))
       go_meet
       case rel => exact ⟨_, (true), (by first | rfl | (simp; done) | (simp [*]; done)), H', ⟨by first | omega | exact Nat.le_refl _⟩, ⟨by refine kb_ ?_; exact BK121.out⟩, ⟨hbA_ HB.out⟩⟩
     ·replace c11 := Bool.eq_false_iff.mpr c11
      subst c11
      rw [if_neg (show ¬ (false = true) by decide)] at H
      have H' := Aside0.mk H
      clear H; have Z17 := zz9 BK121
      go_wp2_with (first | ((with_reducible refine gate_callee (f := 59) rfl ?_); refine goesL_ (some 5) rfl rfl Try.func59 (by kernel_rfl) rfl #[.int .i64 a0_0, .int .i64 0, .int .i64 65535] rfl ar_ ?_; (with_reducible refine (spec_l1In.calls a0_0 0 65535 true _ A4.out).mono ?_); rintro e w' ⟨rfl, ⟨nd, rfl⟩⟩; refine ⟨_, rfl, ?_⟩) | (go_at_call 59; (with_reducible refine (spec_l1In.calls a0_1 0 65535 true _ A6.out).mono ?_); rintro e w' ⟨rfl, ⟨nd, rfl⟩⟩) | (go_at_call 59; (with_reducible refine (spec_l1In.calls a0_2 0 255 true _ A8.out).mono ?_); rintro e w' ⟨rfl, ⟨nd, rfl⟩⟩) | (go_at_call 59; (with_reducible refine (spec_l1In.calls a0_3 0 255 false _ A10.out).mono ?_); rintro e w' ⟨rfl, ⟨nd, rfl⟩⟩))
      go_meet
      case rel => exact ⟨_, (true), (by first | rfl | (simp; done) | (simp [*]; done)), H', ⟨by first | omega | exact Nat.le_refl _⟩, ⟨by refine kb_ ?_; exact BK121.out⟩, ⟨hbA_ HB.out⟩⟩
    ·replace c9 := Bool.eq_false_iff.mpr c9
     subst c9
     rw [if_neg (show ¬ (false = true) by decide)] at H
     have H' := Aside0.mk H
     clear H; have Z18 := zz9 BK121
     go_wp2_with (first | ((with_reducible refine gate_callee (f := 59) rfl ?_); refine goesL_ (some 5) rfl rfl Try.func59 (by kernel_rfl) rfl #[.int .i64 a0_0, .int .i64 0, .int .i64 65535] rfl ar_ ?_; (with_reducible refine (spec_l1In.calls a0_0 0 65535 true _ A4.out).mono ?_); rintro e w' ⟨rfl, ⟨nd, rfl⟩⟩; refine ⟨_, rfl, ?_⟩) | (go_at_call 59; (with_reducible refine (spec_l1In.calls a0_1 0 65535 true _ A6.out).mono ?_); rintro e w' ⟨rfl, ⟨nd, rfl⟩⟩) | (go_at_call 59; (with_reducible refine (spec_l1In.calls a0_2 0 255 false _ A8.out).mono ?_); rintro e w' ⟨rfl, ⟨nd, rfl⟩⟩))
     go_meet
     case rel => exact ⟨_, (true), (by first | rfl | (simp; done) | (simp [*]; done)), H', ⟨by first | omega | exact Nat.le_refl _⟩, ⟨by refine kb_ ?_; exact BK121.out⟩, ⟨hbA_ HB.out⟩⟩
   ·replace c7 := Bool.eq_false_iff.mpr c7
    subst c7
    rw [if_neg (show ¬ (false = true) by decide)] at H
    have H' := Aside0.mk H
    clear H; have Z19 := zz9 BK121
    go_wp2_with (first | ((with_reducible refine gate_callee (f := 59) rfl ?_); refine goesL_ (some 5) rfl rfl Try.func59 (by kernel_rfl) rfl #[.int .i64 a0_0, .int .i64 0, .int .i64 65535] rfl ar_ ?_; (with_reducible refine (spec_l1In.calls a0_0 0 65535 true _ A4.out).mono ?_); rintro e w' ⟨rfl, ⟨nd, rfl⟩⟩; refine ⟨_, rfl, ?_⟩) | (go_at_call 59; (with_reducible refine (spec_l1In.calls a0_1 0 65535 false _ A6.out).mono ?_); rintro e w' ⟨rfl, ⟨nd, rfl⟩⟩))
    go_meet
    case rel => exact ⟨_, (true), (by first | rfl | (simp; done) | (simp [*]; done)), H', ⟨by first | omega | exact Nat.le_refl _⟩, ⟨by refine kb_ ?_; exact BK121.out⟩, ⟨hbA_ HB.out⟩⟩
  ·replace c5 := Bool.eq_false_iff.mpr c5
   subst c5
   rw [if_neg (show ¬ (false = true) by decide)] at H
   have H' := Aside0.mk H
   clear H; have Z20 := zz9 BK121
   go_wp2_with (first | ((with_reducible refine gate_callee (f := 59) rfl ?_); refine goesL_ (some 5) rfl rfl Try.func59 (by kernel_rfl) rfl #[.int .i64 a0_0, .int .i64 0, .int .i64 65535] rfl ar_ ?_; (with_reducible refine (spec_l1In.calls a0_0 0 65535 false _ A4.out).mono ?_); rintro e w' ⟨rfl, ⟨nd, rfl⟩⟩; refine ⟨_, rfl, ?_⟩))
   go_meet
   case rel => exact ⟨_, (true), (by first | rfl | (simp; done) | (simp [*]; done)), H', ⟨by first | omega | exact Nat.le_refl _⟩, ⟨by refine kb_ ?_; exact BK121.out⟩, ⟨hbA_ HB.out⟩⟩
 case rest =>
  clear HC2; (try clear c1); (try clear p2); (try clear c5); (try clear c7); (try clear c9); (try clear c11); (try clear c13); (try clear Z15); (try clear Z16); (try clear Z17); (try clear Z18); (try clear Z19); (try clear Z20)
  obtain ⟨kq, x36_1, rfl, HA, HJ1, BK121, HB⟩ := hcut
  cases kq with
  | zero => exact absurd HA.out (by simp [spec_PacketOk.j0])
  | succ kj1 =>
   have H := HA.out; clear HA
   simp only [spec_PacketOk.j0] at H
   by_cases c21 : x36_1 = true
   ·subst c21
    rw [if_pos rfl] at H
    obtain rfl := Option.some.inj H
    go_wp2
    go_ret
    exact ⟨by first | rfl | (simp [errW_none, errW_some] <;> rfl) | (simp [*, errW_none, errW_some] <;> rfl), hbA_ HB.out⟩
   ·replace c21 := Bool.eq_false_iff.mpr c21
    subst c21
    rw [if_neg (show ¬ (false = true) by decide)] at H
    by_cases c22 : (l0_8.length : Int) ≤ 48
    ·rw [if_pos c22] at H
     have c22b0 : decide ((l0_8.length : Int) ≤ 48) = true := decide_eq_true c22
     have c22b1 : decide (l0_8.length ≤ 48) = true := decide_eq_true (by omega)
     clear c22
     by_cases c23 : a0_6 = true
     ·subst c23
      rw [if_pos rfl] at H
      by_cases c24 : (l0_8.length : Int) > 0
      ·rw [if_pos c24] at H
       have c24b0 : decide (0 < (l0_8.length : Int)) = true := decide_eq_true c24
       have c24b1 : decide (0 < l0_8.length) = true := decide_eq_true (by omega)
       clear c24
       by_cases c25 : a0_7 = true
       ·subst c25
        rw [if_pos rfl] at H
        by_cases c26 : a0_5 = 0
        ·rw [if_pos c26] at H
         have c26b0 : (a0_5 == 0) = true := beq_iff_eq.mpr c26
         have c26b1 : (a0_5 != 0) = false := bne_eq_false_iff_eq.mpr c26
         clear c26
         obtain rfl := Option.some.inj H
         have Z27 := zz9 BK121
         go_wp2
         go_ret
         exact ⟨by first | rfl | (simp [errW_none, errW_some] <;> rfl) | (simp [*, errW_none, errW_some] <;> rfl), hbA_ HB.out⟩
        ·rw [if_neg c26] at H
         have c26b0 : (a0_5 == 0) = false := beq_eq_false_iff_ne.mpr c26
         have c26b1 : (a0_5 != 0) = true := bne_iff_ne.mpr c26
         obtain rfl := Option.some.inj H
         have Z28 := zz9 BK121
         go_wp2
         go_ret
         exact ⟨by first | rfl | (simp [errW_none, errW_some] <;> rfl) | (simp [*, errW_none, errW_some] <;> rfl), hbA_ HB.out⟩
       ·replace c25 := Bool.eq_false_iff.mpr c25
        subst c25
        rw [if_neg (show ¬ (false = true) by decide)] at H
        obtain rfl := Option.some.inj H
        have Z29 := zz9 BK121
        go_wp2
        go_ret
        exact ⟨by first | rfl | (simp [errW_none, errW_some] <;> rfl) | (simp [*, errW_none, errW_some] <;> rfl), hbA_ HB.out⟩
      ·rw [if_neg c24] at H
       have c24b0 : decide (0 < (l0_8.length : Int)) = false := decide_eq_false c24
       have c24b1 : decide (0 < l0_8.length) = false := decide_eq_false (by omega)
       clear c24
       obtain rfl := Option.some.inj H
       have Z30 := zz9 BK121
       go_wp2
       go_ret
       exact ⟨by first | rfl | (simp [errW_none, errW_some] <;> rfl) | (simp [*, errW_none, errW_some] <;> rfl), hbA_ HB.out⟩
     ·replace c23 := Bool.eq_false_iff.mpr c23
      subst c23
      rw [if_neg (show ¬ (false = true) by decide)] at H
      by_cases c31 : a0_7 = true
      ·subst c31
       rw [if_pos rfl] at H
       by_cases c32 : a0_5 = 0
       ·rw [if_pos c32] at H
        have c32b0 : (a0_5 == 0) = true := beq_iff_eq.mpr c32
        have c32b1 : (a0_5 != 0) = false := bne_eq_false_iff_eq.mpr c32
        clear c32
        obtain rfl := Option.some.inj H
        have Z33 := zz9 BK121
        go_wp2
        go_ret
        exact ⟨by first | rfl | (simp [errW_none, errW_some] <;> rfl) | (simp [*, errW_none, errW_some] <;> rfl), hbA_ HB.out⟩
       ·rw [if_neg c32] at H
        have c32b0 : (a0_5 == 0) = false := beq_eq_false_iff_ne.mpr c32
        have c32b1 : (a0_5 != 0) = true := bne_iff_ne.mpr c32
        obtain rfl := Option.some.inj H
        have Z34 := zz9 BK121
        go_wp2
        go_ret
        exact ⟨by first | rfl | (simp [errW_none, errW_some] <;> rfl) | (simp [*, errW_none, errW_some] <;> rfl), hbA_ HB.out⟩
      ·replace c31 := Bool.eq_false_iff.mpr c31
       subst c31
       rw [if_neg (show ¬ (false = true) by decide)] at H
       obtain rfl := Option.some.inj H
       have Z35 := zz9 BK121
       go_wp2
       go_ret
       exact ⟨by first | rfl | (simp [errW_none, errW_some] <;> rfl) | (simp [*, errW_none, errW_some] <;> rfl), hbA_ HB.out⟩
    ·rw [if_neg c22] at H
     have c22b0 : decide ((l0_8.length : Int) ≤ 48) = false := decide_eq_false c22
     have c22b1 : decide (l0_8.length ≤ 48) = false := decide_eq_false (by omega)
     clear c22
     obtain rfl := Option.some.inj H
     have Z36 := zz9 BK121
     go_wp2
     go_ret
     exact ⟨by first | rfl | (simp [errW_none, errW_some] <;> rfl) | (simp [*, errW_none, errW_some] <;> rfl), hbA_ HB.out⟩
mutual
def spec_PacketCut.j0 : Nat → Int → List (S24) → Bool → Int → Int → Int → Int → Int → Int → Bool → Bool → List Int → Option ((List (S24)) × Bool)
 | 0, _, _, _, _, _, _, _, _, _, _, _, _ => none
 | k + 1, x1, x6, x29, x129000, x129001, x129002, x129003, x129004, x129005, x129006, x129007, x129008 => if x29 = true then (some (x6, false)) else (spec_PacketCut.l0 k x1 x6 0 x129000 x129001 x129002 x129003 x129004 x129005 x129006 x129007 x129008)
def spec_PacketCut.l0 : Nat → Int → List (S24) → Int → Int → Int → Int → Int → Int → Int → Bool → Bool → List Int → Option ((List (S24)) × Bool)
 | 0, _, _, _, _, _, _, _, _, _, _, _, _ => none
 | k + 1, x1, x6, x7, x129000, x129001, x129002, x129003, x129004, x129005, x129006, x129007, x129008 => if x7 = 0 then (spec_PacketCut.j2 k x1 x6 x7 true x129000 x129001 x129002 x129003 x129004 x129005 x129006 x129007 x129008) else (spec_PacketCut.j2 k x1 x6 x7 (decide (x7 < (x129008.length : Int))) x129000 x129001 x129002 x129003 x129004 x129005 x129006 x129007 x129008)
def spec_PacketCut.j2 : Nat → Int → List (S24) → Int → Bool → Int → Int → Int → Int → Int → Int → Bool → Bool → List Int → Option ((List (S24)) × Bool)
 | 0, _, _, _, _, _, _, _, _, _, _, _, _, _ => none
 | k + 1, x1, x6, x7, x39, x129000, x129001, x129002, x129003, x129004, x129005, x129006, x129007, x129008 => if x39 = true then (if x129006 = true then ((some (([] : List Int) : List Int)).bind fun y135 => (if 0 ≤ x7 then (if x7 ≤ (mn (wrap64 (x7 + x1)) (x129008.length : Int)) then (if (mn (wrap64 (x7 + x1)) (x129008.length : Int)) ≤ (x129008.length : Int) then (if y135.length + ((x129008.take ((mn (wrap64 (x7 + x1)) (x129008.length : Int)) : Int).toNat).drop (x7 : Int).toNat).length < 140737488355328 then (if (wrap64 (x129005 + x7)) > 255 then (some ((([] : List (S24))), false)) else (if x6.length < 1759218604441 then (spec_PacketCut.l0 k x1 (x6 ++ [(⟨x129000, x129001, x129002, x129003, x129004, wrap64 (x129005 + x7), true, x129007, (y135 ++ ((x129008.take ((mn (wrap64 (x7 + x1)) (x129008.length : Int)) : Int).toNat).drop (x7 : Int).toNat))⟩ : S24)]) (wrap64 (x7 + x1)) x129000 x129001 x129002 x129003 x129004 x129005 x129006 x129007 x129008) else (none))) else (none)) else (none)) else (none)) else (none))) else ((some (([] : List Int) : List Int)).bind fun y148 => (if 0 ≤ x7 then (if x7 ≤ (mn (wrap64 (x7 + x1)) (x129008.length : Int)) then (if (mn (wrap64 (x7 + x1)) (x129008.length : Int)) ≤ (x129008.length : Int) then (if y148.length + ((x129008.take ((mn (wrap64 (x7 + x1)) (x129008.length : Int)) : Int).toNat).drop (x7 : Int).toNat).length < 140737488355328 then (if (wrap64 (x129005 + x7)) > 255 then (some ((([] : List (S24))), false)) else (if x6.length < 1759218604441 then (spec_PacketCut.l0 k x1 (x6 ++ [(⟨x129000, x129001, x129002, x129003, x129004, wrap64 (x129005 + x7), decide ((mn (wrap64 (x7 + x1)) (x129008.length : Int)) < (x129008.length : Int)), x129007, (y148 ++ ((x129008.take ((mn (wrap64 (x7 + x1)) (x129008.length : Int)) : Int).toNat).drop (x7 : Int).toNat))⟩ : S24)]) (wrap64 (x7 + x1)) x129000 x129001 x129002 x129003 x129004 x129005 x129006 x129007 x129008) else (none))) else (none)) else (none)) else (none)) else (none)))) else (some (x6, true))
end
def spec_PacketCut.f (k : Nat) (a0_0 : Int) (a0_1 : Int) (a0_2 : Int) (a0_3 : Int) (a0_4 : Int) (a0_5 : Int) (a0_6 : Bool) (a0_7 : Bool) (l0_8 : List Int) (a1 : Int) : Option ((List (S24)) × Bool) := (some (([] : List (S24)) : List (S24))).bind fun y129 => ((spec_PacketOk.f k a0_0 a0_1 a0_2 a0_3 a0_4 a0_5 a0_6 a0_7 l0_8).bind fun t132 => (if t132 = true then ((spec_l1In.f a1 1 48).bind fun t133 => (if t133 = true then (if (l0_8.length : Int) > a1 then (spec_PacketCut.j0 k a1 y129 a0_7 a0_0 a0_1 a0_2 a0_3 a0_4 a0_5 a0_6 a0_7 l0_8) else (spec_PacketCut.j0 k a1 y129 false a0_0 a0_1 a0_2 a0_3 a0_4 a0_5 a0_6 a0_7 l0_8)) else (spec_PacketCut.j0 k a1 y129 true a0_0 a0_1 a0_2 a0_3 a0_4 a0_5 a0_6 a0_7 l0_8))) else (spec_PacketCut.j0 k a1 y129 true a0_0 a0_1 a0_2 a0_3 a0_4 a0_5 a0_6 a0_7 l0_8)))
theorem spec_PacketCut.mono_l : ∀ k, (∀ y0 y1 y2 y3 y4 y5 y6 y7 y8 y9 y10 y11, LeO (spec_PacketCut.j0 k y0 y1 y2 y3 y4 y5 y6 y7 y8 y9 y10 y11) (spec_PacketCut.j0 (k + 1) y0 y1 y2 y3 y4 y5 y6 y7 y8 y9 y10 y11)) ∧ (∀ y0 y1 y2 y3 y4 y5 y6 y7 y8 y9 y10 y11, LeO (spec_PacketCut.l0 k y0 y1 y2 y3 y4 y5 y6 y7 y8 y9 y10 y11) (spec_PacketCut.l0 (k + 1) y0 y1 y2 y3 y4 y5 y6 y7 y8 y9 y10 y11)) ∧ (∀ y0 y1 y2 y3 y4 y5 y6 y7 y8 y9 y10 y11 y12, LeO (spec_PacketCut.j2 k y0 y1 y2 y3 y4 y5 y6 y7 y8 y9 y10 y11 y12) (spec_PacketCut.j2 (k + 1) y0 y1 y2 y3 y4 y5 y6 y7 y8 y9 y10 y11 y12))
 | 0 => ⟨fun _ _ _ _ _ _ _ _ _ _ _ _ r h => by simp [spec_PacketCut.j0] at h, fun _ _ _ _ _ _ _ _ _ _ _ _ r h => by simp [spec_PacketCut.l0] at h, fun _ _ _ _ _ _ _ _ _ _ _ _ _ r h => by simp [spec_PacketCut.j2] at h⟩
 | k + 1 => by
  obtain ⟨ih0, ih1, ih2⟩ := spec_PacketCut.mono_l k
  refine ⟨?_, ?_, ?_⟩
  ·intro y0 y1 y2 y3 y4 y5 y6 y7 y8 y9 y10 y11
   unfold spec_PacketCut.j0
   repeat' first | (with_reducible first | apply ih0 | apply ih1 | apply ih2 | apply spec_PacketOk.mono | exact LeO.refl _ | exact LeO.none _ | refine LeO.ite ?_ ?_ | refine LeO.bind ?_ fun _ => ?_) | apply ih0 | apply ih1 | apply ih2 | apply spec_PacketOk.mono | exact LeO.none _ | refine LeO.ite ?_ ?_ | refine LeO.bind ?_ fun _ => ?_
  ·intro y0 y1 y2 y3 y4 y5 y6 y7 y8 y9 y10 y11
   unfold spec_PacketCut.l0
   repeat' first | (with_reducible first | apply ih0 | apply ih1 | apply ih2 | apply spec_PacketOk.mono | exact LeO.refl _ | exact LeO.none _ | refine LeO.ite ?_ ?_ | refine LeO.bind ?_ fun _ => ?_) | apply ih0 | apply ih1 | apply ih2 | apply spec_PacketOk.mono | exact LeO.none _ | refine LeO.ite ?_ ?_ | refine LeO.bind ?_ fun _ => ?_
  ·intro y0 y1 y2 y3 y4 y5 y6 y7 y8 y9 y10 y11 y12
   unfold spec_PacketCut.j2
   repeat' first | (with_reducible first | apply ih0 | apply ih1 | apply ih2 | apply spec_PacketOk.mono | exact LeO.refl _ | exact LeO.none _ | refine LeO.ite ?_ ?_ | refine LeO.bind ?_ fun _ => ?_) | apply ih0 | apply ih1 | apply ih2 | apply spec_PacketOk.mono | exact LeO.none _ | refine LeO.ite ?_ ?_ | refine LeO.bind ?_ fun _ => ?_
theorem spec_PacketCut.mono : ∀ a0 a1 a2 a3 a4 a5 a6 a7 a8 a9 k, LeO (spec_PacketCut.f k a0 a1 a2 a3 a4 a5 a6 a7 a8 a9) (spec_PacketCut.f (k + 1) a0 a1 a2 a3 a4 a5 a6 a7 a8 a9) := by
 intro a0 a1 a2 a3 a4 a5 a6 a7 a8 a9 k
 obtain ⟨ih0, ih1, ih2⟩ := spec_PacketCut.mono_l k
 unfold spec_PacketCut.f
 repeat' first | (with_reducible first | apply ih0 | apply ih1 | apply ih2 | apply spec_PacketOk.mono | exact LeO.refl _ | exact LeO.none _ | refine LeO.ite ?_ ?_ | refine LeO.bind ?_ fun _ => ?_) | apply ih0 | apply ih1 | apply ih2 | apply spec_PacketOk.mono | exact LeO.none _ | refine LeO.ite ?_ ?_ | refine LeO.bind ?_ fun _ => ?_
set_option maxHeartbeats 8000000 in
set_option maxRecDepth 100000 in
theorem spec_PacketCut.calls (k : Nat) (a0_0 : Int) (a0_1 : Int) (a0_2 : Int) (a0_3 : Int) (a0_4 : Int) (a0_5 : Int) (a0_6 : Bool) (a0_7 : Bool) (A0_8 : Option Addr) (c0_8 : Nat) (l0_8 : List Int) (a1 : Int) (r1 : List (S24)) (r2 : Bool) (w : World) (hr0_8 : Kd.C (Kd.int .u8) w A0_8 l0_8.length l0_8) (hc0_8 : l0_8.length ≤ c0_8) (h : spec_PacketCut.f k a0_0 a0_1 a0_2 a0_3 a0_4 a0_5 a0_6 a0_7 l0_8 a1 = some (r1, r2)) :
  Calls Try.prog 11 #[.agg #[.int .i64 a0_0, .int .i64 a0_1, .int .i64 a0_2, .int .i64 a0_3, .int .i64 a0_4, .int .i64 a0_5, .bool a0_6, .bool a0_7, .slice A0_8 l0_8.length c0_8], .int .i64 a1] w fun e w' => ∃ v0_ : Value, e = .returned (.tuple #[v0_, .bool r2]) ∧ Kd.S k24 24 w' w.heap.size (fun _ => True) v0_ r1 ∧ Below w.heap.size w w' := by
 have hu24 := Try.underlying24; have HR0_8 := Aside0.mk hr0_8; have HC0_8 := Aside0.mk hc0_8; clear hr0_8 hc0_8
 have HB := Aside0.mk (Below.refl w.heap.size w)
 have H : ((some (([] : List (S24)) : List (S24))).bind fun y129 => ((spec_PacketOk.f k a0_0 a0_1 a0_2 a0_3 a0_4 a0_5 a0_6 a0_7 l0_8).bind fun t132 => (if t132 = true then ((spec_l1In.f a1 1 48).bind fun t133 => (if t133 = true then (if (l0_8.length : Int) > a1 then (spec_PacketCut.j0 k a1 y129 a0_7 a0_0 a0_1 a0_2 a0_3 a0_4 a0_5 a0_6 a0_7 l0_8) else (spec_PacketCut.j0 k a1 y129 false a0_0 a0_1 a0_2 a0_3 a0_4 a0_5 a0_6 a0_7 l0_8)) else (spec_PacketCut.j0 k a1 y129 true a0_0 a0_1 a0_2 a0_3 a0_4 a0_5 a0_6 a0_7 l0_8))) else (spec_PacketCut.j0 k a1 y129 true a0_0 a0_1 a0_2 a0_3 a0_4 a0_5 a0_6 a0_7 l0_8)))) = some (r1, r2) := h
 clear h
 obtain ⟨y129, hy129⟩ : ∃ y_ : List (S24), y_ = (([] : List (S24))) := ⟨_, rfl⟩
 (first | replace H := sb_ hy129 H | rw [← hy129] at H)
 have Ny129 := Aside0.mk hy129; clear hy129; have HC3 := Aside0.mk H; clear H
 go_enter Try.func11, Try.ntmps11
 go_upto_region 2 with (first | ((with_reducible refine gate_dst (N := 2) rfl ?_); (try (refine gate_guard (by rfl) ?_; dsimp only)); refine box_ (N := 2) (cs := #[.int .i64 a0_0, .int .i64 a0_1, .int .i64 a0_2, .int .i64 a0_3, .int .i64 a0_4, .int .i64 a0_5, .bool a0_6, .bool a0_7, .slice A0_8 l0_8.length c0_8]) (t := 24) (fun gb128 hg w4 hbox hb => ?_); have BK128 := Aside0.mk (hbox); have GW128 := ge_ hg HB; have GE128 := ge_ hg HB; replace HB := (bs_ HB hb); clear hb hbox hg) | ((with_reducible refine gate_dst (N := 10) rfl ?_); (try (refine gate_guard (by rfl) ?_; dsimp only)); refine Kd.S_lit k24 _ 24 ?hg (N := 10) ?hd (xs := ([] : List (S24))) (inner := []) (ok := fun _ => True) (okp := fun _ => True) ?hr ?hp (fun _ hk => hk) trivial (Below.refl _ _) (Nat.le_refl _) (by simp) ?_; (case hd => rfl); (case hg => rfl); (case hr => first | (go_simp; done) | (go_simp; rfl)); (case hp => exact (Reps.none _ _)); intro v130 w5 ho6 hb hg_ hnew_; clear hg_ hnew_; (first | rw [← Ny129.out] at ho6 | (simp only [Int.reduceToNat] at ho6; rw [← Ny129.out] at ho6)); have HO131 := Aside0.mk (Kd.S_lower (nbS_ ho6 BK128) (below_size (hbA_ HB.out))); replace BK128 := (bbA_ BK128 hb); replace HB := (bs_ HB hb); clear hb ho6))
 (try simp only [Act.put, List.setIfInBounds_toArray, List.set_cons_zero, List.set_cons_succ])
 go_cut [29] (fun v29 wc => ∃ (kq : Nat) (x29_2 : Bool), v29 = .bool x29_2 ∧ Aside0 (spec_PacketCut.j0 kq a1 y129 x29_2 a0_0 a0_1 a0_2 a0_3 a0_4 a0_5 a0_6 a0_7 l0_8 = some (r1, r2)) ∧ Aside0 (kq ≤ k) ∧ Aside0 (Kd.S k24 24 wc w.heap.size (fun k_ => k_ ≠ gb128) v130 y129) ∧ Aside0 (wc.heap[gb128]? = some (.cells #[.int .i64 a0_0, .int .i64 a0_1, .int .i64 a0_2, .int .i64 a0_3, .int .i64 a0_4, .int .i64 a0_5, .bool a0_6, .bool a0_7, (.slice A0_8 l0_8.length c0_8)] 24 (0, 0))) ∧ Aside0 (Below w.heap.size w wc))
 case first =>
  have H := HC3.out; clear HC3
  replace H := Option.bind_eq_some_iff.mp H
  obtain ⟨t132, A70, H⟩ := H
  (try dsimp only at H)
  have A7 := Aside0.mk A70; clear A70
  by_cases c8 : t132 = true
  ·subst c8
   rw [if_pos rfl] at H
   replace H := Option.bind_eq_some_iff.mp H
   obtain ⟨t133, A90, H⟩ := H
   (try dsimp only at H)
   have A9 := Aside0.mk A90; clear A90
   by_cases c10 : t133 = true
   ·subst c10
    rw [if_pos rfl] at H
    by_cases c11 : (l0_8.length : Int) > a1
    ·rw [if_pos c11] at H
     have c11b0 : decide (a1 < (l0_8.length : Int)) = true := decide_eq_true c11
     clear c11
     (first | rw [c11b0] | (simp only [i64_w, i32_w]; rw [c11b0]) | skip)
     have H' := Aside0.mk H
     clear H; have Z12 := zz9 BK128
     go_wp2_with (first | ((with_reducible refine gate_callee (f := 58) rfl ?_); refine goesL_ (some 12) rfl rfl Try.func58 (by kernel_rfl) rfl #[.agg #[.int .i64 a0_0, .int .i64 a0_1, .int .i64 a0_2, .int .i64 a0_3, .int .i64 a0_4, .int .i64 a0_5, .bool a0_6, .bool a0_7, .slice A0_8 l0_8.length c0_8]] rfl ar_ ?_; (with_reducible refine (spec_PacketOk.calls k a0_0 a0_1 a0_2 a0_3 a0_4 a0_5 a0_6 a0_7 _ _ l0_8 true _ ?side1 ?side2 A7.out).mono ?_); (case side1 => exact kC_ (Kd.C_below HR0_8.out HB.out)); (case side2 => exact HC0_8.out); rintro e w13 ⟨rfl, hb⟩; refine ⟨_, rfl, ?_⟩; replace HO131 := Aside0.mk (Kd.S_below (kS_ HO131.out) hb); replace BK128 := (bbA_ BK128 hb); replace HB := (bs_ HB hb); (try clear hb); (try clear hb2); (try clear hk); (try clear hi)) | (go_at_call 59; (with_reducible refine (spec_l1In.calls a1 1 48 true _ A9.out).mono ?_); rintro e w' ⟨rfl, ⟨nd, rfl⟩⟩; have Z14 := zz9 BK128))
     go_meet
     case rel => exact ⟨_, (a0_7), (by first | rfl | (simp; done) | (simp [*]; done)), H', ⟨by first | omega | exact Nat.le_refl _⟩, ⟨by refine kS_ ?_; exact Kd.S_mono HO131.out (fun _ hk => hk.2)⟩, ⟨by refine kb_ ?_; exact BK128.out⟩, ⟨hbA_ HB.out⟩⟩
    ·rw [if_neg c11] at H
     have c11b0 : decide (a1 < (l0_8.length : Int)) = false := decide_eq_false c11
     clear c11
     (first | rw [c11b0] | (simp only [i64_w, i32_w]; rw [c11b0]) | skip)
     have H' := Aside0.mk H
     clear H; have Z15 := zz9 BK128
     go_wp2_with (first | ((with_reducible refine gate_callee (f := 58) rfl ?_); refine goesL_ (some 12) rfl rfl Try.func58 (by kernel_rfl) rfl #[.agg #[.int .i64 a0_0, .int .i64 a0_1, .int .i64 a0_2, .int .i64 a0_3, .int .i64 a0_4, .int .i64 a0_5, .bool a0_6, .bool a0_7, .slice A0_8 l0_8.length c0_8]] rfl ar_ ?_; (with_reducible refine (spec_PacketOk.calls k a0_0 a0_1 a0_2 a0_3 a0_4 a0_5 a0_6 a0_7 _ _ l0_8 true _ ?side1 ?side2 A7.out).mono ?_); (case side1 => exact kC_ (Kd.C_below HR0_8.out HB.out)); (case side2 => exact HC0_8.out); rintro e w16 ⟨rfl, hb⟩; refine ⟨_, rfl, ?_⟩; replace HO131 := Aside0.mk (Kd.S_below (kS_ HO131.out) hb); replace BK128 := (bbA_ BK128 hb); replace HB := (bs_ HB hb); (try clear hb); (try clear hb2); (try clear hk); (try clear hi)) | (go_at_call 59; (with_reducible refine (spec_l1In.calls a1 1 48 true _ A9.out).mono ?_); rintro e w' ⟨rfl, ⟨nd, rfl⟩⟩; have Z17 := zz9 BK128))
     go_meet
     case rel => exact ⟨_, (false), (by first | rfl | (simp; done) | (simp [*]; done)), H', ⟨by first | omega | exact Nat.le_refl _⟩, ⟨by refine kS_ ?_; exact Kd.S_mono HO131.out (fun _ hk => hk.2)⟩, ⟨by refine kb_ ?_; exact BK128.out⟩, ⟨hbA_ HB.out⟩⟩
   ·replace c10 := Bool.eq_false_iff.mpr c10
    subst c10
    rw [if_neg (show ¬ (false = true) by decide)] at H
    have H' := Aside0.mk H
    clear H; have Z18 := zz9 BK128
    go_wp2_with (first | ((with_reducible refine gate_callee (f := 58) rfl ?_); refine goesL_ (some 12) rfl rfl Try.func58 (by kernel_rfl) rfl #[.agg #[.int .i64 a0_0, .int .i64 a0_1, .int .i64 a0_2, .int .i64 a0_3, .int .i64 a0_4, .int .i64 a0_5, .bool a0_6, .bool a0_7, .slice A0_8 l0_8.length c0_8]] rfl ar_ ?_; (with_reducible refine (spec_PacketOk.calls k a0_0 a0_1 a0_2 a0_3 a0_4 a0_5 a0_6 a0_7 _ _ l0_8 true _ ?side1 ?side2 A7.out).mono ?_); (case side1 => exact kC_ (Kd.C_below HR0_8.out HB.out)); (case side2 => exact HC0_8.out); rintro e w19 ⟨rfl, hb⟩; refine ⟨_, rfl, ?_⟩; replace HO131 := Aside0.mk (Kd.S_below (kS_ HO131.out) hb); replace BK128 := (bbA_ BK128 hb); replace HB := (bs_ HB hb); (try clear hb); (try clear hb2); (try clear hk); (try clear hi)) | (go_at_call 59; (with_reducible refine (spec_l1In.calls a1 1 48 false _ A9.out).mono ?_); rintro e w' ⟨rfl, ⟨nd, rfl⟩⟩))
    go_meet
    case rel => exact ⟨_, (true), (by first | rfl | (simp; done) | (simp [*]; done)), H', ⟨by first | omega | exact Nat.le_refl _⟩, ⟨by refine kS_ ?_; exact Kd.S_mono HO131.out (fun _ hk => hk.2)⟩, ⟨by refine kb_ ?_; exact BK128.out⟩, ⟨hbA_ HB.out⟩⟩
  ·replace c8 := Bool.eq_false_iff.mpr c8
   subst c8
   rw [if_neg (show ¬ (false = true) by decide)] at H
   have H' := Aside0.mk H
   clear H; have Z20 := zz9 BK128
   go_wp2_with (first | ((with_reducible refine gate_callee (f := 58) rfl ?_); refine goesL_ (some 12) rfl rfl Try.func58 (by kernel_rfl) rfl #[.agg #[.int .i64 a0_0, .int .i64 a0_1, .int .i64 a0_2, .int .i64 a0_3, .int .i64 a0_4, .int .i64 a0_5, .bool a0_6, .bool a0_7, .slice A0_8 l0_8.length c0_8]] rfl ar_ ?_; (with_reducible refine (spec_PacketOk.calls k a0_0 a0_1 a0_2 a0_3 a0_4 a0_5 a0_6 a0_7 _ _ l0_8 false _ ?side1 ?side2 A7.out).mono ?_); (case side1 => exact kC_ (Kd.C_below HR0_8.out HB.out)); (case side2 => exact HC0_8.out); rintro e w21 ⟨rfl, hb⟩; refine ⟨_, rfl, ?_⟩; replace HO131 := Aside0.mk (Kd.S_below (kS_ HO131.out) hb); replace BK128 := (bbA_ BK128 hb); replace HB := (bs_ HB hb); (try clear hb); (try clear hb2); (try clear hk); (try clear hi)))
   go_meet
   case rel => exact ⟨_, (true), (by first | rfl | (simp; done) | (simp [*]; done)), H', ⟨by first | omega | exact Nat.le_refl _⟩, ⟨by refine kS_ ?_; exact Kd.S_mono HO131.out (fun _ hk => hk.2)⟩, ⟨by refine kb_ ?_; exact BK128.out⟩, ⟨hbA_ HB.out⟩⟩
 case rest =>
  clear HC3; (try clear c1); (try clear p2); (try clear c5); (try clear c8); (try clear c10); (try clear c11); (try clear c11b0); (try clear Z12); (try clear Z14); (try clear Z15); (try clear Z17); (try clear Z18); (try clear Z20)
  obtain ⟨kq, x29_2, rfl, HA, HJ2, HO_6, BK128, HB⟩ := hcut
  cases kq with
  | zero => exact absurd HA.out (by simp [spec_PacketCut.j0])
  | succ kj2 =>
   have H := HA.out; clear HA
   simp only [spec_PacketCut.j0] at H
   by_cases c22 : x29_2 = true
   ·subst c22
    rw [if_pos rfl] at H
    simp only [Option.some.injEq, Prod.mk.injEq] at H
    obtain ⟨rfl, rfl⟩ := H
    go_wp2
    go_ret2
    exact ⟨_, by first | rfl | (simp [errW_none, errW_some] <;> rfl) | (simp [*, errW_none, errW_some] <;> rfl), by refine kS_ ?_; exact Kd.S_mono HO_6.out (fun _ hk => trivial), hbA_ HB.out⟩
   ·replace c22 := Bool.eq_false_iff.mpr c22
    subst c22
    rw [if_neg (show ¬ (false = true) by decide)] at H
    have H' := Aside0.mk H
    clear H
    go_wp2
    go_loopg [6, 7] kj2 (fun kq v6 v7 w' => ∃ (x6_2 : List (S24)) (x7_2 : Int), v7 = .int .i64 x7_2 ∧ Aside0 (spec_PacketCut.l0 kq a1 x6_2 x7_2 a0_0 a0_1 a0_2 a0_3 a0_4 a0_5 a0_6 a0_7 l0_8 = some (r1, r2)) ∧ Aside0 (kq ≤ kj2) ∧ Aside0 (Kd.S k24 24 w' w.heap.size (fun k_ => k_ ≠ gb128) v6 x6_2) ∧ Aside0 (w'.heap[gb128]? = some (.cells #[.int .i64 a0_0, .int .i64 a0_1, .int .i64 a0_2, .int .i64 a0_3, .int .i64 a0_4, .int .i64 a0_5, .bool a0_6, .bool a0_7, (.slice A0_8 l0_8.length c0_8)] 24 (0, 0))) ∧ Aside0 (Below w.heap.size w w'))
    case atStart => exact ⟨(y129), (0), (by first | rfl | (simp; done) | (simp [*]; done)), H', ⟨Nat.le_refl _⟩, ⟨by refine kS_ ?_; exact HO_6.out⟩, ⟨by refine kb_ ?_; exact BK128.out⟩, ⟨hbA_ HB.out⟩⟩
    case round =>
     clear H'; (try clear c1); (try clear c2); (try clear p2); (try clear c5); (try clear c8); (try clear c10); (try clear c11); (try clear c11b0); (try clear c22); (try clear Z12); (try clear Z14); (try clear Z15); (try clear Z17); (try clear Z18); (try clear Z20); (try clear p2)
     obtain ⟨x6_2, x7_2, rfl, HA, HK2, HO_6, BK128, HB⟩ := hrel
     cases gk with
     | zero => exact absurd HA.out (by simp [spec_PacketCut.l0])
     | succ k2 =>
      have H := HA.out; clear HA
      simp only [spec_PacketCut.l0] at H
      have HC23 := Aside0.mk H; clear H
      go_upto_region 5 with (fail)
      go_cut [39] (fun v39 wc => ∃ (kq : Nat) (x39_22 : Bool), v39 = .bool x39_22 ∧ Aside0 (spec_PacketCut.j2 kq a1 x6_2 x7_2 x39_22 a0_0 a0_1 a0_2 a0_3 a0_4 a0_5 a0_6 a0_7 l0_8 = some (r1, r2)) ∧ Aside0 (kq ≤ k2) ∧ Aside0 (Kd.S k24 24 wc w.heap.size (fun k_ => k_ ≠ gb128) u6 x6_2) ∧ Aside0 (wc.heap[gb128]? = some (.cells #[.int .i64 a0_0, .int .i64 a0_1, .int .i64 a0_2, .int .i64 a0_3, .int .i64 a0_4, .int .i64 a0_5, .bool a0_6, .bool a0_7, (.slice A0_8 l0_8.length c0_8)] 24 (0, 0))) ∧ Aside0 (Below w.heap.size w wc))
      case first =>
       have H := HC23.out; clear HC23
       by_cases c24 : x7_2 = 0
       ·rw [if_pos c24] at H
        have c24b0 : (x7_2 == 0) = true := beq_iff_eq.mpr c24
        have c24b1 : (x7_2 != 0) = false := bne_eq_false_iff_eq.mpr c24
        clear c24
        (first | rw [c24b0] | (simp only [i64_w, i32_w]; rw [c24b0]) | skip)
        have H' := Aside0.mk H
        clear H
        go_wp2
        go_meet
        case rel => exact ⟨_, (true), (by first | rfl | (simp; done) | (simp [*]; done)), H', ⟨by have := HJ2.out; have := HK2.out; first | omega | exact Nat.le_refl _⟩, ⟨by refine kS_ ?_; exact HO_6.out⟩, ⟨by refine kb_ ?_; exact BK128.out⟩, ⟨hbA_ HB.out⟩⟩
       ·rw [if_neg c24] at H
        have c24b0 : (x7_2 == 0) = false := beq_eq_false_iff_ne.mpr c24
        have c24b1 : (x7_2 != 0) = true := bne_iff_ne.mpr c24
        (first | rw [c24b0] | (simp only [i64_w, i32_w]; rw [c24b0]) | skip)
        have H' := Aside0.mk H
        clear H; have Z25 := zz9 BK128
        go_wp2
        go_meet
        case rel => exact ⟨_, (decide (x7_2 < (l0_8.length : Int))), (by first | rfl | (simp; done) | (simp [*]; done)), H', ⟨by have := HJ2.out; have := HK2.out; first | omega | exact Nat.le_refl _⟩, ⟨by refine kS_ ?_; exact HO_6.out⟩, ⟨by refine kb_ ?_; exact BK128.out⟩, ⟨hbA_ HB.out⟩⟩
      case rest =>
       clear HC23; (try clear c1); (try clear c2); (try clear p2); (try clear c5); (try clear c8); (try clear c10); (try clear c11); (try clear c11b0); (try clear c22); (try clear c24); (try clear c24b0); (try clear c24b1); (try clear Z12); (try clear Z14); (try clear Z15); (try clear Z17); (try clear Z18); (try clear Z20); (try clear Z25); (try clear p2)
       obtain ⟨kq, x39_22, rfl, HA, HJ22, HO_6, BK128, HB⟩ := hcut
       cases kq with
       | zero => exact absurd HA.out (by simp [spec_PacketCut.j2])
       | succ kj22 =>
        have H := HA.out; clear HA
        simp only [spec_PacketCut.j2] at H
        by_cases c26 : x39_22 = true
        ·subst c26
         rw [if_pos rfl] at H
         obtain ⟨ji27, hji27⟩ : ∃ j_ : Int, (mn (wrap64 (x7_2 + a1)) (l0_8.length : Int)) = j_ := ⟨_, rfl⟩
         (first | rw [hji27] at H | simp only [hji27] at H)
         have hji27_ : (if (l0_8.length : Int) < (wrap64 (x7_2 + a1)) then (l0_8.length : Int) else (wrap64 (x7_2 + a1))) = ji27 := hji27
         by_cases c28 : a0_6 = true
         ·subst c28
          rw [if_pos rfl] at H
          obtain ⟨y135, hy135⟩ : ∃ y_ : List Int, y_ = (([] : List Int)) := ⟨_, rfl⟩
          (first | replace H := sb_ hy135 H | rw [← hy135] at H)
          have Ny135 := Aside0.mk hy135; clear hy135
          by_cases c29 : 0 ≤ x7_2
          ·rw [if_pos c29] at H
           have c29b0 := eq_true c29
           have c29b1 : decide (0 ≤ x7_2) = true := decide_eq_true c29
           clear c29
           by_cases c30 : x7_2 ≤ (ji27)
           ·rw [if_pos c30] at H
            have c30b0 := eq_true c30
            have c30b1 : decide (x7_2 ≤ (ji27)) = true := decide_eq_true c30
            clear c30
            by_cases c31 : (ji27) ≤ (l0_8.length : Int)
            ·rw [if_pos c31] at H
             have c31b0 := eq_true c31
             have c31b1 : decide ((ji27) ≤ (l0_8.length : Int)) = true := decide_eq_true c31
             clear c31
             by_cases c32 : y135.length + ((l0_8.take ((ji27) : Int).toNat).drop (x7_2 : Int).toNat).length < 140737488355328
             ·rw [if_pos c32] at H
              have LMc32 := Aside0.mk c32; clear c32
              obtain ⟨y139, hy139⟩ : ∃ y_ : List Int, y_ = (y135 ++ ((l0_8.take ((ji27) : Int).toNat).drop (x7_2 : Int).toNat)) := ⟨_, rfl⟩
              (first | replace H := sb_ hy139 H | rw [← hy139] at H)
              have Ny139 := Aside0.mk hy139; clear hy139
              by_cases c33 : (wrap64 (a0_5 + x7_2)) > 255
              ·rw [if_pos c33] at H
               have c33b0 : decide (255 < (wrap64 (a0_5 + x7_2))) = true := decide_eq_true c33
               clear c33
               obtain ⟨y142, hy142⟩ : ∃ y_ : List (S24), y_ = (([] : List (S24))) := ⟨_, rfl⟩
               (first | replace H := sb_ hy142 H | rw [← hy142] at H)
               have Ny142 := Aside0.mk hy142; clear hy142
               simp only [Option.some.injEq, Prod.mk.injEq] at H
               obtain ⟨rfl, rfl⟩ := H
               have Z34 := zz9 BK128
               go_wp2_with (first | ((with_reducible refine gate_dst (N := 8) rfl ?_); (try (refine gate_guard (by rfl) ?_; dsimp only)); refine box_ (N := 8) (cs := #[.int .i64 0, .int .i64 0, .int .i64 0, .int .i64 0, .int .i64 0, .int .i64 0, .bool false, .bool false, .slice none 0 0]) (t := 24) (fun gb134 hg w35 hbox hb => ?_); replace HO_6 := Aside0.mk (Kd.S_below (Kd.S_elderB (kS_ HO_6.out) gb134 (Nat.le_of_eq hg.symm)) hb); have BK134 := Aside0.mk (hbox); have GW134 := ge_ hg HB; have GE134 := ge_ hg HB; replace HB := (bs_ HB hb); have NB128_134 := nl_ hg BK128; have NB134_128 := ng_ hg BK128; replace BK128 := (bbA_ BK128 hb); clear hb hbox hg; have hnb36 := NB134_128.out; have hnc36 := NB128_134.out; have Z37 := zz9 BK134; have Z38 := zz9 BK128) | ((with_reducible refine gate_dst (N := 66) rfl ?_); (try (refine gate_guard (by rfl) ?_; dsimp only)); refine Kd.R_lit (Kd.int .u8) _ 5 ?hg (N := 66) ?hd (xs := ([] : List Int)) (inner := []) (ok := fun _ => True) (okp := fun _ => True) ?hr ?hp (fun _ hk => hk) trivial (Below.refl _ _) (Nat.le_refl _) (by simp) ?_; (case hd => rfl); (case hg => rfl); (case hr => first | (go_simp; done) | (go_simp; rfl)); (case hp => exact (Reps.none _ _)); intro v136 w39 ho40 hb hg_ hnew_; clear hg_ hnew_; (first | rw [← Ny135.out] at ho40 | (simp only [Int.reduceToNat] at ho40; rw [← Ny135.out] at ho40)); replace HO_6 := Aside0.mk (Kd.S_elder' (by refine kS_ ?_; exact (nfS_ gb134 HO_6.out (fun _ hk => hk.2) (fun _ h_ => op1_ h_))) (Kd.R_base ho40) hb); have HO137 := Aside0.mk (Kd.R_lower ho40 (below_size (hbA_ HB.out))); replace BK128 := Aside0.mk (blk_below (g := gb128) (o := .cells #[.int .i64 a0_0, .int .i64 a0_1, .int .i64 a0_2, .int .i64 a0_3, .int .i64 a0_4, .int .i64 a0_5, .bool true, .bool a0_7, .slice A0_8 l0_8.length c0_8] 24 (0, 0)) (by exact kf_ BK128.out) hb); replace BK134 := Aside0.mk (blk_below (g := gb134) (o := .cells #[.int .i64 a0_0, .int .i64 a0_1, .int .i64 a0_2, .int .i64 a0_3, .int .i64 a0_4, .int .i64 (wrap64 (a0_5 + x7_2)), .bool true, .bool a0_7, .slice A0_8 l0_8.length c0_8] 24 (0, 0)) (by refine kb_ ?_; refine blk_put (cs := #[.int .i64 a0_0, .int .i64 a0_1, .int .i64 a0_2, .int .i64 a0_3, .int .i64 a0_4, .int .i64 (wrap64 (a0_5 + x7_2)), .bool true, .bool a0_7, .slice A0_8 l0_8.length c0_8]) ?_ 6 _ rfl; refine kb_ ?_; refine blk_put (cs := #[.int .i64 a0_0, .int .i64 a0_1, .int .i64 a0_2, .int .i64 a0_3, .int .i64 a0_4, .int .i64 a0_5, .bool true, .bool a0_7, .slice A0_8 l0_8.length c0_8]) ?_ 5 _ rfl; refine kb_ ?_; refine pz9 (cs := #[.int .i64 0, .int .i64 0, .int .i64 0, .int .i64 0, .int .i64 0, .int .i64 0, .bool false, .bool false, .slice none 0 0]) ?_; refine kb_ ?_; exact BK134.out) hb); replace HB := (bs_ HB hb); clear hb ho40; have Z41 := zz9 BK128; obtain ⟨i042, hi042, _, hsz42, _⟩ := info_parts info5; obtain ⟨A42, hcut42, hA42, hC42⟩ := print_mid_of (P := Try.prog) (Value.int .u8) 0 22 5 .i64 .i64 Try.underlying22 hi042 hsz42 A0_8 c0_8 l0_8 x7_2 (ji27) (of_decide_eq_true (by first | (with_reducible assumption) | assumption)) (by first | omega | exact of_decide_eq_true (by first | (with_reducible assumption) | assumption)) (of_decide_eq_true (by first | (with_reducible assumption) | assumption)) HC0_8.out; have HR138 := Aside0.mk (Kd.C_of_reads (h1 := fun _ => rfl) (hA42 _ (Kd.reads_of_C HR0_8.out))); have HC138 := Aside0.mk hC42; clear hA42 hC42 hi042 hsz42) | ((with_reducible refine gate_builtin (b := .append) (xs := #[.tmp 66, .tmp 71]) rfl ?_); (try (refine gate_guard (by rfl) ?_; dsimp only)); at_builtin; refine Kd.R_append_rows (Kd.int .u8) (w0 := w) w.heap.size rfl (.tmp 66) (.tmp 71) 22 5 (.int .u8 0) 1 rfl Try.underlying22 info5 rfl (by decide) (by omega) v136 y135 ((l0_8.take ((ji27) : Int).toNat).drop (x7_2 : Int).toNat) _ _ _ (fun _ => True) (fun _ => False) rfl rfl ?aO ?aR (fun _ _ h => h) (fun _ h => h.elim) ?aF ?aB ?aS ?aL ?_; (case aR => first | (refine len_ (show ((l0_8.take ((ji27) : Int).toNat).drop (x7_2 : Int).toNat).length = ((ji27).toNat - x7_2.toNat) from (by rw [List.length_drop, List.length_take]; have h_ : ((ji27) : Int) ≤ (l0_8.length : Int) := of_decide_eq_true (by first | (with_reducible assumption) | assumption); omega)) ?_; repeat (first | exact (Kd.C_below HR138.out HB.out) | (with_reducible refine Kd.C_alloc ?_ _) | (with_reducible refine Kd.C_drewN ?_ _) | (with_reducible refine Kd.C_drew ?_)); done) | (repeat (first | exact (Kd.C_below HR138.out HB.out) | (with_reducible refine Kd.C_alloc ?_ _) | (with_reducible refine Kd.C_drewN ?_ _) | (with_reducible refine Kd.C_drew ?_)))); (case aB => exact (hbA_ HB.out)); (case aF => exact (fun _ _ => trivial)); (case aO => exact (kR_ HO137.out)); (case aS => exact (below_size (hbA_ HB.out))); (case aL => have := LMc32.out; have hlx_ := (show ((l0_8.take ((ji27) : Int).toNat).drop (x7_2 : Int).toNat).length = ((ji27).toNat - x7_2.toNat) from (by rw [List.length_drop, List.length_take]; have h_ : ((ji27) : Int) ≤ (l0_8.length : Int) := of_decide_eq_true (by first | (with_reducible assumption) | assumption); omega)); omega); intro v140 w43 ho hb hg hat; rw [← Ny139.out] at ho; replace HO_6 := Aside0.mk (Kd.S_after (ok := (fun k_ => k_ ≠ gb128 ∧ k_ ≠ gb134)) (kS_ HO_6.out) hg hat); replace BK128 := (bgA_ BK128 hg (Kd.R_ne HO137.out BK128.out (by decide))); replace BK134 := (bgA_ BK134 hg (Kd.R_ne HO137.out BK134.out (by decide))); replace HB := Aside0.mk (hb); have HO141 := Aside0.mk (ho); clear HO137; clear ho hb hg hat; obtain ⟨Ao44, co44, eo44⟩ := Kd.R_slice HO141.out; subst eo44; have Z45 := zz9 BK134) | ((with_reducible refine gate_dst (N := 77) rfl ?_); (try (refine gate_guard (by rfl) ?_; dsimp only)); refine Kd.S_lit k24 _ 24 ?hg (N := 77) ?hd (xs := ([] : List (S24))) (inner := []) (ok := fun _ => True) (okp := fun _ => True) ?hr ?hp (fun _ hk => hk) trivial (Below.refl _ _) (Nat.le_refl _) (by simp) ?_; (case hd => rfl); (case hg => rfl); (case hr => first | (go_simp; done) | (go_simp; rfl)); (case hp => exact (Reps.none _ _)); intro v143 w46 ho47 hb hg_ hnew_; clear hg_ hnew_; (first | rw [← Ny142.out] at ho47 | (simp only [Int.reduceToNat] at ho47; rw [← Ny142.out] at ho47)); have HO144 := Aside0.mk (Kd.S_lower (Kd.S_newB (Kd.S_newB (Kd.S_new' (Kd.S_new' ho47 (Kd.S_lt (by refine kS_ ?_; exact (nfS_ gb134 HO_6.out (fun _ hk => hk.1.2) (fun _ h_ => op1_ h_))))) (Kd.R_lt (by refine kR_ ?_; exact (Kd.R_mono (Kd.R_f gb134 8 (.slice Ao44 y139.length co44) (Kd.R_types HO141.out BK134.out (by decide))) (fun _ h_ => op1_ h_))))) (g := gb128) (o := .cells #[.int .i64 a0_0, .int .i64 a0_1, .int .i64 a0_2, .int .i64 a0_3, .int .i64 a0_4, .int .i64 a0_5, .bool true, .bool a0_7, .slice A0_8 l0_8.length c0_8] 24 (0, 0)) (by exact kf_ BK128.out)) (g := gb134) (o := .cells #[.int .i64 a0_0, .int .i64 a0_1, .int .i64 a0_2, .int .i64 a0_3, .int .i64 a0_4, .int .i64 (wrap64 (a0_5 + x7_2)), .bool true, .bool a0_7, .slice Ao44 y139.length co44] 24 (0, 0)) (by refine kb_ ?_; refine blk_put (cs := #[.int .i64 a0_0, .int .i64 a0_1, .int .i64 a0_2, .int .i64 a0_3, .int .i64 a0_4, .int .i64 (wrap64 (a0_5 + x7_2)), .bool true, .bool a0_7, .slice A0_8 l0_8.length c0_8]) ?_ 8 _ rfl; refine kb_ ?_; exact BK134.out)) (below_size (hbA_ HB.out))); replace HO_6 := Aside0.mk (Kd.S_elder' (by refine kS_ ?_; exact (nfS_ gb134 HO_6.out (fun _ hk => hk.1.2) (fun _ h_ => op1_ h_))) (Kd.S_base ho47) hb); replace HO141 := Aside0.mk (Kd.R_below (by refine kR_ ?_; exact (Kd.R_mono (Kd.R_f gb134 8 (.slice Ao44 y139.length co44) (Kd.R_types HO141.out BK134.out (by decide))) (fun _ h_ => op1_ h_))) hb); replace BK128 := Aside0.mk (blk_below (g := gb128) (o := .cells #[.int .i64 a0_0, .int .i64 a0_1, .int .i64 a0_2, .int .i64 a0_3, .int .i64 a0_4, .int .i64 a0_5, .bool true, .bool a0_7, .slice A0_8 l0_8.length c0_8] 24 (0, 0)) (by exact kf_ BK128.out) hb); replace BK134 := Aside0.mk (blk_below (g := gb134) (o := .cells #[.int .i64 a0_0, .int .i64 a0_1, .int .i64 a0_2, .int .i64 a0_3, .int .i64 a0_4, .int .i64 (wrap64 (a0_5 + x7_2)), .bool true, .bool a0_7, .slice Ao44 y139.length co44] 24 (0, 0)) (by refine kb_ ?_; refine blk_put (cs := #[.int .i64 a0_0, .int .i64 a0_1, .int .i64 a0_2, .int .i64 a0_3, .int .i64 a0_4, .int .i64 (wrap64 (a0_5 + x7_2)), .bool true, .bool a0_7, .slice A0_8 l0_8.length c0_8]) ?_ 8 _ rfl; refine kb_ ?_; exact BK134.out) hb); replace HB := (bs_ HB hb); clear hb ho47))
               go_ret2
               exact ⟨_, by first | rfl | (simp [errW_none, errW_some] <;> rfl) | (simp only [← hji27]; first | rfl | (simp [errW_none, errW_some] <;> rfl)) | (simp [*, errW_none, errW_some] <;> rfl), by refine kS_ ?_; exact Kd.S_mono HO144.out (fun _ hk => trivial), hbA_ HB.out⟩
              ·rw [if_neg c33] at H
               have c33b0 : decide (255 < (wrap64 (a0_5 + x7_2))) = false := decide_eq_false c33
               clear c33
               by_cases c48 : x6_2.length < 1759218604441
               ·rw [if_pos c48] at H
                have LMc48 := Aside0.mk c48; clear c48
                obtain ⟨y145, hy145⟩ : ∃ y_ : List (S24), y_ = (x6_2 ++ [(⟨a0_0, a0_1, a0_2, a0_3, a0_4, wrap64 (a0_5 + x7_2), true, a0_7, y139⟩ : S24)]) := ⟨_, rfl⟩
                (first | replace H := sb_ hy145 H | rw [← hy145] at H)
                have Ny145 := Aside0.mk hy145; clear hy145
                have H' := Aside0.mk H
                clear H; have Z49 := zz9 BK128
                go_wp2_with (first | ((with_reducible refine gate_dst (N := 8) rfl ?_); (try (refine gate_guard (by rfl) ?_; dsimp only)); refine box_ (N := 8) (cs := #[.int .i64 0, .int .i64 0, .int .i64 0, .int .i64 0, .int .i64 0, .int .i64 0, .bool false, .bool false, .slice none 0 0]) (t := 24) (fun gb134 hg w50 hbox hb => ?_); replace HO_6 := Aside0.mk (Kd.S_below (Kd.S_elderB (kS_ HO_6.out) gb134 (Nat.le_of_eq hg.symm)) hb); have BK134 := Aside0.mk (hbox); have GW134 := ge_ hg HB; have GE134 := ge_ hg HB; replace HB := (bs_ HB hb); have NB128_134 := nl_ hg BK128; have NB134_128 := ng_ hg BK128; replace BK128 := (bbA_ BK128 hb); clear hb hbox hg; have hnb51 := NB134_128.out; have hnc51 := NB128_134.out; have Z52 := zz9 BK134; have Z53 := zz9 BK128) | ((with_reducible refine gate_dst (N := 66) rfl ?_); (try (refine gate_guard (by rfl) ?_; dsimp only)); refine Kd.R_lit (Kd.int .u8) _ 5 ?hg (N := 66) ?hd (xs := ([] : List Int)) (inner := []) (ok := fun _ => True) (okp := fun _ => True) ?hr ?hp (fun _ hk => hk) trivial (Below.refl _ _) (Nat.le_refl _) (by simp) ?_; (case hd => rfl); (case hg => rfl); (case hr => first | (go_simp; done) | (go_simp; rfl)); (case hp => exact (Reps.none _ _)); intro v136 w54 ho55 hb hg_ hnew_; clear hg_ hnew_; (first | rw [← Ny135.out] at ho55 | (simp only [Int.reduceToNat] at ho55; rw [← Ny135.out] at ho55)); replace HO_6 := Aside0.mk (Kd.S_elder' (by refine kS_ ?_; exact (nfS_ gb134 HO_6.out (fun _ hk => hk.2) (fun _ h_ => op1_ h_))) (Kd.R_base ho55) hb); have HO137 := Aside0.mk (Kd.R_lower ho55 (below_size (hbA_ HB.out))); replace BK128 := Aside0.mk (blk_below (g := gb128) (o := .cells #[.int .i64 a0_0, .int .i64 a0_1, .int .i64 a0_2, .int .i64 a0_3, .int .i64 a0_4, .int .i64 a0_5, .bool true, .bool a0_7, .slice A0_8 l0_8.length c0_8] 24 (0, 0)) (by exact kf_ BK128.out) hb); replace BK134 := Aside0.mk (blk_below (g := gb134) (o := .cells #[.int .i64 a0_0, .int .i64 a0_1, .int .i64 a0_2, .int .i64 a0_3, .int .i64 a0_4, .int .i64 (wrap64 (a0_5 + x7_2)), .bool true, .bool a0_7, .slice A0_8 l0_8.length c0_8] 24 (0, 0)) (by refine kb_ ?_; refine blk_put (cs := #[.int .i64 a0_0, .int .i64 a0_1, .int .i64 a0_2, .int .i64 a0_3, .int .i64 a0_4, .int .i64 (wrap64 (a0_5 + x7_2)), .bool true, .bool a0_7, .slice A0_8 l0_8.length c0_8]) ?_ 6 _ rfl; refine kb_ ?_; refine blk_put (cs := #[.int .i64 a0_0, .int .i64 a0_1, .int .i64 a0_2, .int .i64 a0_3, .int .i64 a0_4, .int .i64 a0_5, .bool true, .bool a0_7, .slice A0_8 l0_8.length c0_8]) ?_ 5 _ rfl; refine kb_ ?_; refine pz9 (cs := #[.int .i64 0, .int .i64 0, .int .i64 0, .int .i64 0, .int .i64 0, .int .i64 0, .bool false, .bool false, .slice none 0 0]) ?_; refine kb_ ?_; exact BK134.out) hb); replace HB := (bs_ HB hb); clear hb ho55; have Z56 := zz9 BK128; obtain ⟨i057, hi057, _, hsz57, _⟩ := info_parts info5; obtain ⟨A57, hcut57, hA57, hC57⟩ := print_mid_of (P := Try.prog) (Value.int .u8) 0 22 5 .i64 .i64 Try.underlying22 hi057 hsz57 A0_8 c0_8 l0_8 x7_2 (ji27) (of_decide_eq_true (by first | (with_reducible assumption) | assumption)) (by first | omega | exact of_decide_eq_true (by first | (with_reducible assumption) | assumption)) (of_decide_eq_true (by first | (with_reducible assumption) | assumption)) HC0_8.out; have HR138 := Aside0.mk (Kd.C_of_reads (h1 := fun _ => rfl) (hA57 _ (Kd.reads_of_C HR0_8.out))); have HC138 := Aside0.mk hC57; clear hA57 hC57 hi057 hsz57) | ((with_reducible refine gate_builtin (b := .append) (xs := #[.tmp 66, .tmp 71]) rfl ?_); (try (refine gate_guard (by rfl) ?_; dsimp only)); at_builtin; refine Kd.R_append_rows (Kd.int .u8) (w0 := w) w.heap.size rfl (.tmp 66) (.tmp 71) 22 5 (.int .u8 0) 1 rfl Try.underlying22 info5 rfl (by decide) (by omega) v136 y135 ((l0_8.take ((ji27) : Int).toNat).drop (x7_2 : Int).toNat) _ _ _ (fun _ => True) (fun _ => False) rfl rfl ?aO ?aR (fun _ _ h => h) (fun _ h => h.elim) ?aF ?aB ?aS ?aL ?_; (case aR => first | (refine len_ (show ((l0_8.take ((ji27) : Int).toNat).drop (x7_2 : Int).toNat).length = ((ji27).toNat - x7_2.toNat) from (by rw [List.length_drop, List.length_take]; have h_ : ((ji27) : Int) ≤ (l0_8.length : Int) := of_decide_eq_true (by first | (with_reducible assumption) | assumption); omega)) ?_; repeat (first | exact (Kd.C_below HR138.out HB.out) | (with_reducible refine Kd.C_alloc ?_ _) | (with_reducible refine Kd.C_drewN ?_ _) | (with_reducible refine Kd.C_drew ?_)); done) | (repeat (first | exact (Kd.C_below HR138.out HB.out) | (with_reducible refine Kd.C_alloc ?_ _) | (with_reducible refine Kd.C_drewN ?_ _) | (with_reducible refine Kd.C_drew ?_)))); (case aB => exact (hbA_ HB.out)); (case aF => exact (fun _ _ => trivial)); (case aO => exact (kR_ HO137.out)); (case aS => exact (below_size (hbA_ HB.out))); (case aL => have := LMc32.out; have hlx_ := (show ((l0_8.take ((ji27) : Int).toNat).drop (x7_2 : Int).toNat).length = ((ji27).toNat - x7_2.toNat) from (by rw [List.length_drop, List.length_take]; have h_ : ((ji27) : Int) ≤ (l0_8.length : Int) := of_decide_eq_true (by first | (with_reducible assumption) | assumption); omega)); omega); intro v140 w58 ho hb hg hat; rw [← Ny139.out] at ho; replace HO_6 := Aside0.mk (Kd.S_after (ok := (fun k_ => k_ ≠ gb128 ∧ k_ ≠ gb134)) (kS_ HO_6.out) hg hat); replace BK128 := (bgA_ BK128 hg (Kd.R_ne HO137.out BK128.out (by decide))); replace BK134 := (bgA_ BK134 hg (Kd.R_ne HO137.out BK134.out (by decide))); replace HB := Aside0.mk (hb); have HO141 := Aside0.mk (ho); clear HO137; clear ho hb hg hat; obtain ⟨Ao59, co59, eo59⟩ := Kd.R_slice HO141.out; subst eo59; have Z60 := zz9 BK134) | ((with_reducible refine gate_store (t := 22) (p := 73) rfl ?_); refine store_event (t := 22) (p := 73) (v := ?vo_w61) (w1 := (w58.setCell ⟨gb134, 8, none⟩ (.slice Ao59 y139.length co59))) ?hg ?ho ?hn ?hr ?_; (case ho => rfl); (case hg => rfl); (case hn => rfl); (case hr => first | (go_simp; done) | (go_simp; rfl)); intro w61 hw; have n0_ : Aside0 (Kd.S k24 24 w61 w.heap.size (fun k_ => some k_ ≠ (.slice Ao59 y139.length co59 : Value).ownBlock ∧ k_ ≠ gb128 ∧ k_ ≠ gb134) u6 x6_2) := ⟨(by rw [hw]; exact (by refine kS_ ?_; exact nfS_ gb134 HO_6.out (fun _ hk => hk.1.2) (fun _ hk => ⟨hk.1.2, ⟨hk.1.1.1, hk.1.1.2⟩⟩)))⟩; have n1_ : Aside0 (Kd.R (Kd.int .u8) 5 w61 w.heap.size (fun _ => True) (.slice Ao59 y139.length co59) y139) := ⟨(by rw [hw]; exact (by refine kR_ ?_; exact Kd.R_mono (Kd.R_f gb134 8 (.slice Ao59 y139.length co59) (Kd.R_types HO141.out BK134.out (by decide))) (fun _ hk => trivial)))⟩; have n2_ : Aside0 (w61.heap[gb128]? = some (.cells #[.int .i64 a0_0, .int .i64 a0_1, .int .i64 a0_2, .int .i64 a0_3, .int .i64 a0_4, .int .i64 a0_5, .bool true, .bool a0_7, .slice A0_8 l0_8.length c0_8] 24 (0, 0))) := ⟨(by rw [hw]; exact (by exact kf_ BK128.out))⟩; have n3_ : Aside0 (w61.heap[gb134]? = some (.cells #[.int .i64 a0_0, .int .i64 a0_1, .int .i64 a0_2, .int .i64 a0_3, .int .i64 a0_4, .int .i64 (wrap64 (a0_5 + x7_2)), .bool true, .bool a0_7, .slice Ao59 y139.length co59] 24 (0, 0))) := ⟨(by rw [hw]; exact (by refine kb_ ?_; refine blk_put (cs := #[.int .i64 a0_0, .int .i64 a0_1, .int .i64 a0_2, .int .i64 a0_3, .int .i64 a0_4, .int .i64 (wrap64 (a0_5 + x7_2)), .bool true, .bool a0_7, .slice A0_8 l0_8.length c0_8]) ?_ 8 _ rfl; refine kb_ ?_; exact BK134.out))⟩; have n4_ : Aside0 (Below w.heap.size w w61) := ⟨(by rw [hw]; exact (hbA_ HB.out))⟩; clear hw; clear HO_6; clear HO141; clear BK128; clear BK134; clear HB; have HO_6 := n0_; have HO141 := n1_; have BK128 := n2_; have BK134 := n3_; have HB := n4_; clear n0_ n1_ n2_ n3_ n4_; have Z62 := zz9 BK134) | ((with_reducible refine gate_builtin (b := .append) (xs := #[.tmp 78, .tmp 80]) rfl ?_); (try (refine gate_guard (by rfl) ?_; dsimp only)); at_builtin; refine Kd.S_append k24 (w0 := w) w.heap.size rfl (.tmp 78) (.tmp 80) 27 24 (.agg #[(.int .i64 0), (.int .i64 0), (.int .i64 0), (.int .i64 0), (.int .i64 0), (.int .i64 0), (.bool false), (.bool false), (.slice none 0 0)]) 80 rfl Try.underlying27 info24 rfl (by decide) (by omega) u6 x6_2 (⟨a0_0, a0_1, a0_2, a0_3, a0_4, wrap64 (a0_5 + x7_2), true, a0_7, y139⟩ : S24) [.int .i64 a0_0, .int .i64 a0_1, .int .i64 a0_2, .int .i64 a0_3, .int .i64 a0_4, .int .i64 (wrap64 (a0_5 + x7_2)), .bool true, .bool a0_7, .slice Ao59 y139.length co59] (fun k_ => k_ ≠ gb128 ∧ k_ ≠ gb134) (fun k_ => some k_ = (.slice Ao59 y139.length co59 : Value).ownBlock) rfl rfl ?aP (fun k_ hk_ => ((Kd.R_mono (ok' := fun k_ => ((fun k_ => k_ ≠ gb128 ∧ k_ ≠ gb134)) k_ ∧ some k_ ≠ (u6 : Value).ownBlock) (Kd.R_types (Kd.R_types (Kd.R_apart' (HO141.out) (Kd.S_typed HO_6.out) (by decide)) BK128.out (by decide)) BK134.out (by decide)) (fun k_ hk => ⟨⟨hk.1.2, hk.2⟩, hk.1.1.2⟩))).1 k_ hk_.symm) ?aF ?aO ?aB ?aS ?aL ?_; (case aP => exact k24_mkM _ _ _ (⟨a0_0, a0_1, a0_2, a0_3, a0_4, wrap64 (a0_5 + x7_2), true, a0_7, y139⟩ : S24) (Kd.R_mono (Kd.R_tight rfl (Kd.R_mono (ok' := fun k_ => ((fun k_ => k_ ≠ gb128 ∧ k_ ≠ gb134)) k_ ∧ some k_ ≠ (u6 : Value).ownBlock) (Kd.R_types (Kd.R_types (Kd.R_apart' (HO141.out) (Kd.S_typed HO_6.out) (by decide)) BK128.out (by decide)) BK134.out (by decide)) (fun k_ hk => ⟨⟨hk.1.2, hk.2⟩, hk.1.1.2⟩))) (fun _ h_ => h_))); (case aB => exact (hbA_ HB.out)); (case aF => exact (fun k_ hk => ⟨fb_ BK128 k_ hk, fb_ BK134 k_ hk⟩)); (case aO => exact (by refine kS_ ?_; exact Kd.S_mono HO_6.out (fun k_ hk => ⟨⟨hk.2.1, hk.2.2⟩, fun e_ => hk.1 e_⟩))); (case aS => exact (below_size (hbA_ HB.out))); (case aL => have := LMc48.out; omega); intro v146 w63 ho hb hg hat; rw [← Ny145.out] at ho; replace BK128 := (bgA_ BK128 hg (Kd.S_away HO_6.out (fun _ hk => hk.2.1))); replace BK134 := (bgA_ BK134 hg (Kd.S_away HO_6.out (fun _ hk => hk.2.2))); replace HB := Aside0.mk (hb); have HO147 := Aside0.mk (ho); clear HO_6 HO141; clear ho hb hg hat))
                go_roundg kj22
                case measure => have := HJ2.out; have := HK2.out; have := HJ22.out; omega
                case rel => exact ⟨(y145), (wrap64 (x7_2 + a1)), (by first | rfl | (simp; done) | (simp [*]; done)), H', ⟨by have := HJ2.out; have := HK2.out; have := HJ22.out; omega⟩, ⟨by refine kS_ ?_; exact Kd.S_mono HO147.out (fun _ hk => hk.1)⟩, ⟨by refine kb_ ?_; exact BK128.out⟩, ⟨hbA_ HB.out⟩⟩
               ·rw [if_neg c48] at H
                exact absurd H (by simp)
             ·rw [if_neg c32] at H
              exact absurd H (by simp)
            ·rw [if_neg c31] at H
             exact absurd H (by simp)
           ·rw [if_neg c30] at H
            exact absurd H (by simp)
          ·rw [if_neg c29] at H
           exact absurd H (by simp)
         ·replace c28 := Bool.eq_false_iff.mpr c28
          subst c28
          rw [if_neg (show ¬ (false = true) by decide)] at H
          obtain ⟨y148, hy148⟩ : ∃ y_ : List Int, y_ = (([] : List Int)) := ⟨_, rfl⟩
          (first | replace H := sb_ hy148 H | rw [← hy148] at H)
          have Ny148 := Aside0.mk hy148; clear hy148
          by_cases c64 : 0 ≤ x7_2
          ·rw [if_pos c64] at H
           have c64b0 := eq_true c64
           have c64b1 : decide (0 ≤ x7_2) = true := decide_eq_true c64
           clear c64
           by_cases c65 : x7_2 ≤ (ji27)
           ·rw [if_pos c65] at H
            have c65b0 := eq_true c65
            have c65b1 : decide (x7_2 ≤ (ji27)) = true := decide_eq_true c65
            clear c65
            by_cases c66 : (ji27) ≤ (l0_8.length : Int)
            ·rw [if_pos c66] at H
             have c66b0 := eq_true c66
             have c66b1 : decide ((ji27) ≤ (l0_8.length : Int)) = true := decide_eq_true c66
             clear c66
             by_cases c67 : y148.length + ((l0_8.take ((ji27) : Int).toNat).drop (x7_2 : Int).toNat).length < 140737488355328
             ·rw [if_pos c67] at H
              have LMc67 := Aside0.mk c67; clear c67
              obtain ⟨y152, hy152⟩ : ∃ y_ : List Int, y_ = (y148 ++ ((l0_8.take ((ji27) : Int).toNat).drop (x7_2 : Int).toNat)) := ⟨_, rfl⟩
              (first | replace H := sb_ hy152 H | rw [← hy152] at H)
              have Ny152 := Aside0.mk hy152; clear hy152
              by_cases c68 : (wrap64 (a0_5 + x7_2)) > 255
              ·rw [if_pos c68] at H
               have c68b0 : decide (255 < (wrap64 (a0_5 + x7_2))) = true := decide_eq_true c68
               clear c68
               obtain ⟨y155, hy155⟩ : ∃ y_ : List (S24), y_ = (([] : List (S24))) := ⟨_, rfl⟩
               (first | replace H := sb_ hy155 H | rw [← hy155] at H)
               have Ny155 := Aside0.mk hy155; clear hy155
               simp only [Option.some.injEq, Prod.mk.injEq] at H
               obtain ⟨rfl, rfl⟩ := H
               have Z69 := zz9 BK128
               go_wp2_with (first | ((with_reducible refine gate_dst (N := 8) rfl ?_); (try (refine gate_guard (by rfl) ?_; dsimp only)); refine box_ (N := 8) (cs := #[.int .i64 0, .int .i64 0, .int .i64 0, .int .i64 0, .int .i64 0, .int .i64 0, .bool false, .bool false, .slice none 0 0]) (t := 24) (fun gb134 hg w70 hbox hb => ?_); replace HO_6 := Aside0.mk (Kd.S_below (Kd.S_elderB (kS_ HO_6.out) gb134 (Nat.le_of_eq hg.symm)) hb); have BK134 := Aside0.mk (hbox); have GW134 := ge_ hg HB; have GE134 := ge_ hg HB; replace HB := (bs_ HB hb); have NB128_134 := nl_ hg BK128; have NB134_128 := ng_ hg BK128; replace BK128 := (bbA_ BK128 hb); clear hb hbox hg; have hnb71 := NB134_128.out; have hnc71 := NB128_134.out; have Z72 := zz9 BK134; have Z73 := zz9 BK128) | ((with_reducible refine gate_dst (N := 66) rfl ?_); (try (refine gate_guard (by rfl) ?_; dsimp only)); refine Kd.R_lit (Kd.int .u8) _ 5 ?hg (N := 66) ?hd (xs := ([] : List Int)) (inner := []) (ok := fun _ => True) (okp := fun _ => True) ?hr ?hp (fun _ hk => hk) trivial (Below.refl _ _) (Nat.le_refl _) (by simp) ?_; (case hd => rfl); (case hg => rfl); (case hr => first | (go_simp; done) | (go_simp; rfl)); (case hp => exact (Reps.none _ _)); intro v149 w74 ho75 hb hg_ hnew_; clear hg_ hnew_; (first | rw [← Ny148.out] at ho75 | (simp only [Int.reduceToNat] at ho75; rw [← Ny148.out] at ho75)); replace HO_6 := Aside0.mk (Kd.S_elder' (by refine kS_ ?_; exact (nfS_ gb134 HO_6.out (fun _ hk => hk.2) (fun _ h_ => op1_ h_))) (Kd.R_base ho75) hb); have HO150 := Aside0.mk (Kd.R_lower ho75 (below_size (hbA_ HB.out))); replace BK128 := Aside0.mk (blk_below (g := gb128) (o := .cells #[.int .i64 a0_0, .int .i64 a0_1, .int .i64 a0_2, .int .i64 a0_3, .int .i64 a0_4, .int .i64 a0_5, .bool false, .bool a0_7, .slice A0_8 l0_8.length c0_8] 24 (0, 0)) (by exact kf_ BK128.out) hb); replace BK134 := Aside0.mk (blk_below (g := gb134) (o := .cells #[.int .i64 a0_0, .int .i64 a0_1, .int .i64 a0_2, .int .i64 a0_3, .int .i64 a0_4, .int .i64 (wrap64 (a0_5 + x7_2)), .bool (decide ((ji27) < (l0_8.length : Int))), .bool a0_7, .slice A0_8 l0_8.length c0_8] 24 (0, 0)) (by refine kb_ ?_; refine blk_put (cs := #[.int .i64 a0_0, .int .i64 a0_1, .int .i64 a0_2, .int .i64 a0_3, .int .i64 a0_4, .int .i64 (wrap64 (a0_5 + x7_2)), .bool false, .bool a0_7, .slice A0_8 l0_8.length c0_8]) ?_ 6 _ rfl; refine kb_ ?_; refine blk_put (cs := #[.int .i64 a0_0, .int .i64 a0_1, .int .i64 a0_2, .int .i64 a0_3, .int .i64 a0_4, .int .i64 a0_5, .bool false, .bool a0_7, .slice A0_8 l0_8.length c0_8]) ?_ 5 _ rfl; refine kb_ ?_; refine pz9 (cs := #[.int .i64 0, .int .i64 0, .int .i64 0, .int .i64 0, .int .i64 0, .int .i64 0, .bool false, .bool false, .slice none 0 0]) ?_; refine kb_ ?_; exact BK134.out) hb); replace HB := (bs_ HB hb); clear hb ho75; have Z76 := zz9 BK128; obtain ⟨i077, hi077, _, hsz77, _⟩ := info_parts info5; obtain ⟨A77, hcut77, hA77, hC77⟩ := print_mid_of (P := Try.prog) (Value.int .u8) 0 22 5 .i64 .i64 Try.underlying22 hi077 hsz77 A0_8 c0_8 l0_8 x7_2 (ji27) (of_decide_eq_true (by first | (with_reducible assumption) | assumption)) (by first | omega | exact of_decide_eq_true (by first | (with_reducible assumption) | assumption)) (of_decide_eq_true (by first | (with_reducible assumption) | assumption)) HC0_8.out; have HR151 := Aside0.mk (Kd.C_of_reads (h1 := fun _ => rfl) (hA77 _ (Kd.reads_of_C HR0_8.out))); have HC151 := Aside0.mk hC77; clear hA77 hC77 hi077 hsz77) | ((with_reducible refine gate_builtin (b := .append) (xs := #[.tmp 66, .tmp 71]) rfl ?_); (try (refine gate_guard (by rfl) ?_; dsimp only)); at_builtin; refine Kd.R_append_rows (Kd.int .u8) (w0 := w) w.heap.size rfl (.tmp 66) (.tmp 71) 22 5 (.int .u8 0) 1 rfl Try.underlying22 info5 rfl (by decide) (by omega) v149 y148 ((l0_8.take ((ji27) : Int).toNat).drop (x7_2 : Int).toNat) _ _ _ (fun _ => True) (fun _ => False) rfl rfl ?aO ?aR (fun _ _ h => h) (fun _ h => h.elim) ?aF ?aB ?aS ?aL ?_; (case aR => first | (refine len_ (show ((l0_8.take ((ji27) : Int).toNat).drop (x7_2 : Int).toNat).length = ((ji27).toNat - x7_2.toNat) from (by rw [List.length_drop, List.length_take]; have h_ : ((ji27) : Int) ≤ (l0_8.length : Int) := of_decide_eq_true (by first | (with_reducible assumption) | assumption); omega)) ?_; repeat (first | exact (Kd.C_below HR151.out HB.out) | (with_reducible refine Kd.C_alloc ?_ _) | (with_reducible refine Kd.C_drewN ?_ _) | (with_reducible refine Kd.C_drew ?_)); done) | (repeat (first | exact (Kd.C_below HR151.out HB.out) | (with_reducible refine Kd.C_alloc ?_ _) | (with_reducible refine Kd.C_drewN ?_ _) | (with_reducible refine Kd.C_drew ?_)))); (case aB => exact (hbA_ HB.out)); (case aF => exact (fun _ _ => trivial)); (case aO => exact (kR_ HO150.out)); (case aS => exact (below_size (hbA_ HB.out))); (case aL => have := LMc67.out; have hlx_ := (show ((l0_8.take ((ji27) : Int).toNat).drop (x7_2 : Int).toNat).length = ((ji27).toNat - x7_2.toNat) from (by rw [List.length_drop, List.length_take]; have h_ : ((ji27) : Int) ≤ (l0_8.length : Int) := of_decide_eq_true (by first | (with_reducible assumption) | assumption); omega)); omega); intro v153 w78 ho hb hg hat; rw [← Ny152.out] at ho; replace HO_6 := Aside0.mk (Kd.S_after (ok := (fun k_ => k_ ≠ gb128 ∧ k_ ≠ gb134)) (kS_ HO_6.out) hg hat); replace BK128 := (bgA_ BK128 hg (Kd.R_ne HO150.out BK128.out (by decide))); replace BK134 := (bgA_ BK134 hg (Kd.R_ne HO150.out BK134.out (by decide))); replace HB := Aside0.mk (hb); have HO154 := Aside0.mk (ho); clear HO150; clear ho hb hg hat; obtain ⟨Ao79, co79, eo79⟩ := Kd.R_slice HO154.out; subst eo79; have Z80 := zz9 BK134) | ((with_reducible refine gate_dst (N := 77) rfl ?_); (try (refine gate_guard (by rfl) ?_; dsimp only)); refine Kd.S_lit k24 _ 24 ?hg (N := 77) ?hd (xs := ([] : List (S24))) (inner := []) (ok := fun _ => True) (okp := fun _ => True) ?hr ?hp (fun _ hk => hk) trivial (Below.refl _ _) (Nat.le_refl _) (by simp) ?_; (case hd => rfl); (case hg => rfl); (case hr => first | (go_simp; done) | (go_simp; rfl)); (case hp => exact (Reps.none _ _)); intro v156 w81 ho82 hb hg_ hnew_; clear hg_ hnew_; (first | rw [← Ny155.out] at ho82 | (simp only [Int.reduceToNat] at ho82; rw [← Ny155.out] at ho82)); have HO157 := Aside0.mk (Kd.S_lower (Kd.S_newB (Kd.S_newB (Kd.S_new' (Kd.S_new' ho82 (Kd.S_lt (by refine kS_ ?_; exact (nfS_ gb134 HO_6.out (fun _ hk => hk.1.2) (fun _ h_ => op1_ h_))))) (Kd.R_lt (by refine kR_ ?_; exact (Kd.R_mono (Kd.R_f gb134 8 (.slice Ao79 y152.length co79) (Kd.R_types HO154.out BK134.out (by decide))) (fun _ h_ => op1_ h_))))) (g := gb128) (o := .cells #[.int .i64 a0_0, .int .i64 a0_1, .int .i64 a0_2, .int .i64 a0_3, .int .i64 a0_4, .int .i64 a0_5, .bool false, .bool a0_7, .slice A0_8 l0_8.length c0_8] 24 (0, 0)) (by exact kf_ BK128.out)) (g := gb134) (o := .cells #[.int .i64 a0_0, .int .i64 a0_1, .int .i64 a0_2, .int .i64 a0_3, .int .i64 a0_4, .int .i64 (wrap64 (a0_5 + x7_2)), .bool (decide ((ji27) < (l0_8.length : Int))), .bool a0_7, .slice Ao79 y152.length co79] 24 (0, 0)) (by refine kb_ ?_; refine blk_put (cs := #[.int .i64 a0_0, .int .i64 a0_1, .int .i64 a0_2, .int .i64 a0_3, .int .i64 a0_4, .int .i64 (wrap64 (a0_5 + x7_2)), .bool (decide ((ji27) < (l0_8.length : Int))), .bool a0_7, .slice A0_8 l0_8.length c0_8]) ?_ 8 _ rfl; refine kb_ ?_; exact BK134.out)) (below_size (hbA_ HB.out))); replace HO_6 := Aside0.mk (Kd.S_elder' (by refine kS_ ?_; exact (nfS_ gb134 HO_6.out (fun _ hk => hk.1.2) (fun _ h_ => op1_ h_))) (Kd.S_base ho82) hb); replace HO154 := Aside0.mk (Kd.R_below (by refine kR_ ?_; exact (Kd.R_mono (Kd.R_f gb134 8 (.slice Ao79 y152.length co79) (Kd.R_types HO154.out BK134.out (by decide))) (fun _ h_ => op1_ h_))) hb); replace BK128 := Aside0.mk (blk_below (g := gb128) (o := .cells #[.int .i64 a0_0, .int .i64 a0_1, .int .i64 a0_2, .int .i64 a0_3, .int .i64 a0_4, .int .i64 a0_5, .bool false, .bool a0_7, .slice A0_8 l0_8.length c0_8] 24 (0, 0)) (by exact kf_ BK128.out) hb); replace BK134 := Aside0.mk (blk_below (g := gb134) (o := .cells #[.int .i64 a0_0, .int .i64 a0_1, .int .i64 a0_2, .int .i64 a0_3, .int .i64 a0_4, .int .i64 (wrap64 (a0_5 + x7_2)), .bool (decide ((ji27) < (l0_8.length : Int))), .bool a0_7, .slice Ao79 y152.length co79] 24 (0, 0)) (by refine kb_ ?_; refine blk_put (cs := #[.int .i64 a0_0, .int .i64 a0_1, .int .i64 a0_2, .int .i64 a0_3, .int .i64 a0_4, .int .i64 (wrap64 (a0_5 + x7_2)), .bool (decide ((ji27) < (l0_8.length : Int))), .bool a0_7, .slice A0_8 l0_8.length c0_8]) ?_ 8 _ rfl; refine kb_ ?_; exact BK134.out) hb); replace HB := (bs_ HB hb); clear hb ho82))
               go_ret2
               exact ⟨_, by first | rfl | (simp [errW_none, errW_some] <;> rfl) | (simp only [← hji27]; first | rfl | (simp [errW_none, errW_some] <;> rfl)) | (simp [*, errW_none, errW_some] <;> rfl), by refine kS_ ?_; exact Kd.S_mono HO157.out (fun _ hk => trivial), hbA_ HB.out⟩
              ·rw [if_neg c68] at H
               have c68b0 : decide (255 < (wrap64 (a0_5 + x7_2))) = false := decide_eq_false c68
               clear c68
               by_cases c83 : x6_2.length < 1759218604441
               ·rw [if_pos c83] at H
                have LMc83 := Aside0.mk c83; clear c83
                obtain ⟨y158, hy158⟩ : ∃ y_ : List (S24), y_ = (x6_2 ++ [(⟨a0_0, a0_1, a0_2, a0_3, a0_4, wrap64 (a0_5 + x7_2), decide ((ji27) < (l0_8.length : Int)), a0_7, y152⟩ : S24)]) := ⟨_, rfl⟩
                (first | replace H := sb_ hy158 H | rw [← hy158] at H)
                have Ny158 := Aside0.mk hy158; clear hy158
                have H' := Aside0.mk H
                clear H; have Z84 := zz9 BK128
                go_wp2_with (first | ((with_reducible refine gate_dst (N := 8) rfl ?_); (try (refine gate_guard (by rfl) ?_; dsimp only)); refine box_ (N := 8) (cs := #[.int .i64 0, .int .i64 0, .int .i64 0, .int .i64 0, .int .i64 0, .int .i64 0, .bool false, .bool false, .slice none 0 0]) (t := 24) (fun gb134 hg w85 hbox hb => ?_); replace HO_6 := Aside0.mk (Kd.S_below (Kd.S_elderB (kS_ HO_6.out) gb134 (Nat.le_of_eq hg.symm)) hb); have BK134 := Aside0.mk (hbox); have GW134 := ge_ hg HB; have GE134 := ge_ hg HB; replace HB := (bs_ HB hb); have NB128_134 := nl_ hg BK128; have NB134_128 := ng_ hg BK128; replace BK128 := (bbA_ BK128 hb); clear hb hbox hg; have hnb86 := NB134_128.out; have hnc86 := NB128_134.out; have Z87 := zz9 BK134; have Z88 := zz9 BK128) | ((with_reducible refine gate_dst (N := 66) rfl ?_); (try (refine gate_guard (by rfl) ?_; dsimp only)); refine Kd.R_lit (Kd.int .u8) _ 5 ?hg (N := 66) ?hd (xs := ([] : List Int)) (inner := []) (ok := fun _ => True) (okp := fun _ => True) ?hr ?hp (fun _ hk => hk) trivial (Below.refl _ _) (Nat.le_refl _) (by simp) ?_; (case hd => rfl); (case hg => rfl); (case hr => first | (go_simp; done) | (go_simp; rfl)); (case hp => exact (Reps.none _ _)); intro v149 w89 ho90 hb hg_ hnew_; clear hg_ hnew_; (first | rw [← Ny148.out] at ho90 | (simp only [Int.reduceToNat] at ho90; rw [← Ny148.out] at ho90)); replace HO_6 := Aside0.mk (Kd.S_elder' (by refine kS_ ?_; exact (nfS_ gb134 HO_6.out (fun _ hk => hk.2) (fun _ h_ => op1_ h_))) (Kd.R_base ho90) hb); have HO150 := Aside0.mk (Kd.R_lower ho90 (below_size (hbA_ HB.out))); replace BK128 := Aside0.mk (blk_below (g := gb128) (o := .cells #[.int .i64 a0_0, .int .i64 a0_1, .int .i64 a0_2, .int .i64 a0_3, .int .i64 a0_4, .int .i64 a0_5, .bool false, .bool a0_7, .slice A0_8 l0_8.length c0_8] 24 (0, 0)) (by exact kf_ BK128.out) hb); replace BK134 := Aside0.mk (blk_below (g := gb134) (o := .cells #[.int .i64 a0_0, .int .i64 a0_1, .int .i64 a0_2, .int .i64 a0_3, .int .i64 a0_4, .int .i64 (wrap64 (a0_5 + x7_2)), .bool (decide ((ji27) < (l0_8.length : Int))), .bool a0_7, .slice A0_8 l0_8.length c0_8] 24 (0, 0)) (by refine kb_ ?_; refine blk_put (cs := #[.int .i64 a0_0, .int .i64 a0_1, .int .i64 a0_2, .int .i64 a0_3, .int .i64 a0_4, .int .i64 (wrap64 (a0_5 + x7_2)), .bool false, .bool a0_7, .slice A0_8 l0_8.length c0_8]) ?_ 6 _ rfl; refine kb_ ?_; refine blk_put (cs := #[.int .i64 a0_0, .int .i64 a0_1, .int .i64 a0_2, .int .i64 a0_3, .int .i64 a0_4, .int .i64 a0_5, .bool false, .bool a0_7, .slice A0_8 l0_8.length c0_8]) ?_ 5 _ rfl; refine kb_ ?_; refine pz9 (cs := #[.int .i64 0, .int .i64 0, .int .i64 0, .int .i64 0, .int .i64 0, .int .i64 0, .bool false, .bool false, .slice none 0 0]) ?_; refine kb_ ?_; exact BK134.out) hb); replace HB := (bs_ HB hb); clear hb ho90; have Z91 := zz9 BK128; obtain ⟨i092, hi092, _, hsz92, _⟩ := info_parts info5; obtain ⟨A92, hcut92, hA92, hC92⟩ := print_mid_of (P := Try.prog) (Value.int .u8) 0 22 5 .i64 .i64 Try.underlying22 hi092 hsz92 A0_8 c0_8 l0_8 x7_2 (ji27) (of_decide_eq_true (by first | (with_reducible assumption) | assumption)) (by first | omega | exact of_decide_eq_true (by first | (with_reducible assumption) | assumption)) (of_decide_eq_true (by first | (with_reducible assumption) | assumption)) HC0_8.out; have HR151 := Aside0.mk (Kd.C_of_reads (h1 := fun _ => rfl) (hA92 _ (Kd.reads_of_C HR0_8.out))); have HC151 := Aside0.mk hC92; clear hA92 hC92 hi092 hsz92) | ((with_reducible refine gate_builtin (b := .append) (xs := #[.tmp 66, .tmp 71]) rfl ?_); (try (refine gate_guard (by rfl) ?_; dsimp only)); at_builtin; refine Kd.R_append_rows (Kd.int .u8) (w0 := w) w.heap.size rfl (.tmp 66) (.tmp 71) 22 5 (.int .u8 0) 1 rfl Try.underlying22 info5 rfl (by decide) (by omega) v149 y148 ((l0_8.take ((ji27) : Int).toNat).drop (x7_2 : Int).toNat) _ _ _ (fun _ => True) (fun _ => False) rfl rfl ?aO ?aR (fun _ _ h => h) (fun _ h => h.elim) ?aF ?aB ?aS ?aL ?_; (case aR => first | (refine len_ (show ((l0_8.take ((ji27) : Int).toNat).drop (x7_2 : Int).toNat).length = ((ji27).toNat - x7_2.toNat) from (by rw [List.length_drop, List.length_take]; have h_ : ((ji27) : Int) ≤ (l0_8.length : Int) := of_decide_eq_true (by first | (with_reducible assumption) | assumption); omega)) ?_; repeat (first | exact (Kd.C_below HR151.out HB.out) | (with_reducible refine Kd.C_alloc ?_ _) | (with_reducible refine Kd.C_drewN ?_ _) | (with_reducible refine Kd.C_drew ?_)); done) | (repeat (first | exact (Kd.C_below HR151.out HB.out) | (with_reducible refine Kd.C_alloc ?_ _) | (with_reducible refine Kd.C_drewN ?_ _) | (with_reducible refine Kd.C_drew ?_)))); (case aB => exact (hbA_ HB.out)); (case aF => exact (fun _ _ => trivial)); (case aO => exact (kR_ HO150.out)); (case aS => exact (below_size (hbA_ HB.out))); (case aL => have := LMc67.out; have hlx_ := (show ((l0_8.take ((ji27) : Int).toNat).drop (x7_2 : Int).toNat).length = ((ji27).toNat - x7_2.toNat) from (by rw [List.length_drop, List.length_take]; have h_ : ((ji27) : Int) ≤ (l0_8.length : Int) := of_decide_eq_true (by first | (with_reducible assumption) | assumption); omega)); omega); intro v153 w93 ho hb hg hat; rw [← Ny152.out] at ho; replace HO_6 := Aside0.mk (Kd.S_after (ok := (fun k_ => k_ ≠ gb128 ∧ k_ ≠ gb134)) (kS_ HO_6.out) hg hat); replace BK128 := (bgA_ BK128 hg (Kd.R_ne HO150.out BK128.out (by decide))); replace BK134 := (bgA_ BK134 hg (Kd.R_ne HO150.out BK134.out (by decide))); replace HB := Aside0.mk (hb); have HO154 := Aside0.mk (ho); clear HO150; clear ho hb hg hat; obtain ⟨Ao94, co94, eo94⟩ := Kd.R_slice HO154.out; subst eo94; have Z95 := zz9 BK134) | ((with_reducible refine gate_store (t := 22) (p := 73) rfl ?_); refine store_event (t := 22) (p := 73) (v := ?vo_w96) (w1 := (w93.setCell ⟨gb134, 8, none⟩ (.slice Ao94 y152.length co94))) ?hg ?ho ?hn ?hr ?_; (case ho => rfl); (case hg => rfl); (case hn => rfl); (case hr => first | (go_simp; done) | (go_simp; rfl)); intro w96 hw; have n0_ : Aside0 (Kd.S k24 24 w96 w.heap.size (fun k_ => some k_ ≠ (.slice Ao94 y152.length co94 : Value).ownBlock ∧ k_ ≠ gb128 ∧ k_ ≠ gb134) u6 x6_2) := ⟨(by rw [hw]; exact (by refine kS_ ?_; exact nfS_ gb134 HO_6.out (fun _ hk => hk.1.2) (fun _ hk => ⟨hk.1.2, ⟨hk.1.1.1, hk.1.1.2⟩⟩)))⟩; have n1_ : Aside0 (Kd.R (Kd.int .u8) 5 w96 w.heap.size (fun _ => True) (.slice Ao94 y152.length co94) y152) := ⟨(by rw [hw]; exact (by refine kR_ ?_; exact Kd.R_mono (Kd.R_f gb134 8 (.slice Ao94 y152.length co94) (Kd.R_types HO154.out BK134.out (by decide))) (fun _ hk => trivial)))⟩; have n2_ : Aside0 (w96.heap[gb128]? = some (.cells #[.int .i64 a0_0, .int .i64 a0_1, .int .i64 a0_2, .int .i64 a0_3, .int .i64 a0_4, .int .i64 a0_5, .bool false, .bool a0_7, .slice A0_8 l0_8.length c0_8] 24 (0, 0))) := ⟨(by rw [hw]; exact (by exact kf_ BK128.out))⟩; have n3_ : Aside0 (w96.heap[gb134]? = some (.cells #[.int .i64 a0_0, .int .i64 a0_1, .int .i64 a0_2, .int .i64 a0_3, .int .i64 a0_4, .int .i64 (wrap64 (a0_5 + x7_2)), .bool (decide ((ji27) < (l0_8.length : Int))), .bool a0_7, .slice Ao94 y152.length co94] 24 (0, 0))) := ⟨(by rw [hw]; exact (by refine kb_ ?_; refine blk_put (cs := #[.int .i64 a0_0, .int .i64 a0_1, .int .i64 a0_2, .int .i64 a0_3, .int .i64 a0_4, .int .i64 (wrap64 (a0_5 + x7_2)), .bool (decide ((ji27) < (l0_8.length : Int))), .bool a0_7, .slice A0_8 l0_8.length c0_8]) ?_ 8 _ rfl; refine kb_ ?_; exact BK134.out))⟩; have n4_ : Aside0 (Below w.heap.size w w96) := ⟨(by rw [hw]; exact (hbA_ HB.out))⟩; clear hw; clear HO_6; clear HO154; clear BK128; clear BK134; clear HB; have HO_6 := n0_; have HO154 := n1_; have BK128 := n2_; have BK134 := n3_; have HB := n4_; clear n0_ n1_ n2_ n3_ n4_; have Z97 := zz9 BK134) | ((with_reducible refine gate_builtin (b := .append) (xs := #[.tmp 78, .tmp 80]) rfl ?_); (try (refine gate_guard (by rfl) ?_; dsimp only)); at_builtin; refine Kd.S_append k24 (w0 := w) w.heap.size rfl (.tmp 78) (.tmp 80) 27 24 (.agg #[(.int .i64 0), (.int .i64 0), (.int .i64 0), (.int .i64 0), (.int .i64 0), (.int .i64 0), (.bool false), (.bool false), (.slice none 0 0)]) 80 rfl Try.underlying27 info24 rfl (by decide) (by omega) u6 x6_2 (⟨a0_0, a0_1, a0_2, a0_3, a0_4, wrap64 (a0_5 + x7_2), decide ((ji27) < (l0_8.length : Int)), a0_7, y152⟩ : S24) [.int .i64 a0_0, .int .i64 a0_1, .int .i64 a0_2, .int .i64 a0_3, .int .i64 a0_4, .int .i64 (wrap64 (a0_5 + x7_2)), .bool (decide ((ji27) < (l0_8.length : Int))), .bool a0_7, .slice Ao94 y152.length co94] (fun k_ => k_ ≠ gb128 ∧ k_ ≠ gb134) (fun k_ => some k_ = (.slice Ao94 y152.length co94 : Value).ownBlock) rfl rfl ?aP (fun k_ hk_ => ((Kd.R_mono (ok' := fun k_ => ((fun k_ => k_ ≠ gb128 ∧ k_ ≠ gb134)) k_ ∧ some k_ ≠ (u6 : Value).ownBlock) (Kd.R_types (Kd.R_types (Kd.R_apart' (HO154.out) (Kd.S_typed HO_6.out) (by decide)) BK128.out (by decide)) BK134.out (by decide)) (fun k_ hk => ⟨⟨hk.1.2, hk.2⟩, hk.1.1.2⟩))).1 k_ hk_.symm) ?aF ?aO ?aB ?aS ?aL ?_; (case aP => exact k24_mkM _ _ _ (⟨a0_0, a0_1, a0_2, a0_3, a0_4, wrap64 (a0_5 + x7_2), decide ((ji27) < (l0_8.length : Int)), a0_7, y152⟩ : S24) (Kd.R_mono (Kd.R_tight rfl (Kd.R_mono (ok' := fun k_ => ((fun k_ => k_ ≠ gb128 ∧ k_ ≠ gb134)) k_ ∧ some k_ ≠ (u6 : Value).ownBlock) (Kd.R_types (Kd.R_types (Kd.R_apart' (HO154.out) (Kd.S_typed HO_6.out) (by decide)) BK128.out (by decide)) BK134.out (by decide)) (fun k_ hk => ⟨⟨hk.1.2, hk.2⟩, hk.1.1.2⟩))) (fun _ h_ => h_))); (case aB => exact (hbA_ HB.out)); (case aF => exact (fun k_ hk => ⟨fb_ BK128 k_ hk, fb_ BK134 k_ hk⟩)); (case aO => exact (by refine kS_ ?_; exact Kd.S_mono HO_6.out (fun k_ hk => ⟨⟨hk.2.1, hk.2.2⟩, fun e_ => hk.1 e_⟩))); (case aS => exact (below_size (hbA_ HB.out))); (case aL => have := LMc83.out; omega); intro v159 w98 ho hb hg hat; rw [← Ny158.out] at ho; replace BK128 := (bgA_ BK128 hg (Kd.S_away HO_6.out (fun _ hk => hk.2.1))); replace BK134 := (bgA_ BK134 hg (Kd.S_away HO_6.out (fun _ hk => hk.2.2))); replace HB := Aside0.mk (hb); have HO160 := Aside0.mk (ho); clear HO_6 HO154; clear ho hb hg hat))
                go_roundg kj22
                case measure => have := HJ2.out; have := HK2.out; have := HJ22.out; omega
                case rel => exact ⟨(y158), (wrap64 (x7_2 + a1)), (by first | rfl | (simp; done) | (simp [*]; done)), H', ⟨by have := HJ2.out; have := HK2.out; have := HJ22.out; omega⟩, ⟨by refine kS_ ?_; exact Kd.S_mono HO160.out (fun _ hk => hk.1)⟩, ⟨by refine kb_ ?_; exact BK128.out⟩, ⟨hbA_ HB.out⟩⟩
               ·rw [if_neg c83] at H
                exact absurd H (by simp)
             ·rw [if_neg c67] at H
              exact absurd H (by simp)
            ·rw [if_neg c66] at H
             exact absurd H (by simp)
           ·rw [if_neg c65] at H
            exact absurd H (by simp)
          ·rw [if_neg c64] at H
           exact absurd H (by simp)
        ·replace c26 := Bool.eq_false_iff.mpr c26
         subst c26
         rw [if_neg (show ¬ (false = true) by decide)] at H
         simp only [Option.some.injEq, Prod.mk.injEq] at H
         obtain ⟨rfl, rfl⟩ := H
         go_wp2
         go_ret2
         exact ⟨_, by first | rfl | (simp [errW_none, errW_some] <;> rfl) | (simp [*, errW_none, errW_some] <;> rfl), by refine kS_ ?_; exact Kd.S_mono HO_6.out (fun _ hk => trivial), hbA_ HB.out⟩
def laws_szByteS.f (l0 : List Int) (a1 : Int) : Option (Int) := if (wrap64 (a1 - (l0.length : Int))) < 0 then (some (-1)) else (some (wrap64 (a1 - (l0.length : Int))))
set_option maxHeartbeats 8000000 in
set_option maxRecDepth 100000 in
theorem laws_szByteS.calls (A0 : Option Addr) (c0 : Nat) (l0 : List Int) (a1 : Int) (r : Int) (w : World) (hr0 : Kd.C (Kd.int .u8) w A0 l0.length l0) (hc0 : l0.length ≤ c0) (h : laws_szByteS.f l0 a1 = some r) :
  Calls Try.prog 63 #[.slice A0 l0.length c0, .int .i64 a1] w fun e w' => e = .returned (.int .i64 r) ∧ Drawn0 w w' := by
 have HR0 := Aside0.mk hr0; have HC0 := Aside0.mk hc0; clear hr0 hc0
 have H : (if (wrap64 (a1 - (l0.length : Int))) < 0 then (some (-1)) else (some (wrap64 (a1 - (l0.length : Int))))) = some r := h
 clear h
 by_cases c3 : (wrap64 (a1 - (l0.length : Int))) < 0
 ·rw [if_pos c3] at H
  have c3b0 : decide ((wrap64 (a1 - (l0.length : Int))) < 0) = true := decide_eq_true c3
  clear c3
  obtain rfl := Option.some.inj H
  go_enter Try.func63, Try.ntmps63
  go_wp2
  go_ret
  exact ⟨by first | rfl | (simp; done) | (simp [*]; done), by repeat (first | exact Drawn0.refl _ | apply Drawn0.step)⟩
 ·rw [if_neg c3] at H
  have c3b0 : decide ((wrap64 (a1 - (l0.length : Int))) < 0) = false := decide_eq_false c3
  clear c3
  obtain rfl := Option.some.inj H
  go_enter Try.func63, Try.ntmps63
  go_wp2
  go_ret
  exact ⟨by first | rfl | (simp; done) | (simp [*]; done), by repeat (first | exact Drawn0.refl _ | apply Drawn0.step)⟩
def laws_szPacket.f (a0_0 : Int) (a0_1 : Int) (a0_2 : Int) (a0_3 : Int) (a0_4 : Int) (a0_5 : Int) (a0_6 : Bool) (a0_7 : Bool) (l0_8 : List Int) (a1 : Int) : Option (Int) := (laws_szByteS.f l0_8 a1).bind fun t162 => (if t162 < 0 then (some (-1)) else (some t162))
set_option maxHeartbeats 8000000 in
set_option maxRecDepth 100000 in
theorem laws_szPacket.calls (a0_0 : Int) (a0_1 : Int) (a0_2 : Int) (a0_3 : Int) (a0_4 : Int) (a0_5 : Int) (a0_6 : Bool) (a0_7 : Bool) (A0_8 : Option Addr) (c0_8 : Nat) (l0_8 : List Int) (a1 : Int) (r : Int) (w : World) (hr0_8 : Kd.C (Kd.int .u8) w A0_8 l0_8.length l0_8) (hc0_8 : l0_8.length ≤ c0_8) (h : laws_szPacket.f a0_0 a0_1 a0_2 a0_3 a0_4 a0_5 a0_6 a0_7 l0_8 a1 = some r) :
  Calls Try.prog 16 #[.agg #[.int .i64 a0_0, .int .i64 a0_1, .int .i64 a0_2, .int .i64 a0_3, .int .i64 a0_4, .int .i64 a0_5, .bool a0_6, .bool a0_7, .slice A0_8 l0_8.length c0_8], .int .i64 a1] w fun e w' => e = .returned (.int .i64 r) ∧ Below w.heap.size w w' := by
 have hu35 := Try.underlying35; have HR0_8 := Aside0.mk hr0_8; have HC0_8 := Aside0.mk hc0_8; clear hr0_8 hc0_8
 have HB := Aside0.mk (Below.refl w.heap.size w)
 have H : ((laws_szByteS.f l0_8 a1).bind fun t162 => (if t162 < 0 then (some (-1)) else (some t162))) = some r := h
 clear h
 replace H := Option.bind_eq_some_iff.mp H
 obtain ⟨t162, A30, H⟩ := H
 (try dsimp only at H)
 have A3 := Aside0.mk A30; clear A30
 by_cases c4 : t162 < 0
 ·rw [if_pos c4] at H
  have c4b0 : decide (t162 < 0) = true := decide_eq_true c4
  clear c4
  obtain rfl := Option.some.inj H
  go_enter Try.func16, Try.ntmps16
  go_wp2_with (first | ((with_reducible refine gate_dst (N := 2) rfl ?_); refine box_ (N := 2) (cs := #[.int .i64 a0_0, .int .i64 a0_1, .int .i64 a0_2, .int .i64 a0_3, .int .i64 a0_4, .int .i64 a0_5, .bool a0_6, .bool a0_7, .slice A0_8 l0_8.length c0_8]) (t := 35) (fun gb161 hg w5 hbox hb => ?_); have BK161 := Aside0.mk (hbox); have GW161 := ge_ hg HB; have GE161 := ge_ hg HB; replace HB := (bs_ HB hb); clear hb hbox hg; have Z6 := zz9 BK161) | ((with_reducible refine gate_callee (f := 63) rfl ?_); refine goesL_ (some 8) rfl rfl Try.func63 (by kernel_rfl) rfl #[.slice A0_8 l0_8.length c0_8, .int .i64 a1] rfl ar_ ?_; (with_reducible refine (laws_szByteS.calls _ _ l0_8 a1 t162 _ ?side1 ?side2 A3.out).mono ?_); (case side1 => exact kC_ (Kd.C_below HR0_8.out HB.out)); (case side2 => exact HC0_8.out); rintro e w' ⟨rfl, ⟨nd, rfl⟩⟩; refine ⟨_, rfl, ?_⟩))
  go_ret
  exact ⟨by first | rfl | (simp [errW_none, errW_some] <;> rfl) | (simp [*, errW_none, errW_some] <;> rfl), hbA_ HB.out⟩
 ·rw [if_neg c4] at H
  have c4b0 : decide (t162 < 0) = false := decide_eq_false c4
  clear c4
  obtain rfl := Option.some.inj H
  go_enter Try.func16, Try.ntmps16
  go_wp2_with (first | ((with_reducible refine gate_dst (N := 2) rfl ?_); refine box_ (N := 2) (cs := #[.int .i64 a0_0, .int .i64 a0_1, .int .i64 a0_2, .int .i64 a0_3, .int .i64 a0_4, .int .i64 a0_5, .bool a0_6, .bool a0_7, .slice A0_8 l0_8.length c0_8]) (t := 35) (fun gb161 hg w7 hbox hb => ?_); have BK161 := Aside0.mk (hbox); have GW161 := ge_ hg HB; have GE161 := ge_ hg HB; replace HB := (bs_ HB hb); clear hb hbox hg; have Z8 := zz9 BK161) | ((with_reducible refine gate_callee (f := 63) rfl ?_); refine goesL_ (some 8) rfl rfl Try.func63 (by kernel_rfl) rfl #[.slice A0_8 l0_8.length c0_8, .int .i64 a1] rfl ar_ ?_; (with_reducible refine (laws_szByteS.calls _ _ l0_8 a1 t162 _ ?side1 ?side2 A3.out).mono ?_); (case side1 => exact kC_ (Kd.C_below HR0_8.out HB.out)); (case side2 => exact HC0_8.out); rintro e w' ⟨rfl, ⟨nd, rfl⟩⟩; refine ⟨_, rfl, ?_⟩))
  go_ret
  exact ⟨by first | rfl | (simp [errW_none, errW_some] <;> rfl) | (simp [*, errW_none, errW_some] <;> rfl), hbA_ HB.out⟩
def laws_toByteS.l0 : Nat → List Int → List Int → Int → Option (List Int)
 | 0, _, _, _ => none
 | k + 1, x0, x3, x4 => if x4 < (x0.length : Int) then (if 0 ≤ x4 then (if x4 < (x3.length : Int) then (laws_toByteS.l0 k x0 (x3.set (x4 : Int).toNat (rd x0 x4)) (wrap64 (x4 + 1))) else (none)) else (none)) else (some x3)
def laws_toByteS.f (k : Nat) (l0 : List Int) : Option (List Int) := if 0 ≤ (l0.length : Int) then (if ((l0.length : Int) : Int).toNat ≤ 281474976710656 then (laws_toByteS.l0 k l0 (List.replicate ((l0.length : Int) : Int).toNat 0) 0) else (none)) else (none)
theorem laws_toByteS.mono_l : ∀ k, (∀ y0 y1 y2, LeO (laws_toByteS.l0 k y0 y1 y2) (laws_toByteS.l0 (k + 1) y0 y1 y2))
 | 0 => fun _ _ _ r h => by simp [laws_toByteS.l0] at h
 | k + 1 => by
  have ih0 := laws_toByteS.mono_l k
  ·intro y0 y1 y2
   unfold laws_toByteS.l0
   repeat' first | (with_reducible first | apply ih0 | exact LeO.refl _ | exact LeO.none _ | refine LeO.ite ?_ ?_ | refine LeO.bind ?_ fun _ => ?_) | apply ih0 | exact LeO.none _ | refine LeO.ite ?_ ?_ | refine LeO.bind ?_ fun _ => ?_
theorem laws_toByteS.mono : ∀ a0 k, LeO (laws_toByteS.f k a0) (laws_toByteS.f (k + 1) a0) := by
 intro a0 k
 have ih0 := laws_toByteS.mono_l k
 unfold laws_toByteS.f
 repeat' first | (with_reducible first | apply ih0 | exact LeO.refl _ | exact LeO.none _ | refine LeO.ite ?_ ?_ | refine LeO.bind ?_ fun _ => ?_) | apply ih0 | exact LeO.none _ | refine LeO.ite ?_ ?_ | refine LeO.bind ?_ fun _ => ?_
set_option maxHeartbeats 8000000 in
set_option maxRecDepth 100000 in
theorem laws_toByteS.calls (k : Nat) (A0 : Option Addr) (c0 : Nat) (l0 : List Int) (r : List Int) (w : World) (hr0 : Kd.C (Kd.int .u8) w A0 l0.length l0) (hc0 : l0.length ≤ c0) (h : laws_toByteS.f k l0 = some r) :
  Calls Try.prog 26 #[.slice A0 l0.length c0] w fun e w' => ∃ v0_ : Value, e = .returned (v0_) ∧ Kd.R (Kd.int .u8) 5 w' w.heap.size (fun _ => True) v0_ r ∧ Below w.heap.size w w' := by
 have HR0 := Aside0.mk hr0; have HC0 := Aside0.mk hc0; clear hr0 hc0
 have HB := Aside0.mk (Below.refl w.heap.size w)
 have H : (if 0 ≤ (l0.length : Int) then (if ((l0.length : Int) : Int).toNat ≤ 281474976710656 then (laws_toByteS.l0 k l0 (List.replicate ((l0.length : Int) : Int).toNat 0) 0) else (none)) else (none)) = some r := h
 clear h
 by_cases c2 : 0 ≤ (l0.length : Int)
 ·rw [if_pos c2] at H
  have c2b0 := eq_true c2
  have c2b1 : decide (0 ≤ (l0.length : Int)) = true := decide_eq_true c2
  clear c2
  by_cases c3 : ((l0.length : Int) : Int).toNat ≤ 281474976710656
  ·rw [if_pos c3] at H
   have c3b0 := eq_true c3
   have c3b1 : decide (((l0.length : Int) : Int).toNat ≤ 281474976710656) = true := decide_eq_true c3
   clear c3
   obtain ⟨y163, hy163⟩ : ∃ y_ : List Int, y_ = (List.replicate ((l0.length : Int) : Int).toNat 0) := ⟨_, rfl⟩
   (first | replace H := sb_ hy163 H | rw [← hy163] at H)
   have Ny163 := Aside0.mk hy163; clear hy163
   have H' := Aside0.mk H
   clear H
   go_enter Try.func26, Try.ntmps26
   go_wp2_with (first | ((with_reducible refine gate_dst (N := 7) rfl ?_); refine Kd.R_make (Kd.int .u8) _ 5 rfl (N := 7) rfl 22 _ _ rfl (l0.length : Int) rfl rfl Try.underlying22 (.int .u8 0) 1 info5 rfl (by decide) (by omega) 0 (ok := fun _ => True) (okp := fun _ => True) rfl (fun _ hk => hk) trivial (of_decide_eq_true (by first | (with_reducible assumption) | assumption)) (Nat.le_trans (Nat.mul_le_mul_right _ (of_decide_eq_true (by first | (with_reducible assumption) | assumption) : (l0.length : Int).toNat ≤ 281474976710656)) (by omega)) (Below.refl _ _) (Nat.le_refl _) ?_; intro v164 w4 ho5 hb hg_ hnew_; clear hg_ hnew_; (first | rw [← Ny163.out] at ho5 | (simp only [Int.reduceToNat] at ho5; rw [← Ny163.out] at ho5)); have HO165 := Aside0.mk (Kd.R_lower ho5 (below_size (hbA_ HB.out))); replace HB := (bs_ HB hb); clear hb ho5))
   go_loopg [4] k (fun kq v4 w' => ∃ (x3_1 : List Int) (x4_1 : Int), v4 = .int .i64 x4_1 ∧ Aside0 (laws_toByteS.l0 kq l0 x3_1 x4_1 = some r) ∧ Aside0 (kq ≤ k) ∧ Aside0 (Kd.R (Kd.int .u8) 5 w' w.heap.size (fun _ => True) v164 x3_1) ∧ Aside0 (Below w.heap.size w w'))
   case atStart => exact ⟨(y163), (0), (by first | rfl | (simp; done) | (simp [*]; done)), H', ⟨Nat.le_refl _⟩, ⟨kR_ HO165.out⟩, ⟨hbA_ HB.out⟩⟩
   case round =>
    clear H'; (try clear c2); (try clear c2b0); (try clear c2b1); (try clear p2); (try clear c3); (try clear c3b0); (try clear c3b1)
    obtain ⟨x3_1, x4_1, rfl, HA, HK1, HO_3, HB⟩ := hrel
    cases gk with
    | zero => exact absurd HA.out (by simp [laws_toByteS.l0])
    | succ k1 =>
     have H := HA.out; clear HA
     simp only [laws_toByteS.l0] at H
     by_cases c6 : x4_1 < (l0.length : Int)
     ·rw [if_pos c6] at H
      have c6b0 : decide (x4_1 < (l0.length : Int)) = true := decide_eq_true c6
      clear c6
      by_cases c7 : 0 ≤ x4_1
      ·rw [if_pos c7] at H
       have c7b0 : decide (0 ≤ x4_1) = true := decide_eq_true c7
       clear c7
       by_cases c8 : x4_1 < (x3_1.length : Int)
       ·rw [if_pos c8] at H
        have c8b0 : decide (x4_1 < (x3_1.length : Int)) = true := decide_eq_true c8
        clear c8
        obtain ⟨y167, hy167⟩ : ∃ y_ : List Int, y_ = (x3_1.set (x4_1 : Int).toNat (rd l0 x4_1)) := ⟨_, rfl⟩
        (first | replace H := sb_ hy167 H | rw [← hy167] at H)
        have Ny167 := Aside0.mk hy167; clear hy167
        have H' := Aside0.mk H
        clear H
        have p166 : 0 ≤ (x4_1 : Int) := of_decide_eq_true (by first | (with_reducible assumption) | assumption)
        have q166 : x4_1 < (l0.length : Int) := of_decide_eq_true (by first | (with_reducible assumption) | assumption)
        obtain ⟨ad166, e166, hx166_0⟩ := Kd.at_int HR0.out x4_1 p166 q166
        cases e166
        replace hx166_0 := cc_ HB hx166_0
        replace p166 := eq_true p166
        replace q166 := eq_true q166
        have p9 : 0 ≤ (x4_1 : Int) := of_decide_eq_true (by first | (with_reducible assumption) | assumption)
        have q9 : (x4_1 : Int) < ((x3_1.length : Int) : Int) := of_decide_eq_true (by first | (with_reducible assumption) | assumption)
        obtain ⟨go9, co9, eo9, gb9, gl9, cl9, HG9⟩ := Kd.R_form HO_3.out (by omega)
        (first | cases eo9 | (injection eo9 with ea_ en_ ec_; (first | subst ea_ | (injection ea_ with ea_; subst ea_)); subst ec_; clear en_))
        have GB9 := Aside0.mk gb9; have GG9 := Aside0.mk HG9; clear gb9 gl9 HG9
        obtain ⟨hx9_0, hf9_0⟩ := Kd.R_celln 0 HO_3.out (x4_1 : Int) p9 q9
        replace p9 := eq_true p9
        replace q9 := eq_true q9
        have HP10 := Kd.R_putg HO_3.out (x4_1 : Int) (rd l0 x4_1)
        go_wp2_with (first | ((with_reducible refine gate_store (t := 5) (p := 20) rfl ?_); refine store_event (t := 5) (p := 20) (v := ?vo_w11) (w1 := (wr.setCell ⟨go9, (x4_1 : Int).toNat, none⟩ (.int .u8 (rd l0 x4_1)))) ?hg ?ho ?hn ?hr ?_; (case ho => rfl); (case hg => rfl); (case hn => rfl); (case hr => first | (go_simp; done) | (go_simp; rfl)); intro w11 hw; have hg : wr.grownBy w11 (some go9) := (by rw [hw]; exact HP10.2); have hp_ : Kd.R (Kd.int .u8) 5 w11 w.heap.size (fun _ => True) (.slice (some ⟨go9, 0, none⟩) x3_1.length co9) y167 := (by rw [hw, Ny167.out]; exact HP10.1); clear HP10; replace HO_3 := Aside0.mk (hp_); replace HB := Aside0.mk ((by rw [hw]; exact below_set (HB.out) GB9.out : Below w.heap.size w w11)); clear hg hw hp_))
        go_roundg k1
        case measure => have := HK1.out; omega
        case rel => exact ⟨(y167), (wrap64 (x4_1 + 1)), (by first | rfl | (simp; done) | (simp [*]; done)), H', ⟨by have := HK1.out; omega⟩, ⟨kR_ HO_3.out⟩, ⟨hbA_ HB.out⟩⟩
       ·rw [if_neg c8] at H
        exact absurd H (by simp)
      ·rw [if_neg c7] at H
       exact absurd H (by simp)
     ·rw [if_neg c6] at H
      have c6b0 : decide (x4_1 < (l0.length : Int)) = false := decide_eq_false c6
      clear c6
      obtain rfl := Option.some.inj H
      go_wp2
      go_ret
      exact ⟨_, by first | rfl | (simp [errW_none, errW_some] <;> rfl) | (simp [*, errW_none, errW_some] <;> rfl), kR_ HO_3.out, hbA_ HB.out⟩
  ·rw [if_neg c3] at H
   exact absurd H (by simp)
 ·rw [if_neg c2] at H
  exact absurd H (by simp)
def laws_toPacket.f (k : Nat) (a0_0 : Int) (a0_1 : Int) (a0_2 : Int) (a0_3 : Int) (a0_4 : Int) (a0_5 : Int) (a0_6 : Bool) (a0_7 : Bool) (l0_8 : List Int) : Option (Int × Int × Int × Int × Int × Int × Bool × Bool × List Int) := (laws_toByteS.f k l0_8).bind fun t171 => (some (a0_0, a0_1, a0_2, a0_3, a0_4, a0_5, a0_6, a0_7, t171))
theorem laws_toPacket.mono : ∀ a0 a1 a2 a3 a4 a5 a6 a7 a8 k, LeO (laws_toPacket.f k a0 a1 a2 a3 a4 a5 a6 a7 a8) (laws_toPacket.f (k + 1) a0 a1 a2 a3 a4 a5 a6 a7 a8) := by
 intro a0 a1 a2 a3 a4 a5 a6 a7 a8 k
 unfold laws_toPacket.f
 repeat' first | (with_reducible first | apply laws_toByteS.mono | exact LeO.refl _ | exact LeO.none _ | refine LeO.ite ?_ ?_ | refine LeO.bind ?_ fun _ => ?_) | apply laws_toByteS.mono | exact LeO.none _ | refine LeO.ite ?_ ?_ | refine LeO.bind ?_ fun _ => ?_
set_option maxHeartbeats 8000000 in
set_option maxRecDepth 100000 in
theorem laws_toPacket.calls (k : Nat) (a0_0 : Int) (a0_1 : Int) (a0_2 : Int) (a0_3 : Int) (a0_4 : Int) (a0_5 : Int) (a0_6 : Bool) (a0_7 : Bool) (A0_8 : Option Addr) (c0_8 : Nat) (l0_8 : List Int) (r1 : Int) (r2 : Int) (r3 : Int) (r4 : Int) (r5 : Int) (r6 : Int) (r7 : Bool) (r8 : Bool) (r9 : List Int) (w : World) (hr0_8 : Kd.C (Kd.int .u8) w A0_8 l0_8.length l0_8) (hc0_8 : l0_8.length ≤ c0_8) (h : laws_toPacket.f k a0_0 a0_1 a0_2 a0_3 a0_4 a0_5 a0_6 a0_7 l0_8 = some (r1, r2, r3, r4, r5, r6, r7, r8, r9)) :
  Calls Try.prog 17 #[.agg #[.int .i64 a0_0, .int .i64 a0_1, .int .i64 a0_2, .int .i64 a0_3, .int .i64 a0_4, .int .i64 a0_5, .bool a0_6, .bool a0_7, .slice A0_8 l0_8.length c0_8]] w fun e w' => ∃ v8_ : Value, e = .returned (.agg #[.int .i64 r1, .int .i64 r2, .int .i64 r3, .int .i64 r4, .int .i64 r5, .int .i64 r6, .bool r7, .bool r8, v8_]) ∧ Kd.R (Kd.int .u8) 5 w' w.heap.size (fun _ => True) v8_ r9 ∧ Below w.heap.size w w' := by
 have hu35 := Try.underlying35; have hu24 := Try.underlying24; have HR0_8 := Aside0.mk hr0_8; have HC0_8 := Aside0.mk hc0_8; clear hr0_8 hc0_8
 have HB := Aside0.mk (Below.refl w.heap.size w)
 have H : ((laws_toByteS.f k l0_8).bind fun t171 => (some (a0_0, a0_1, a0_2, a0_3, a0_4, a0_5, a0_6, a0_7, t171))) = some (r1, r2, r3, r4, r5, r6, r7, r8, r9) := h
 clear h
 replace H := Option.bind_eq_some_iff.mp H
 obtain ⟨t171, A20, H⟩ := H
 (try dsimp only at H)
 have A2 := Aside0.mk A20; clear A20
 simp only [Option.some.injEq, Prod.mk.injEq] at H
 obtain ⟨rfl, rfl, rfl, rfl, rfl, rfl, rfl, rfl, rfl⟩ := H
 go_enter Try.func17, Try.ntmps17
 go_wp2_with (first | ((with_reducible refine gate_dst (N := 1) rfl ?_); refine box_ (N := 1) (cs := #[.int .i64 a0_0, .int .i64 a0_1, .int .i64 a0_2, .int .i64 a0_3, .int .i64 a0_4, .int .i64 a0_5, .bool a0_6, .bool a0_7, .slice A0_8 l0_8.length c0_8]) (t := 35) (fun gb168 hg w3 hbox hb => ?_); have BK168 := Aside0.mk (hbox); have GW168 := ge_ hg HB; have GE168 := ge_ hg HB; replace HB := (bs_ HB hb); clear hb hbox hg) | ((with_reducible refine gate_dst (N := 2) rfl ?_); refine box_ (N := 2) (cs := #[.int .i64 0, .int .i64 0, .int .i64 0, .int .i64 0, .int .i64 0, .int .i64 0, .bool false, .bool false, .slice none 0 0]) (t := 24) (fun gb169 hg w4 hbox hb => ?_); have BK169 := Aside0.mk (hbox); have GW169 := ge_ hg HB; have GE169 := ge_ hg HB; replace HB := (bs_ HB hb); have NB168_169 := nl_ hg BK168; have NB169_168 := ng_ hg BK168; replace BK168 := (bbA_ BK168 hb); clear hb hbox hg) | ((with_reducible refine gate_dst (N := 3) rfl ?_); refine box_ (N := 3) (cs := #[.int .i64 0, .int .i64 0, .int .i64 0, .int .i64 0, .int .i64 0, .int .i64 0, .bool false, .bool false, .slice none 0 0]) (t := 24) (fun gb170 hg w5 hbox hb => ?_); have BK170 := Aside0.mk (hbox); have GW170 := ge_ hg HB; have GE170 := ge_ hg HB; replace HB := (bs_ HB hb); have NB168_170 := nl_ hg BK168; have NB170_168 := ng_ hg BK168; replace BK168 := (bbA_ BK168 hb); have NB169_170 := nl_ hg BK169; have NB170_169 := ng_ hg BK169; replace BK169 := (bbA_ BK169 hb); clear hb hbox hg; have hnb6 := NB168_169.out; have hnc6 := NB169_168.out; have hnb7 := NB168_170.out; have hnc7 := NB170_168.out; have Z8 := zz9 BK168; have hnb9 := NB170_169.out; have hnc9 := NB169_170.out; have Z10 := zz9 BK170) | ((with_reducible refine gate_callee (f := 26) rfl ?_); refine goesL_ (some 30) rfl rfl Try.func26 (by kernel_rfl) rfl #[.slice A0_8 l0_8.length c0_8] rfl ar_ ?_; (with_reducible refine (laws_toByteS.calls k _ _ l0_8 t171 _ ?side1 ?side2 A2.out).mono ?_); (case side1 => exact Kd.C_below HR0_8.out (hbA_ HB.out)); (case side2 => exact HC0_8.out); rintro e w11 ⟨v172, rfl, ho0, hb⟩; refine ⟨_, rfl, ?_⟩; have HO173 := Aside0.mk (Kd.R_lower ho0 (below_size (hbA_ HB.out))); replace BK168 := Aside0.mk (blk_below (g := gb168) (o := .cells #[.int .i64 a0_0, .int .i64 a0_1, .int .i64 a0_2, .int .i64 a0_3, .int .i64 a0_4, .int .i64 a0_5, .bool a0_6, .bool a0_7, .slice A0_8 l0_8.length c0_8] 35 (0, 0)) (by exact kf_ BK168.out) hb); replace BK169 := Aside0.mk (blk_below (g := gb169) (o := .cells #[.int .i64 0, .int .i64 0, .int .i64 0, .int .i64 0, .int .i64 0, .int .i64 0, .bool false, .bool false, .slice none 0 0] 24 (0, 0)) (by exact kf_ BK169.out) hb); replace BK170 := Aside0.mk (blk_below (g := gb170) (o := .cells #[.int .i64 a0_0, .int .i64 a0_1, .int .i64 a0_2, .int .i64 a0_3, .int .i64 a0_4, .int .i64 a0_5, .bool a0_6, .bool a0_7, .slice none 0 0] 24 (0, 0)) (by refine kb_ ?_; refine blk_put (cs := #[.int .i64 a0_0, .int .i64 a0_1, .int .i64 a0_2, .int .i64 a0_3, .int .i64 a0_4, .int .i64 a0_5, .bool a0_6, .bool false, .slice none 0 0]) ?_ 7 _ rfl; refine kb_ ?_; refine blk_put (cs := #[.int .i64 a0_0, .int .i64 a0_1, .int .i64 a0_2, .int .i64 a0_3, .int .i64 a0_4, .int .i64 a0_5, .bool false, .bool false, .slice none 0 0]) ?_ 6 _ rfl; refine kb_ ?_; refine blk_put (cs := #[.int .i64 a0_0, .int .i64 a0_1, .int .i64 a0_2, .int .i64 a0_3, .int .i64 a0_4, .int .i64 0, .bool false, .bool false, .slice none 0 0]) ?_ 5 _ rfl; refine kb_ ?_; refine blk_put (cs := #[.int .i64 a0_0, .int .i64 a0_1, .int .i64 a0_2, .int .i64 a0_3, .int .i64 0, .int .i64 0, .bool false, .bool false, .slice none 0 0]) ?_ 4 _ rfl; refine kb_ ?_; refine blk_put (cs := #[.int .i64 a0_0, .int .i64 a0_1, .int .i64 a0_2, .int .i64 0, .int .i64 0, .int .i64 0, .bool false, .bool false, .slice none 0 0]) ?_ 3 _ rfl; refine kb_ ?_; refine blk_put (cs := #[.int .i64 a0_0, .int .i64 a0_1, .int .i64 0, .int .i64 0, .int .i64 0, .int .i64 0, .bool false, .bool false, .slice none 0 0]) ?_ 2 _ rfl; refine kb_ ?_; refine blk_put (cs := #[.int .i64 a0_0, .int .i64 0, .int .i64 0, .int .i64 0, .int .i64 0, .int .i64 0, .bool false, .bool false, .slice none 0 0]) ?_ 1 _ rfl; refine kb_ ?_; refine blk_put (cs := #[.int .i64 0, .int .i64 0, .int .i64 0, .int .i64 0, .int .i64 0, .int .i64 0, .bool false, .bool false, .slice none 0 0]) ?_ 0 _ rfl; refine kb_ ?_; exact BK170.out) hb); replace HB := (bs_ HB hb); (try clear hb); (try clear hb2); (try clear hk); (try clear hi); (try clear ho0); obtain ⟨Ao12, co12, eo12⟩ := Kd.R_slice HO173.out; subst eo12; have Z13 := zz9 BK170; have Z14 := zz9 BK169))
 refine bodyPost_ret (results_cell_row rfl _ _ gb169 24 #[.int .i64 a0_0, .int .i64 a0_1, .int .i64 a0_2, .int .i64 a0_3, .int .i64 a0_4, .int .i64 a0_5, .bool a0_6, .bool a0_7, .slice Ao12 t171.length co12] (0, 0) _ rfl (by refine kb_ ?_; refine pz9 (cs := #[.int .i64 0, .int .i64 0, .int .i64 0, .int .i64 0, .int .i64 0, .int .i64 0, .bool false, .bool false, .slice none 0 0]) ?_; exact kf_ BK169.out) Try.underlying24 rfl (by kernel_rfl)) rfl ?_
 exact ⟨_, by first | rfl | (simp [errW_none, errW_some] <;> rfl) | (simp [*, errW_none, errW_some] <;> rfl), by refine kR_ ?_; exact rfm_ ((Kd.R_far (p := ⟨gb170, 8, none⟩) (Kd.R_types (Kd.R_types HO173.out BK170.out (by decide)) BK169.out (by decide)) (fun _ hk => hk.1.2) (.slice Ao12 t171.length co12))) (fun _ hk => trivial), hbA_ HB.out⟩
def laws_eqByteS.l0 : Nat → List Int → List Int → Int → Option (Bool)
 | 0, _, _, _ => none
 | k + 1, x0, x1, x5 => if x5 < (x0.length : Int) then (if 0 ≤ x5 then (if x5 < (x1.length : Int) then (if (rd x0 x5) = (rd x1 x5) then (laws_eqByteS.l0 k x0 x1 (wrap64 (x5 + 1))) else (some false)) else (none)) else (none)) else (some true)
def laws_eqByteS.f (k : Nat) (l0 : List Int) (l1 : List Int) : Option (Bool) := if (l0.length : Int) = (l1.length : Int) then (laws_eqByteS.l0 k l0 l1 0) else (some false)
theorem laws_eqByteS.mono_l : ∀ k, (∀ y0 y1 y2, LeO (laws_eqByteS.l0 k y0 y1 y2) (laws_eqByteS.l0 (k + 1) y0 y1 y2))
 | 0 => fun _ _ _ r h => by simp [laws_eqByteS.l0] at h
 | k + 1 => by
  have ih0 := laws_eqByteS.mono_l k
  ·intro y0 y1 y2
   unfold laws_eqByteS.l0
   repeat' first | (with_reducible first | apply ih0 | exact LeO.refl _ | exact LeO.none _ | refine LeO.ite ?_ ?_ | refine LeO.bind ?_ fun _ => ?_) | apply ih0 | exact LeO.none _ | refine LeO.ite ?_ ?_ | refine LeO.bind ?_ fun _ => ?_
theorem laws_eqByteS.mono : ∀ a0 a1 k, LeO (laws_eqByteS.f k a0 a1) (laws_eqByteS.f (k + 1) a0 a1) := by
 intro a0 a1 k
 have ih0 := laws_eqByteS.mono_l k
 unfold laws_eqByteS.f
 repeat' first | (with_reducible first | apply ih0 | exact LeO.refl _ | exact LeO.none _ | refine LeO.ite ?_ ?_ | refine LeO.bind ?_ fun _ => ?_) | apply ih0 | exact LeO.none _ | refine LeO.ite ?_ ?_ | refine LeO.bind ?_ fun _ => ?_
set_option maxHeartbeats 8000000 in
set_option maxRecDepth 100000 in
theorem laws_eqByteS.calls (k : Nat) (A0 : Option Addr) (c0 : Nat) (l0 : List Int) (A1 : Option Addr) (c1 : Nat) (l1 : List Int) (r : Bool) (w : World) (hr0 : Kd.C (Kd.int .u8) w A0 l0.length l0) (hc0 : l0.length ≤ c0) (hr1 : Kd.C (Kd.int .u8) w A1 l1.length l1) (hc1 : l1.length ≤ c1) (h : laws_eqByteS.f k l0 l1 = some r) :
  Calls Try.prog 29 #[.slice A0 l0.length c0, .slice A1 l1.length c1] w fun e w' => e = .returned (.bool r) ∧ Drawn0 w w' := by
 have HR0 := Aside0.mk hr0; have HC0 := Aside0.mk hc0; clear hr0 hc0; have HR1 := Aside0.mk hr1; have HC1 := Aside0.mk hc1; clear hr1 hc1
 have H : (if (l0.length : Int) = (l1.length : Int) then (laws_eqByteS.l0 k l0 l1 0) else (some false)) = some r := h
 clear h
 by_cases c3 : (l0.length : Int) = (l1.length : Int)
 ·rw [if_pos c3] at H
  have c3b0 : ((l0.length : Int) == (l1.length : Int)) = true := beq_iff_eq.mpr c3
  have c3b1 : ((l0.length : Int) != (l1.length : Int)) = false := bne_eq_false_iff_eq.mpr c3
  have c3b2 : (l0.length == l1.length) = true := by first | simpa using c3 | (simp at c3 ⊢; omega)
  clear c3
  have H' := Aside0.mk H
  clear H
  go_enter Try.func29, Try.ntmps29
  go_wp2
  repeat (go_quiet (fail); try go_wp2)
  go_loopg [5] k (fun kq v5 w' => ∃ (x5_1 : Int), v5 = .int .i64 x5_1 ∧ Aside0 (laws_eqByteS.l0 kq l0 l1 x5_1 = some r) ∧ Aside0 (kq ≤ k) ∧ Drawn0 w w')
  case atStart => exact ⟨(0), (by first | rfl | (simp; done) | (simp [*]; done)), H', ⟨Nat.le_refl _⟩, by repeat (first | exact Drawn0.refl _ | apply Drawn0.step)⟩
  case round =>
   clear H'; (try clear c1); (try clear c2); (try clear p2); (try clear c3); (try clear c3b0); (try clear c3b1); (try clear c3b2)
   obtain ⟨x5_1, rfl, HA, HK1, ⟨m1, rfl⟩⟩ := hrel
   cases gk with
   | zero => exact absurd HA.out (by simp [laws_eqByteS.l0])
   | succ k1 =>
    have H := HA.out; clear HA
    simp only [laws_eqByteS.l0] at H
    by_cases c4 : x5_1 < (l0.length : Int)
    ·rw [if_pos c4] at H
     have c4b0 : decide (x5_1 < (l0.length : Int)) = true := decide_eq_true c4
     clear c4
     by_cases c5 : 0 ≤ x5_1
     ·rw [if_pos c5] at H
      have c5b0 : decide (0 ≤ x5_1) = true := decide_eq_true c5
      clear c5
      by_cases c6 : x5_1 < (l1.length : Int)
      ·rw [if_pos c6] at H
       have c6b0 : decide (x5_1 < (l1.length : Int)) = true := decide_eq_true c6
       clear c6
       by_cases c7 : (rd l0 x5_1) = (rd l1 x5_1)
       ·rw [if_pos c7] at H
        have c7b0 : ((rd l0 x5_1) == (rd l1 x5_1)) = true := beq_iff_eq.mpr c7
        have c7b1 : ((rd l0 x5_1) != (rd l1 x5_1)) = false := bne_eq_false_iff_eq.mpr c7
        clear c7
        have H' := Aside0.mk H
        clear H
        have p174 : 0 ≤ (x5_1 : Int) := of_decide_eq_true (by first | (with_reducible assumption) | assumption)
        have q174 : x5_1 < (l0.length : Int) := of_decide_eq_true (by first | (with_reducible assumption) | assumption)
        obtain ⟨ad174, e174, hx174_0⟩ := Kd.at_int HR0.out x5_1 p174 q174
        cases e174
        replace p174 := eq_true p174
        replace q174 := eq_true q174
        have p175 : 0 ≤ (x5_1 : Int) := of_decide_eq_true (by first | (with_reducible assumption) | assumption)
        have q175 : x5_1 < (l1.length : Int) := of_decide_eq_true (by first | (with_reducible assumption) | assumption)
        obtain ⟨ad175, e175, hx175_0⟩ := Kd.at_int HR1.out x5_1 p175 q175
        cases e175
        replace p175 := eq_true p175
        replace q175 := eq_true q175
        go_wp2
        repeat (go_quiet (fail); try go_wp2)
        go_roundg k1
        case measure => have := HK1.out; omega
        case rel => exact ⟨(wrap64 (x5_1 + 1)), (by first | rfl | (simp; done) | (simp [*]; done)), H', ⟨by have := HK1.out; omega⟩, by repeat (first | exact Drawn0.refl _ | apply Drawn0.step)⟩
       ·rw [if_neg c7] at H
        have c7b0 : ((rd l0 x5_1) == (rd l1 x5_1)) = false := beq_eq_false_iff_ne.mpr c7
        have c7b1 : ((rd l0 x5_1) != (rd l1 x5_1)) = true := bne_iff_ne.mpr c7
        obtain rfl := Option.some.inj H
        have p174 : 0 ≤ (x5_1 : Int) := of_decide_eq_true (by first | (with_reducible assumption) | assumption)
        have q174 : x5_1 < (l0.length : Int) := of_decide_eq_true (by first | (with_reducible assumption) | assumption)
        obtain ⟨ad174, e174, hx174_0⟩ := Kd.at_int HR0.out x5_1 p174 q174
        cases e174
        replace p174 := eq_true p174
        replace q174 := eq_true q174
        have p175 : 0 ≤ (x5_1 : Int) := of_decide_eq_true (by first | (with_reducible assumption) | assumption)
        have q175 : x5_1 < (l1.length : Int) := of_decide_eq_true (by first | (with_reducible assumption) | assumption)
        obtain ⟨ad175, e175, hx175_0⟩ := Kd.at_int HR1.out x5_1 p175 q175
        cases e175
        replace p175 := eq_true p175
        replace q175 := eq_true q175
        go_wp2
        repeat (go_quiet (fail); try go_wp2)
        go_ret
        exact ⟨by first | rfl | (simp; done) | (simp [*]; done), by repeat (first | exact Drawn0.refl _ | apply Drawn0.step)⟩
      ·rw [if_neg c6] at H
       exact absurd H (by simp)
     ·rw [if_neg c5] at H
      exact absurd H (by simp)
    ·rw [if_neg c4] at H
     have c4b0 : decide (x5_1 < (l0.length : Int)) = false := decide_eq_false c4
     clear c4
     obtain rfl := Option.some.inj H
     go_wp2
     repeat (go_quiet (fail); try go_wp2)
     go_ret
     exact ⟨by first | rfl | (simp; done) | (simp [*]; done), by repeat (first | exact Drawn0.refl _ | apply Drawn0.step)⟩
 ·rw [if_neg c3] at H
  have c3b0 : ((l0.length : Int) == (l1.length : Int)) = false := beq_eq_false_iff_ne.mpr c3
  have c3b1 : ((l0.length : Int) != (l1.length : Int)) = true := bne_iff_ne.mpr c3
  have c3b2 : (l0.length == l1.length) = false := by first | simpa using c3 | (simp at c3 ⊢; omega)
  obtain rfl := Option.some.inj H
  go_enter Try.func29, Try.ntmps29
  go_wp2
  repeat (go_quiet (fail); try go_wp2)
  go_ret
  exact ⟨by first | rfl | (simp; done) | (simp [*]; done), by repeat (first | exact Drawn0.refl _ | apply Drawn0.step)⟩
end Go.Proofs.Ytbhofhdmbbipgaa.PFnExactPacketCut
