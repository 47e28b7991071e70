/- Printed by wip/xp/xprint.sh out of the translation, for this claim: what each function answers, as a plain function, and that the machine does just that. No condition. -/
import Derived.Test.YtbhofhdmbbipgaaPFnPacketCutx0
import Derived.Test.YtbhofhdmbbipgaaPFnPacketCutx3
namespace Go.Proofs.Ytbhofhdmbbipgaa.PFnPacketCut
open Go.RowKit Go.Proofs.YtbhofhdmbbipgaaW.PrintWords Go.Proofs.YtbhofhdmbbipgaaW.PrintLast Go.Proofs.YtbhofhdmbbipgaaW.PrintMore
attribute [local go_sem] max2_int min2_int max_two min_two max_three min_three max_four min_four   -- for this text's walks alone
set_option linter.unusedVariables false
set_option linter.unusedSimpArgs false
def spec_PacketOk.j0 : Nat → Bool → Int → Int → Int → Int → Int → Int → Bool → Bool → List Int → Option (Bool)
 | 0, _, _, _, _, _, _, _, _, _, _ => none
 | k + 1, x36, x235000, x235001, x235002, x235003, x235004, x235005, x235006, x235007, x235008 => if x36 = true then (some false) else (if (x235008.length : Int) ≤ 48 then (if x235006 = true then (if (x235008.length : Int) > 0 then (if x235007 = true then (if x235005 = 0 then (some (!x235006)) else (some false)) else (some true)) else (some false)) else (if x235007 = true then (if x235005 = 0 then (some (!x235006)) else (some false)) else (some true))) else (some false))
def spec_PacketOk.f (k : Nat) (a0_0 : Int) (a0_1 : Int) (a0_2 : Int) (a0_3 : Int) (a0_4 : Int) (a0_5 : Int) (a0_6 : Bool) (a0_7 : Bool) (l0_8 : List Int) : Option (Bool) := (spec_l1In.f a0_0 0 65535).bind fun t235 => (if t235 = true then ((spec_l1In.f a0_1 0 65535).bind fun t236 => (if t236 = true then ((spec_l1In.f a0_2 0 255).bind fun t237 => (if t237 = true then ((spec_l1In.f a0_3 0 255).bind fun t238 => (if t238 = true then ((spec_l1In.f a0_4 0 255).bind fun t239 => (if t239 = true then ((spec_l1In.f a0_5 0 255).bind fun t240 => (spec_PacketOk.j0 k (!t240) a0_0 a0_1 a0_2 a0_3 a0_4 a0_5 a0_6 a0_7 l0_8)) else (spec_PacketOk.j0 k true a0_0 a0_1 a0_2 a0_3 a0_4 a0_5 a0_6 a0_7 l0_8))) else (spec_PacketOk.j0 k true a0_0 a0_1 a0_2 a0_3 a0_4 a0_5 a0_6 a0_7 l0_8))) else (spec_PacketOk.j0 k true a0_0 a0_1 a0_2 a0_3 a0_4 a0_5 a0_6 a0_7 l0_8))) else (spec_PacketOk.j0 k true a0_0 a0_1 a0_2 a0_3 a0_4 a0_5 a0_6 a0_7 l0_8))) else (spec_PacketOk.j0 k true a0_0 a0_1 a0_2 a0_3 a0_4 a0_5 a0_6 a0_7 l0_8))
theorem spec_PacketOk.mono_l : ∀ k, (∀ y0 y1 y2 y3 y4 y5 y6 y7 y8 y9, LeO (spec_PacketOk.j0 k y0 y1 y2 y3 y4 y5 y6 y7 y8 y9) (spec_PacketOk.j0 (k + 1) y0 y1 y2 y3 y4 y5 y6 y7 y8 y9))
 | 0 => fun _ _ _ _ _ _ _ _ _ _ r h => by simp [spec_PacketOk.j0] at h
 | k + 1 => by
  have ih0 := spec_PacketOk.mono_l k
  ·intro y0 y1 y2 y3 y4 y5 y6 y7 y8 y9
   unfold spec_PacketOk.j0
   repeat' first | (with_reducible first | apply ih0 | exact LeO.refl _ | exact LeO.none _ | refine LeO.ite ?_ ?_ | refine LeO.bind ?_ fun _ => ?_) | apply ih0 | exact LeO.none _ | refine LeO.ite ?_ ?_ | refine LeO.bind ?_ fun _ => ?_
theorem spec_PacketOk.mono : ∀ a0 a1 a2 a3 a4 a5 a6 a7 a8 k, LeO (spec_PacketOk.f k a0 a1 a2 a3 a4 a5 a6 a7 a8) (spec_PacketOk.f (k + 1) a0 a1 a2 a3 a4 a5 a6 a7 a8) := by
 intro a0 a1 a2 a3 a4 a5 a6 a7 a8 k
 have ih0 := spec_PacketOk.mono_l k
 unfold spec_PacketOk.f
 repeat' first | (with_reducible first | apply ih0 | exact LeO.refl _ | exact LeO.none _ | refine LeO.ite ?_ ?_ | refine LeO.bind ?_ fun _ => ?_) | apply ih0 | exact LeO.none _ | refine LeO.ite ?_ ?_ | refine LeO.bind ?_ fun _ => ?_
set_option maxHeartbeats 8000000 in
set_option maxRecDepth 100000 in
theorem spec_PacketOk.calls (k : Nat) (a0_0 : Int) (a0_1 : Int) (a0_2 : Int) (a0_3 : Int) (a0_4 : Int) (a0_5 : Int) (a0_6 : Bool) (a0_7 : Bool) (A0_8 : Option Addr) (c0_8 : Nat) (l0_8 : List Int) (r : Bool) (w : World) (hr0_8 : Kd.C (Kd.int .u8) w A0_8 l0_8.length l0_8) (hc0_8 : l0_8.length ≤ c0_8) (h : spec_PacketOk.f k a0_0 a0_1 a0_2 a0_3 a0_4 a0_5 a0_6 a0_7 l0_8 = some r) :
  Calls Try.prog 58 #[.agg #[.int .i64 a0_0, .int .i64 a0_1, .int .i64 a0_2, .int .i64 a0_3, .int .i64 a0_4, .int .i64 a0_5, .bool a0_6, .bool a0_7, .slice A0_8 l0_8.length c0_8]] w fun e w' => e = .returned (.bool r) ∧ Below w.heap.size w w' := by
 have hu24 := Try.underlying24; have HR0_8 := Aside0.mk hr0_8; have HC0_8 := Aside0.mk hc0_8; clear hr0_8 hc0_8
 have HB := Aside0.mk (Below.refl w.heap.size w)
 have H : ((spec_l1In.f a0_0 0 65535).bind fun t235 => (if t235 = true then ((spec_l1In.f a0_1 0 65535).bind fun t236 => (if t236 = true then ((spec_l1In.f a0_2 0 255).bind fun t237 => (if t237 = true then ((spec_l1In.f a0_3 0 255).bind fun t238 => (if t238 = true then ((spec_l1In.f a0_4 0 255).bind fun t239 => (if t239 = true then ((spec_l1In.f a0_5 0 255).bind fun t240 => (spec_PacketOk.j0 k (!t240) a0_0 a0_1 a0_2 a0_3 a0_4 a0_5 a0_6 a0_7 l0_8)) else (spec_PacketOk.j0 k true a0_0 a0_1 a0_2 a0_3 a0_4 a0_5 a0_6 a0_7 l0_8))) else (spec_PacketOk.j0 k true a0_0 a0_1 a0_2 a0_3 a0_4 a0_5 a0_6 a0_7 l0_8))) else (spec_PacketOk.j0 k true a0_0 a0_1 a0_2 a0_3 a0_4 a0_5 a0_6 a0_7 l0_8))) else (spec_PacketOk.j0 k true a0_0 a0_1 a0_2 a0_3 a0_4 a0_5 a0_6 a0_7 l0_8))) else (spec_PacketOk.j0 k true a0_0 a0_1 a0_2 a0_3 a0_4 a0_5 a0_6 a0_7 l0_8))) = some r := h
 clear h; have HC2 := Aside0.mk H; clear H
 go_enter Try.func58, Try.ntmps58
 go_upto_region 1 with (first | ((with_reducible refine gate_dst (N := 1) rfl ?_); (try (refine gate_guard (by rfl) ?_; dsimp only)); refine box_ (N := 1) (cs := #[.int .i64 a0_0, .int .i64 a0_1, .int .i64 a0_2, .int .i64 a0_3, .int .i64 a0_4, .int .i64 a0_5, .bool a0_6, .bool a0_7, .slice A0_8 l0_8.length c0_8]) (t := 24) (fun gb234 hg w3 hbox hb => ?_); have BK234 := Aside0.mk (hbox); have GW234 := ge_ hg HB; have GE234 := ge_ hg HB; replace HB := (bs_ HB hb); clear hb hbox hg))
 (try simp only [Act.put, List.setIfInBounds_toArray, List.set_cons_zero, List.set_cons_succ])
 go_cut [36] (fun v36 wc => ∃ (kq : Nat) (x36_1 : Bool), v36 = .bool x36_1 ∧ Aside0 (spec_PacketOk.j0 kq x36_1 a0_0 a0_1 a0_2 a0_3 a0_4 a0_5 a0_6 a0_7 l0_8 = some r) ∧ Aside0 (kq ≤ k) ∧ Aside0 (wc.heap[gb234]? = some (.cells #[.int .i64 a0_0, .int .i64 a0_1, .int .i64 a0_2, .int .i64 a0_3, .int .i64 a0_4, .int .i64 a0_5, .bool a0_6, .bool a0_7, (.slice A0_8 l0_8.length c0_8)] 24 (0, 0))) ∧ Aside0 (Below w.heap.size w wc))
 case first =>
  have H := HC2.out; clear HC2
  replace H := Option.bind_eq_some_iff.mp H
  obtain ⟨t235, A40, H⟩ := H
  (try dsimp only at H)
  have A4 := Aside0.mk A40; clear A40
  by_cases c5 : t235 = true
  ·subst c5
   rw [if_pos rfl] at H
   replace H := Option.bind_eq_some_iff.mp H
   obtain ⟨t236, A60, H⟩ := H
   (try dsimp only at H)
   have A6 := Aside0.mk A60; clear A60
   by_cases c7 : t236 = true
   ·subst c7
    rw [if_pos rfl] at H
    replace H := Option.bind_eq_some_iff.mp H
    obtain ⟨t237, A80, H⟩ := H
    (try dsimp only at H)
    have A8 := Aside0.mk A80; clear A80
    by_cases c9 : t237 = true
    ·subst c9
     rw [if_pos rfl] at H
     replace H := Option.bind_eq_some_iff.mp H
     obtain ⟨t238, A100, H⟩ := H
     (try dsimp only at H)
     have A10 := Aside0.mk A100; clear A100
     by_cases c11 : t238 = true
     ·subst c11
      rw [if_pos rfl] at H
      replace H := Option.bind_eq_some_iff.mp H
      obtain ⟨t239, A120, H⟩ := H
      (try dsimp only at H)
      have A12 := Aside0.mk A120; clear A120
      by_cases c13 : t239 = true
      ·subst c13
       rw [if_pos rfl] at H
       replace H := Option.bind_eq_some_iff.mp H
       obtain ⟨t240, A140, H⟩ := H
       (try dsimp only at H)
       have A14 := Aside0.mk A140; clear A140
       have H' := Aside0.mk H
       clear H; have Z15 := zz9 BK234
       go_wp2_with (first | ((with_reducible refine gate_callee (f := 59) rfl ?_); refine goesL_ (some 5) rfl rfl Try.func59 (by kernel_rfl) rfl #[.int .i64 a0_0, .int .i64 0, .int .i64 65535] rfl ar_ ?_; (with_reducible refine (spec_l1In.calls a0_0 0 65535 true _ A4.out).mono ?_); rintro e w' ⟨rfl, ⟨nd, rfl⟩⟩; refine ⟨_, rfl, ?_⟩) | (go_at_call 59; (with_reducible refine (spec_l1In.calls a0_1 0 65535 true _ A6.out).mono ?_); rintro e w' ⟨rfl, ⟨nd, rfl⟩⟩) | (go_at_call 59; (with_reducible refine (spec_l1In.calls a0_2 0 255 true _ A8.out).mono ?_); rintro e w' ⟨rfl, ⟨nd, rfl⟩⟩) | (go_at_call 59; (with_reducible refine (spec_l1In.calls a0_3 0 255 true _ A10.out).mono ?_); rintro e w' ⟨rfl, ⟨nd, rfl⟩⟩) | (go_at_call 59; (with_reducible refine (spec_l1In.calls a0_4 0 255 true _ A12.out).mono ?_); rintro e w' ⟨rfl, ⟨nd, rfl⟩⟩) | (go_at_call 59; (with_reducible refine (spec_l1In.calls a0_5 0 255 t240 _ A14.out).mono ?_); rintro e w' ⟨rfl, ⟨nd, rfl⟩⟩))
       go_meet
       case rel => exact ⟨_, (!t240), (by first | rfl | (simp; done) | (simp [*]; done)), H', ⟨by first | omega | exact Nat.le_refl _⟩, ⟨by refine kb_ ?_; exact BK234.out⟩, ⟨hbA_ HB.out⟩⟩
      ·replace c13 := Bool.eq_false_iff.mpr c13
       subst c13
       rw [if_neg (show ¬ (false = true) by decide)] at H
       have H' := Aside0.mk H
       clear H; have Z16 := zz9 BK234
       go_wp2_with (first | ((with_reducible refine gate_callee (f := 59) rfl ?_); refine goesL_ (some 5) rfl rfl Try.func59 (by kernel_rfl) rfl #[.int .i64 a0_0, .int .i64 0, .int .i64 65535] rfl ar_ ?_; (with_reducible refine (spec_l1In.calls a0_0 0 65535 true _ A4.out).mono ?_); rintro e w' ⟨rfl, ⟨nd, rfl⟩⟩; refine ⟨_, rfl, ?_⟩) | (go_at_call 59; (with_reducible refine (spec_l1In.calls a0_1 0 65535 true _ A6.out).mono ?_); rintro e w' ⟨rfl, ⟨nd, rfl⟩⟩) | (go_at_call 59; (with_reducible refine (spec_l1In.calls a0_2 0 255 true _ A8.out).mono ?_); rintro e w' ⟨rfl, ⟨nd, rfl⟩⟩) | (go_at_call 59; (with_reducible refine (spec_l1In.calls a0_3 0 255 true _ A10.out).mono ?_); rintro e w' ⟨rfl, ⟨nd, rfl⟩⟩) | (go_at_call 59; (with_reducible refine (spec_l1In.calls a0_4 0 255 false _ A12.out).mono ?_); rintro e w' ⟨rfl, ⟨nd, rfl⟩⟩))
       go_meet
       case rel => exact ⟨_, (true), (by first | rfl | (simp; done) | (simp [*]; done)), H', ⟨by first | omega | exact Nat.le_refl _⟩, ⟨by refine kb_ ?_; exact BK234.out⟩, ⟨hbA_ HB.out⟩⟩
     ·replace c11 := Bool.eq_false_iff.mpr c11
      subst c11
      rw [if_neg (show ¬ (false = true) by decide)] at H
      have H' := Aside0.mk H
      clear H; have Z17 := zz9 BK234
      go_wp2_with (first | ((with_reducible refine gate_callee (f := 59) rfl ?_); refine goesL_ (some 5) rfl rfl Try.func59 (by kernel_rfl) rfl #[.int .i64 a0_0, .int .i64 0, .int .i64 65535] rfl ar_ ?_; (with_reducible refine (spec_l1In.calls a0_0 0 65535 true _ A4.out).mono ?_); rintro e w' ⟨rfl, ⟨nd, rfl⟩⟩; refine ⟨_, rfl, ?_⟩) | (go_at_call 59; (with_reducible refine (spec_l1In.calls a0_1 0 65535 true _ A6.out).mono ?_); rintro e w' ⟨rfl, ⟨nd, rfl⟩⟩) | (go_at_call 59; (with_reducible refine (spec_l1In.calls a0_2 0 255 true _ A8.out).mono ?_); rintro e w' ⟨rfl, ⟨nd, rfl⟩⟩) | (go_at_call 59; (with_reducible refine (spec_l1In.calls a0_3 0 255 false _ A10.out).mono ?_); rintro e w' ⟨rfl, ⟨nd, rfl⟩⟩))
      go_meet
      case rel => exact ⟨_, (true), (by first | rfl | (simp; done) | (simp [*]; done)), H', ⟨by first | omega | exact Nat.le_refl _⟩, ⟨by refine kb_ ?_; exact BK234.out⟩, ⟨hbA_ HB.out⟩⟩
    ·replace c9 := Bool.eq_false_iff.mpr c9
     subst c9
     rw [if_neg (show ¬ (false = true) by decide)] at H
     have H' := Aside0.mk H
     clear H; have Z18 := zz9 BK234
     go_wp2_with (first | ((with_reducible refine gate_callee (f := 59) rfl ?_); refine goesL_ (some 5) rfl rfl Try.func59 (by kernel_rfl) rfl #[.int .i64 a0_0, .int .i64 0, .int .i64 65535] rfl ar_ ?_; (with_reducible refine (spec_l1In.calls a0_0 0 65535 true _ A4.out).mono ?_); rintro e w' ⟨rfl, ⟨nd, rfl⟩⟩; refine ⟨_, rfl, ?_⟩) | (go_at_call 59; (with_reducible refine (spec_l1In.calls a0_1 0 65535 true _ A6.out).mono ?_); rintro e w' ⟨rfl, ⟨nd, rfl⟩⟩) | (go_at_call 59; (with_reducible refine (spec_l1In.calls a0_2 0 255 false _ A8.out).mono ?_); rintro e w' ⟨rfl, ⟨nd, rfl⟩⟩))
     go_meet
     case rel => exact ⟨_, (true), (by first | rfl | (simp; done) | (simp [*]; done)), H', ⟨by first | omega | exact Nat.le_refl _⟩, ⟨by refine kb_ ?_; exact BK234.out⟩, ⟨hbA_ HB.out⟩⟩
   ·replace c7 := Bool.eq_false_iff.mpr c7
    subst c7
    rw [if_neg (show ¬ (false = true) by decide)] at H
    have H' := Aside0.mk H
    clear H; have Z19 := zz9 BK234
    go_wp2_with (first | ((with_reducible refine gate_callee (f := 59) rfl ?_); refine goesL_ (some 5) rfl rfl Try.func59 (by kernel_rfl) rfl #[.int .i64 a0_0, .int .i64 0, .int .i64 65535] rfl ar_ ?_; (with_reducible refine (spec_l1In.calls a0_0 0 65535 true _ A4.out).mono ?_); rintro e w' ⟨rfl, ⟨nd, rfl⟩⟩; refine ⟨_, rfl, ?_⟩) | (go_at_call 59; (with_reducible refine (spec_l1In.calls a0_1 0 65535 false _ A6.out).mono ?_); rintro e w' ⟨rfl, ⟨nd, rfl⟩⟩))
    go_meet
    case rel => exact ⟨_, (true), (by first | rfl | (simp; done) | (simp [*]; done)), H', ⟨by first | omega | exact Nat.le_refl _⟩, ⟨by refine kb_ ?_; exact BK234.out⟩, ⟨hbA_ HB.out⟩⟩
  ·replace c5 := Bool.eq_false_iff.mpr c5
   subst c5
   rw [if_neg (show ¬ (false = true) by decide)] at H
   have H' := Aside0.mk H
   clear H; have Z20 := zz9 BK234
   go_wp2_with (first | ((with_reducible refine gate_callee (f := 59) rfl ?_); refine goesL_ (some 5) rfl rfl Try.func59 (by kernel_rfl) rfl #[.int .i64 a0_0, .int .i64 0, .int .i64 65535] rfl ar_ ?_; (with_reducible refine (spec_l1In.calls a0_0 0 65535 false _ A4.out).mono ?_); rintro e w' ⟨rfl, ⟨nd, rfl⟩⟩; refine ⟨_, rfl, ?_⟩))
   go_meet
   case rel => exact ⟨_, (true), (by first | rfl | (simp; done) | (simp [*]; done)), H', ⟨by first | omega | exact Nat.le_refl _⟩, ⟨by refine kb_ ?_; exact BK234.out⟩, ⟨hbA_ HB.out⟩⟩
 case rest =>
  clear HC2; (try clear c1); (try clear p2); (try clear c5); (try clear c7); (try clear c9); (try clear c11); (try clear c13); (try clear Z15); (try clear Z16); (try clear Z17); (try clear Z18); (try clear Z19); (try clear Z20)
  obtain ⟨kq, x36_1, rfl, HA, HJ1, BK234, HB⟩ := hcut
  cases kq with
  | zero => exact absurd HA.out (by simp [spec_PacketOk.j0])
  | succ kj1 =>
   have H := HA.out; clear HA
   simp only [spec_PacketOk.j0] at H
   by_cases c21 : x36_1 = true
   ·subst c21
    rw [if_pos rfl] at H
    obtain rfl := Option.some.inj H
    go_wp2
    go_ret
    exact ⟨by first | rfl | (simp [errW_none, errW_some] <;> rfl) | (simp [*, errW_none, errW_some] <;> rfl), hbA_ HB.out⟩
   ·replace c21 := Bool.eq_false_iff.mpr c21
    subst c21
    rw [if_neg (show ¬ (false = true) by decide)] at H
    by_cases c22 : (l0_8.length : Int) ≤ 48
    ·rw [if_pos c22] at H
     have c22b0 : decide ((l0_8.length : Int) ≤ 48) = true := decide_eq_true c22
     have c22b1 : decide (l0_8.length ≤ 48) = true := decide_eq_true (by omega)
     clear c22
     by_cases c23 : a0_6 = true
     ·subst c23
      rw [if_pos rfl] at H
      by_cases c24 : (l0_8.length : Int) > 0
      ·rw [if_pos c24] at H
       have c24b0 : decide (0 < (l0_8.length : Int)) = true := decide_eq_true c24
       have c24b1 : decide (0 < l0_8.length) = true := decide_eq_true (by omega)
       clear c24
       by_cases c25 : a0_7 = true
       ·subst c25
        rw [if_pos rfl] at H
        by_cases c26 : a0_5 = 0
        ·rw [if_pos c26] at H
         have c26b0 : (a0_5 == 0) = true := beq_iff_eq.mpr c26
         have c26b1 : (a0_5 != 0) = false := bne_eq_false_iff_eq.mpr c26
         clear c26
         obtain rfl := Option.some.inj H
         have Z27 := zz9 BK234
         go_wp2
         go_ret
         exact ⟨by first | rfl | (simp [errW_none, errW_some] <;> rfl) | (simp [*, errW_none, errW_some] <;> rfl), hbA_ HB.out⟩
        ·rw [if_neg c26] at H
         have c26b0 : (a0_5 == 0) = false := beq_eq_false_iff_ne.mpr c26
         have c26b1 : (a0_5 != 0) = true := bne_iff_ne.mpr c26
         obtain rfl := Option.some.inj H
         have Z28 := zz9 BK234
         go_wp2
         go_ret
         exact ⟨by first | rfl | (simp [errW_none, errW_some] <;> rfl) | (simp [*, errW_none, errW_some] <;> rfl), hbA_ HB.out⟩
       ·replace c25 := Bool.eq_false_iff.mpr c25
        subst c25
        rw [if_neg (show ¬ (false = true) by decide)] at H
        obtain rfl := Option.some.inj H
        have Z29 := zz9 BK234
        go_wp2
        go_ret
        exact ⟨by first | rfl | (simp [errW_none, errW_some] <;> rfl) | (simp [*, errW_none, errW_some] <;> rfl), hbA_ HB.out⟩
      ·rw [if_neg c24] at H
       have c24b0 : decide (0 < (l0_8.length : Int)) = false := decide_eq_false c24
       have c24b1 : decide (0 < l0_8.length) = false := decide_eq_false (by omega)
       clear c24
       obtain rfl := Option.some.inj H
       have Z30 := zz9 BK234
       go_wp2
       go_ret
       exact ⟨by first | rfl | (simp [errW_none, errW_some] <;> rfl) | (simp [*, errW_none, errW_some] <;> rfl), hbA_ HB.out⟩
     ·replace c23 := Bool.eq_false_iff.mpr c23
      subst c23
      rw [if_neg (show ¬ (false = true) by decide)] at H
      by_cases c31 : a0_7 = true
      ·subst c31
       rw [if_pos rfl] at H
       by_cases c32 : a0_5 = 0
       ·rw [if_pos c32] at H
        have c32b0 : (a0_5 == 0) = true := beq_iff_eq.mpr c32
        have c32b1 : (a0_5 != 0) = false := bne_eq_false_iff_eq.mpr c32
        clear c32
        obtain rfl := Option.some.inj H
        have Z33 := zz9 BK234
        go_wp2
        go_ret
        exact ⟨by first | rfl | (simp [errW_none, errW_some] <;> rfl) | (simp [*, errW_none, errW_some] <;> rfl), hbA_ HB.out⟩
       ·rw [if_neg c32] at H
        have c32b0 : (a0_5 == 0) = false := beq_eq_false_iff_ne.mpr c32
        have c32b1 : (a0_5 != 0) = true := bne_iff_ne.mpr c32
        obtain rfl := Option.some.inj H
        have Z34 := zz9 BK234
        go_wp2
        go_ret
        exact ⟨by first | rfl | (simp [errW_none, errW_some] <;> rfl) | (simp [*, errW_none, errW_some] <;> rfl), hbA_ HB.out⟩
      ·replace c31 := Bool.eq_false_iff.mpr c31
       subst c31
       rw [if_neg (show ¬ (false = true) by decide)] at H
       obtain rfl := Option.some.inj H
       have Z35 := zz9 BK234
       go_wp2
       go_ret
       exact ⟨by first | rfl | (simp [errW_none, errW_some] <;> rfl) | (simp [*, errW_none, errW_some] <;> rfl), hbA_ HB.out⟩
    ·rw [if_neg c22] at H
     have c22b0 : decide ((l0_8.length : Int) ≤ 48) = false := decide_eq_false c22
     have c22b1 : decide (l0_8.length ≤ 48) = false := decide_eq_false (by omega)
     clear c22
     obtain rfl := Option.some.inj H
     have Z36 := zz9 BK234
     go_wp2
     go_ret
     exact ⟨by first | rfl | (simp [errW_none, errW_some] <;> rfl) | (simp [*, errW_none, errW_some] <;> rfl), hbA_ HB.out⟩
mutual
def spec_PacketCut.j0 : Nat → Int → List (S24) → Bool → Int → Int → Int → Int → Int → Int → Bool → Bool → List Int → Option ((List (S24)) × Bool)
 | 0, _, _, _, _, _, _, _, _, _, _, _, _ => none
 | k + 1, x1, x6, x29, x242000, x242001, x242002, x242003, x242004, x242005, x242006, x242007, x242008 => if x29 = true then (some (x6, false)) else (spec_PacketCut.l0 k x1 x6 0 x242000 x242001 x242002 x242003 x242004 x242005 x242006 x242007 x242008)
def spec_PacketCut.l0 : Nat → Int → List (S24) → Int → Int → Int → Int → Int → Int → Int → Bool → Bool → List Int → Option ((List (S24)) × Bool)
 | 0, _, _, _, _, _, _, _, _, _, _, _, _ => none
 | k + 1, x1, x6, x7, x242000, x242001, x242002, x242003, x242004, x242005, x242006, x242007, x242008 => if x7 = 0 then (spec_PacketCut.j2 k x1 x6 x7 true x242000 x242001 x242002 x242003 x242004 x242005 x242006 x242007 x242008) else (spec_PacketCut.j2 k x1 x6 x7 (decide (x7 < (x242008.length : Int))) x242000 x242001 x242002 x242003 x242004 x242005 x242006 x242007 x242008)
def spec_PacketCut.j2 : Nat → Int → List (S24) → Int → Bool → Int → Int → Int → Int → Int → Int → Bool → Bool → List Int → Option ((List (S24)) × Bool)
 | 0, _, _, _, _, _, _, _, _, _, _, _, _, _ => none
 | k + 1, x1, x6, x7, x39, x242000, x242001, x242002, x242003, x242004, x242005, x242006, x242007, x242008 => if x39 = true then (if x242006 = true then ((some (([] : List Int) : List Int)).bind fun y248 => (if 0 ≤ x7 then (if x7 ≤ (mn (wrap64 (x7 + x1)) (x242008.length : Int)) then (if (mn (wrap64 (x7 + x1)) (x242008.length : Int)) ≤ (x242008.length : Int) then (if y248.length + ((x242008.take ((mn (wrap64 (x7 + x1)) (x242008.length : Int)) : Int).toNat).drop (x7 : Int).toNat).length < 140737488355328 then (if (wrap64 (x242005 + x7)) > 255 then (some ((([] : List (S24))), false)) else (if x6.length < 1759218604441 then (spec_PacketCut.l0 k x1 (x6 ++ [(⟨x242000, x242001, x242002, x242003, x242004, wrap64 (x242005 + x7), true, x242007, (y248 ++ ((x242008.take ((mn (wrap64 (x7 + x1)) (x242008.length : Int)) : Int).toNat).drop (x7 : Int).toNat))⟩ : S24)]) (wrap64 (x7 + x1)) x242000 x242001 x242002 x242003 x242004 x242005 x242006 x242007 x242008) else (none))) else (none)) else (none)) else (none)) else (none))) else ((some (([] : List Int) : List Int)).bind fun y261 => (if 0 ≤ x7 then (if x7 ≤ (mn (wrap64 (x7 + x1)) (x242008.length : Int)) then (if (mn (wrap64 (x7 + x1)) (x242008.length : Int)) ≤ (x242008.length : Int) then (if y261.length + ((x242008.take ((mn (wrap64 (x7 + x1)) (x242008.length : Int)) : Int).toNat).drop (x7 : Int).toNat).length < 140737488355328 then (if (wrap64 (x242005 + x7)) > 255 then (some ((([] : List (S24))), false)) else (if x6.length < 1759218604441 then (spec_PacketCut.l0 k x1 (x6 ++ [(⟨x242000, x242001, x242002, x242003, x242004, wrap64 (x242005 + x7), decide ((mn (wrap64 (x7 + x1)) (x242008.length : Int)) < (x242008.length : Int)), x242007, (y261 ++ ((x242008.take ((mn (wrap64 (x7 + x1)) (x242008.length : Int)) : Int).toNat).drop (x7 : Int).toNat))⟩ : S24)]) (wrap64 (x7 + x1)) x242000 x242001 x242002 x242003 x242004 x242005 x242006 x242007 x242008) else (none))) else (none)) else (none)) else (none)) else (none)))) else (some (x6, true))
end
def spec_PacketCut.f (k : Nat) (a0_0 : Int) (a0_1 : Int) (a0_2 : Int) (a0_3 : Int) (a0_4 : Int) (a0_5 : Int) (a0_6 : Bool) (a0_7 : Bool) (l0_8 : List Int) (a1 : Int) : Option ((List (S24)) × Bool) := (some (([] : List (S24)) : List (S24))).bind fun y242 => ((spec_PacketOk.f k a0_0 a0_1 a0_2 a0_3 a0_4 a0_5 a0_6 a0_7 l0_8).bind fun t245 => (if t245 = true then ((spec_l1In.f a1 1 48).bind fun t246 => (if t246 = true then (if (l0_8.length : Int) > a1 then (spec_PacketCut.j0 k a1 y242 a0_7 a0_0 a0_1 a0_2 a0_3 a0_4 a0_5 a0_6 a0_7 l0_8) else (spec_PacketCut.j0 k a1 y242 false a0_0 a0_1 a0_2 a0_3 a0_4 a0_5 a0_6 a0_7 l0_8)) else (spec_PacketCut.j0 k a1 y242 true a0_0 a0_1 a0_2 a0_3 a0_4 a0_5 a0_6 a0_7 l0_8))) else (spec_PacketCut.j0 k a1 y242 true a0_0 a0_1 a0_2 a0_3 a0_4 a0_5 a0_6 a0_7 l0_8)))
theorem spec_PacketCut.mono_l : ∀ k, (∀ y0 y1 y2 y3 y4 y5 y6 y7 y8 y9 y10 y11, LeO (spec_PacketCut.j0 k y0 y1 y2 y3 y4 y5 y6 y7 y8 y9 y10 y11) (spec_PacketCut.j0 (k + 1) y0 y1 y2 y3 y4 y5 y6 y7 y8 y9 y10 y11)) ∧ (∀ y0 y1 y2 y3 y4 y5 y6 y7 y8 y9 y10 y11, LeO (spec_PacketCut.l0 k y0 y1 y2 y3 y4 y5 y6 y7 y8 y9 y10 y11) (spec_PacketCut.l0 (k + 1) y0 y1 y2 y3 y4 y5 y6 y7 y8 y9 y10 y11)) ∧ (∀ y0 y1 y2 y3 y4 y5 y6 y7 y8 y9 y10 y11 y12, LeO (spec_PacketCut.j2 k y0 y1 y2 y3 y4 y5 y6 y7 y8 y9 y10 y11 y12) (spec_PacketCut.j2 (k + 1) y0 y1 y2 y3 y4 y5 y6 y7 y8 y9 y10 y11 y12))
 | 0 => ⟨fun _ _ _ _ _ _ _ _ _ _ _ _ r h => by simp [spec_PacketCut.j0] at h, fun _ _ _ _ _ _ _ _ _ _ _ _ r h => by simp [spec_PacketCut.l0] at h, fun _ _ _ _ _ _ _ _ _ _ _ _ _ r h => by simp [spec_PacketCut.j2] at h⟩
 | k + 1 => by
  obtain ⟨ih0, ih1, ih2⟩ := spec_PacketCut.mono_l k
  refine ⟨?_, ?_, ?_⟩
  ·intro y0 y1 y2 y3 y4 y5 y6 y7 y8 y9 y10 y11
   unfold spec_PacketCut.j0
   repeat' first | (with_reducible first | apply ih0 | apply ih1 | apply ih2 | apply spec_PacketOk.mono | exact LeO.refl _ | exact LeO.none _ | refine LeO.ite ?_ ?_ | refine LeO.bind ?_ fun _ => ?_) | apply ih0 | apply ih1 | apply ih2 | apply spec_PacketOk.mono | exact LeO.none _ | refine LeO.ite ?_ ?_ | refine LeO.bind ?_ fun _ => ?_
  ·intro y0 y1 y2 y3 y4 y5 y6 y7 y8 y9 y10 y11
   unfold spec_PacketCut.l0
   repeat' first | (with_reducible first | apply ih0 | apply ih1 | apply ih2 | apply spec_PacketOk.mono | exact LeO.refl _ | exact LeO.none _ | refine LeO.ite ?_ ?_ | refine LeO.bind ?_ fun _ => ?_) | apply ih0 | apply ih1 | apply ih2 | apply spec_PacketOk.mono | exact LeO.none _ | refine LeO.ite ?_ ?_ | refine LeO.bind ?_ fun _ => ?_
  ·intro y0 y1 y2 y3 y4 y5 y6 y7 y8 y9 y10 y11 y12
   unfold spec_PacketCut.j2
   repeat' first | (with_reducible first | apply ih0 | apply ih1 | apply ih2 | apply spec_PacketOk.mono | exact LeO.refl _ | exact LeO.none _ | refine LeO.ite ?_ ?_ | refine LeO.bind ?_ fun _ => ?_) | apply ih0 | apply ih1 | apply ih2 | apply spec_PacketOk.mono | exact LeO.none _ | refine LeO.ite ?_ ?_ | refine LeO.bind ?_ fun _ => ?_
theorem spec_PacketCut.mono : ∀ a0 a1 a2 a3 a4 a5 a6 a7 a8 a9 k, LeO (spec_PacketCut.f k a0 a1 a2 a3 a4 a5 a6 a7 a8 a9) (spec_PacketCut.f (k + 1) a0 a1 a2 a3 a4 a5 a6 a7 a8 a9) := by
 intro a0 a1 a2 a3 a4 a5 a6 a7 a8 a9 k
 obtain ⟨ih0, ih1, ih2⟩ := spec_PacketCut.mono_l k
 unfold spec_PacketCut.f
 repeat' first | (with_reducible first | apply ih0 | apply ih1 | apply ih2 | apply spec_PacketOk.mono | exact LeO.refl _ | exact LeO.none _ | refine LeO.ite ?_ ?_ | refine LeO.bind ?_ fun _ => ?_) | apply ih0 | apply ih1 | apply ih2 | apply spec_PacketOk.mono | exact LeO.none _ | refine LeO.ite ?_ ?_ | refine LeO.bind ?_ fun _ => ?_
set_option maxHeartbeats 8000000 in
set_option maxRecDepth 100000 in
theorem spec_PacketCut.calls (k : Nat) (a0_0 : Int) (a0_1 : Int) (a0_2 : Int) (a0_3 : Int) (a0_4 : Int) (a0_5 : Int) (a0_6 : Bool) (a0_7 : Bool) (A0_8 : Option Addr) (c0_8 : Nat) (l0_8 : List Int) (a1 : Int) (r1 : List (S24)) (r2 : Bool) (w : World) (hr0_8 : Kd.C (Kd.int .u8) w A0_8 l0_8.length l0_8) (hc0_8 : l0_8.length ≤ c0_8) (h : spec_PacketCut.f k a0_0 a0_1 a0_2 a0_3 a0_4 a0_5 a0_6 a0_7 l0_8 a1 = some (r1, r2)) :
  Calls Try.prog 11 #[.agg #[.int .i64 a0_0, .int .i64 a0_1, .int .i64 a0_2, .int .i64 a0_3, .int .i64 a0_4, .int .i64 a0_5, .bool a0_6, .bool a0_7, .slice A0_8 l0_8.length c0_8], .int .i64 a1] w fun e w' => ∃ v0_ : Value, e = .returned (.tuple #[v0_, .bool r2]) ∧ Kd.S k24 24 w' w.heap.size (fun _ => True) v0_ r1 ∧ Below w.heap.size w w' := by
 have hu24 := Try.underlying24; have HR0_8 := Aside0.mk hr0_8; have HC0_8 := Aside0.mk hc0_8; clear hr0_8 hc0_8
 have HB := Aside0.mk (Below.refl w.heap.size w)
 have H : ((some (([] : List (S24)) : List (S24))).bind fun y242 => ((spec_PacketOk.f k a0_0 a0_1 a0_2 a0_3 a0_4 a0_5 a0_6 a0_7 l0_8).bind fun t245 => (if t245 = true then ((spec_l1In.f a1 1 48).bind fun t246 => (if t246 = true then (if (l0_8.length : Int) > a1 then (spec_PacketCut.j0 k a1 y242 a0_7 a0_0 a0_1 a0_2 a0_3 a0_4 a0_5 a0_6 a0_7 l0_8) else (spec_PacketCut.j0 k a1 y242 false a0_0 a0_1 a0_2 a0_3 a0_4 a0_5 a0_6 a0_7 l0_8)) else (spec_PacketCut.j0 k a1 y242 true a0_0 a0_1 a0_2 a0_3 a0_4 a0_5 a0_6 a0_7 l0_8))) else (spec_PacketCut.j0 k a1 y242 true a0_0 a0_1 a0_2 a0_3 a0_4 a0_5 a0_6 a0_7 l0_8)))) = some (r1, r2) := h
 clear h
 obtain ⟨y242, hy242⟩ : ∃ y_ : List (S24), y_ = (([] : List (S24))) := ⟨_, rfl⟩
 (first | replace H := sb_ hy242 H | rw [← hy242] at H)
 have Ny242 := Aside0.mk hy242; clear hy242; have HC3 := Aside0.mk H; clear H
 go_enter Try.func11, Try.ntmps11
 go_upto_region 2 with (first | ((with_reducible refine gate_dst (N := 2) rfl ?_); (try (refine gate_guard (by rfl) ?_; dsimp only)); refine box_ (N := 2) (cs := #[.int .i64 a0_0, .int .i64 a0_1, .int .i64 a0_2, .int .i64 a0_3, .int .i64 a0_4, .int .i64 a0_5, .bool a0_6, .bool a0_7, .slice A0_8 l0_8.length c0_8]) (t := 24) (fun gb241 hg w4 hbox hb => ?_); have BK241 := Aside0.mk (hbox); have GW241 := ge_ hg HB; have GE241 := ge_ hg HB; replace HB := (bs_ HB hb); clear hb hbox hg) | ((with_reducible refine gate_dst (N := 10) rfl ?_); (try (refine gate_guard (by rfl) ?_; dsimp only)); refine Kd.S_lit k24 _ 24 ?hg (N := 10) ?hd (xs := ([] : List (S24))) (inner := []) (ok := fun _ => True) (okp := fun _ => True) ?hr ?hp (fun _ hk => hk) trivial (Below.refl _ _) (Nat.le_refl _) (by simp) ?_; (case hd => rfl); (case hg => rfl); (case hr => first | (go_simp; done) | (go_simp; rfl)); (case hp => exact (Reps.none _ _)); intro v243 w5 ho6 hb hg_ hnew_; clear hg_ hnew_; (first | rw [← Ny242.out] at ho6 | (simp only [Int.reduceToNat] at ho6; rw [← Ny242.out] at ho6)); have HO244 := Aside0.mk (Kd.S_lower (nbS_ ho6 BK241) (below_size (hbA_ HB.out))); replace BK241 := (bbA_ BK241 hb); replace HB := (bs_ HB hb); clear hb ho6))
 (try simp only [Act.put, List.setIfInBounds_toArray, List.set_cons_zero, List.set_cons_succ])
 go_cut [29] (fun v29 wc => ∃ (kq : Nat) (x29_2 : Bool), v29 = .bool x29_2 ∧ Aside0 (spec_PacketCut.j0 kq a1 y242 x29_2 a0_0 a0_1 a0_2 a0_3 a0_4 a0_5 a0_6 a0_7 l0_8 = some (r1, r2)) ∧ Aside0 (kq ≤ k) ∧ Aside0 (Kd.S k24 24 wc w.heap.size (fun k_ => k_ ≠ gb241) v243 y242) ∧ Aside0 (wc.heap[gb241]? = some (.cells #[.int .i64 a0_0, .int .i64 a0_1, .int .i64 a0_2, .int .i64 a0_3, .int .i64 a0_4, .int .i64 a0_5, .bool a0_6, .bool a0_7, (.slice A0_8 l0_8.length c0_8)] 24 (0, 0))) ∧ Aside0 (Below w.heap.size w wc))
 case first =>
  have H := HC3.out; clear HC3
  replace H := Option.bind_eq_some_iff.mp H
  obtain ⟨t245, A70, H⟩ := H
  (try dsimp only at H)
  have A7 := Aside0.mk A70; clear A70
  by_cases c8 : t245 = true
  ·subst c8
   rw [if_pos rfl] at H
   replace H := Option.bind_eq_some_iff.mp H
   obtain ⟨t246, A90, H⟩ := H
   (try dsimp only at H)
   have A9 := Aside0.mk A90; clear A90
   by_cases c10 : t246 = true
   ·subst c10
    rw [if_pos rfl] at H
    by_cases c11 : (l0_8.length : Int) > a1
    ·rw [if_pos c11] at H
     have c11b0 : decide (a1 < (l0_8.length : Int)) = true := decide_eq_true c11
     clear c11
     (first | rw [c11b0] | (simp only [i64_w, i32_w]; rw [c11b0]) | skip)
     have H' := Aside0.mk H
     clear H; have Z12 := zz9 BK241
     go_wp2_with (first | ((with_reducible refine gate_callee (f := 58) rfl ?_); refine goesL_ (some 12) rfl rfl Try.func58 (by kernel_rfl) rfl #[.agg #[.int .i64 a0_0, .int .i64 a0_1, .int .i64 a0_2, .int .i64 a0_3, .int .i64 a0_4, .int .i64 a0_5, .bool a0_6, .bool a0_7, .slice A0_8 l0_8.length c0_8]] rfl ar_ ?_; (with_reducible refine (spec_PacketOk.calls k a0_0 a0_1 a0_2 a0_3 a0_4 a0_5 a0_6 a0_7 _ _ l0_8 true _ ?side1 ?side2 A7.out).mono ?_); (case side1 => exact kC_ (Kd.C_below HR0_8.out HB.out)); (case side2 => exact HC0_8.out); rintro e w13 ⟨rfl, hb⟩; refine ⟨_, rfl, ?_⟩; replace HO244 := Aside0.mk (Kd.S_below (kS_ HO244.out) hb); replace BK241 := (bbA_ BK241 hb); replace HB := (bs_ HB hb); (try clear hb); (try clear hb2); (try clear hk); (try clear hi)) | (go_at_call 59; (with_reducible refine (spec_l1In.calls a1 1 48 true _ A9.out).mono ?_); rintro e w' ⟨rfl, ⟨nd, rfl⟩⟩; have Z14 := zz9 BK241))
     go_meet
     case rel => exact ⟨_, (a0_7), (by first | rfl | (simp; done) | (simp [*]; done)), H', ⟨by first | omega | exact Nat.le_refl _⟩, ⟨by refine kS_ ?_; exact Kd.S_mono HO244.out (fun _ hk => hk.2)⟩, ⟨by refine kb_ ?_; exact BK241.out⟩, ⟨hbA_ HB.out⟩⟩
    ·rw [if_neg c11] at H
     have c11b0 : decide (a1 < (l0_8.length : Int)) = false := decide_eq_false c11
     clear c11
     (first | rw [c11b0] | (simp only [i64_w, i32_w]; rw [c11b0]) | skip)
     have H' := Aside0.mk H
     clear H; have Z15 := zz9 BK241
     go_wp2_with (first | ((with_reducible refine gate_callee (f := 58) rfl ?_); refine goesL_ (some 12) rfl rfl Try.func58 (by kernel_rfl) rfl #[.agg #[.int .i64 a0_0, .int .i64 a0_1, .int .i64 a0_2, .int .i64 a0_3, .int .i64 a0_4, .int .i64 a0_5, .bool a0_6, .bool a0_7, .slice A0_8 l0_8.length c0_8]] rfl ar_ ?_; (with_reducible refine (spec_PacketOk.calls k a0_0 a0_1 a0_2 a0_3 a0_4 a0_5 a0_6 a0_7 _ _ l0_8 true _ ?side1 ?side2 A7.out).mono ?_); (case side1 => exact kC_ (Kd.C_below HR0_8.out HB.out)); (case side2 => exact HC0_8.out); rintro e w16 ⟨rfl, hb⟩; refine ⟨_, rfl, ?_⟩; replace HO244 := Aside0.mk (Kd.S_below (kS_ HO244.out) hb); replace BK241 := (bbA_ BK241 hb); replace HB := (bs_ HB hb); (try clear hb); (try clear hb2); (try clear hk); (try clear hi)) | (go_at_call 59; (with_reducible refine (spec_l1In.calls a1 1 48 true _ A9.out).mono ?_); rintro e w' ⟨rfl, ⟨nd, rfl⟩⟩; have Z17 := zz9 BK241))
     go_meet
     case rel => exact ⟨_, (false), (by first | rfl | (simp; done) | (simp [*]; done)), H', ⟨by first | omega | exact Nat.le_refl _⟩, ⟨by refine kS_ ?_; exact Kd.S_mono HO244.out (fun _ hk => hk.2)⟩, ⟨by refine kb_ ?_; exact BK241.out⟩, ⟨hbA_ HB.out⟩⟩
   ·replace c10 := Bool.eq_false_iff.mpr c10
    subst c10
    rw [if_neg (show ¬ (false = true) by decide)] at H
    have H' := Aside0.mk H
    clear H; have Z18 := zz9 BK241
    go_wp2_with (first | ((with_reducible refine gate_callee (f := 58) rfl ?_); refine goesL_ (some 12) rfl rfl Try.func58 (by kernel_rfl) rfl #[.agg #[.int .i64 a0_0, .int .i64 a0_1, .int .i64 a0_2, .int .i64 a0_3, .int .i64 a0_4, .int .i64 a0_5, .bool a0_6, .bool a0_7, .slice A0_8 l0_8.length c0_8]] rfl ar_ ?_; (with_reducible refine (spec_PacketOk.calls k a0_0 a0_1 a0_2 a0_3 a0_4 a0_5 a0_6 a0_7 _ _ l0_8 true _ ?side1 ?side2 A7.out).mono ?_); (case side1 => exact kC_ (Kd.C_below HR0_8.out HB.out)); (case side2 => exact HC0_8.out); rintro e w19 ⟨rfl, hb⟩; refine ⟨_, rfl, ?_⟩; replace HO244 := Aside0.mk (Kd.S_below (kS_ HO244.out) hb); replace BK241 := (bbA_ BK241 hb); replace HB := (bs_ HB hb); (try clear hb); (try clear hb2); (try clear hk); (try clear hi)) | (go_at_call 59; (with_reducible refine (spec_l1In.calls a1 1 48 false _ A9.out).mono ?_); rintro e w' ⟨rfl, ⟨nd, rfl⟩⟩))
    go_meet
    case rel => exact ⟨_, (true), (by first | rfl | (simp; done) | (simp [*]; done)), H', ⟨by first | omega | exact Nat.le_refl _⟩, ⟨by refine kS_ ?_; exact Kd.S_mono HO244.out (fun _ hk => hk.2)⟩, ⟨by refine kb_ ?_; exact BK241.out⟩, ⟨hbA_ HB.out⟩⟩
  ·replace c8 := Bool.eq_false_iff.mpr c8
   subst c8
   rw [if_neg (show ¬ (false = true) by decide)] at H
   have H' := Aside0.mk H
   clear H; have Z20 := zz9 BK241
   go_wp2_with (first | ((with_reducible refine gate_callee (f := 58) rfl ?_); refine goesL_ (some 12) rfl rfl Try.func58 (by kernel_rfl) rfl #[.agg #[.int .i64 a0_0, .int .i64 a0_1, .int .i64 a0_2, .int .i64 a0_3, .int .i64 a0_4, .int .i64 a0_5, .bool a0_6, .bool a0_7, .slice A0_8 l0_8.length c0_8]] rfl ar_ ?_; (with_reducible refine (spec_PacketOk.calls k a0_0 a0_1 a0_2 a0_3 a0_4 a0_5 a0_6 a0_7 _ _ l0_8 false _ ?side1 ?side2 A7.out).mono ?_); (case side1 => exact kC_ (Kd.C_below HR0_8.out HB.out)); (case side2 => exact HC0_8.out); rintro e w21 ⟨rfl, hb⟩; refine ⟨_, rfl, ?_⟩; replace HO244 := Aside0.mk (Kd.S_below (kS_ HO244.out) hb); replace BK241 := (bbA_ BK241 hb); replace HB := (bs_ HB hb); (try clear hb); (try clear hb2); (try clear hk); (try clear hi)))
   go_meet
   case rel => exact ⟨_, (true), (by first | rfl | (simp; done) | (simp [*]; done)), H', ⟨by first | omega | exact Nat.le_refl _⟩, ⟨by refine kS_ ?_; exact Kd.S_mono HO244.out (fun _ hk => hk.2)⟩, ⟨by refine kb_ ?_; exact BK241.out⟩, ⟨hbA_ HB.out⟩⟩
 case rest =>
  clear HC3; (try clear c1); (try clear p2); (try clear c5); (try clear c8); (try clear c10); (try clear c11); (try clear c11b0); (try clear Z12); (try clear Z14); (try clear Z15); (try clear Z17); (try clear Z18); (try clear Z20)
  obtain ⟨kq, x29_2, rfl, HA, HJ2, HO_6, BK241, HB⟩ := hcut
  cases kq with
  | zero => exact absurd HA.out (by simp [spec_PacketCut.j0])
  | succ kj2 =>
   have H := HA.out; clear HA
   simp only [spec_PacketCut.j0] at H
   by_cases c22 : x29_2 = true
   ·subst c22
    rw [if_pos rfl] at H
    simp only [Option.some.injEq, Prod.mk.injEq] at H
    obtain ⟨rfl, rfl⟩ := H
    go_wp2
    go_ret2
    exact ⟨_, by first | rfl | (simp [errW_none, errW_some] <;> rfl) | (simp [*, errW_none, errW_some] <;> rfl), by refine kS_ ?_; exact Kd.S_mono HO_6.out (fun _ hk => trivial), hbA_ HB.out⟩
   ·replace c22 := Bool.eq_false_iff.mpr c22
    subst c22
    rw [if_neg (show ¬ (false = true) by decide)] at H
    have H' := Aside0.mk H
    clear H
    go_wp2
    go_loopg [6, 7] kj2 (fun kq v6 v7 w' => ∃ (x6_2 : List (S24)) (x7_2 : Int), v7 = .int .i64 x7_2 ∧ Aside0 (spec_PacketCut.l0 kq a1 x6_2 x7_2 a0_0 a0_1 a0_2 a0_3 a0_4 a0_5 a0_6 a0_7 l0_8 = some (r1, r2)) ∧ Aside0 (kq ≤ kj2) ∧ Aside0 (Kd.S k24 24 w' w.heap.size (fun k_ => k_ ≠ gb241) v6 x6_2) ∧ Aside0 (w'.heap[gb241]? = some (.cells #[.int .i64 a0_0, .int .i64 a0_1, .int .i64 a0_2, .int .i64 a0_3, .int .i64 a0_4, .int .i64 a0_5, .bool a0_6, .bool a0_7, (.slice A0_8 l0_8.length c0_8)] 24 (0, 0))) ∧ Aside0 (Below w.heap.size w w'))
    case atStart => exact ⟨(y242), (0), (by first | rfl | (simp; done) | (simp [*]; done)), H', ⟨Nat.le_refl _⟩, ⟨by refine kS_ ?_; exact HO_6.out⟩, ⟨by refine kb_ ?_; exact BK241.out⟩, ⟨hbA_ HB.out⟩⟩
    case round =>
     clear H'; (try clear c1); (try clear c2); (try clear p2); (try clear c5); (try clear c8); (try clear c10); (try clear c11); (try clear c11b0); (try clear c22); (try clear Z12); (try clear Z14); (try clear Z15); (try clear Z17); (try clear Z18); (try clear Z20); (try clear p2)
     obtain ⟨x6_2, x7_2, rfl, HA, HK2, HO_6, BK241, HB⟩ := hrel
     cases gk with
     | zero => exact absurd HA.out (by simp [spec_PacketCut.l0])
     | succ k2 =>
      have H := HA.out; clear HA
      simp only [spec_PacketCut.l0] at H
      have HC23 := Aside0.mk H; clear H
      go_upto_region 5 with (fail)
      go_cut [39] (fun v39 wc => ∃ (kq : Nat) (x39_22 : Bool), v39 = .bool x39_22 ∧ Aside0 (spec_PacketCut.j2 kq a1 x6_2 x7_2 x39_22 a0_0 a0_1 a0_2 a0_3 a0_4 a0_5 a0_6 a0_7 l0_8 = some (r1, r2)) ∧ Aside0 (kq ≤ k2) ∧ Aside0 (Kd.S k24 24 wc w.heap.size (fun k_ => k_ ≠ gb241) u6 x6_2) ∧ Aside0 (wc.heap[gb241]? = some (.cells #[.int .i64 a0_0, .int .i64 a0_1, .int .i64 a0_2, .int .i64 a0_3, .int .i64 a0_4, .int .i64 a0_5, .bool a0_6, .bool a0_7, (.slice A0_8 l0_8.length c0_8)] 24 (0, 0))) ∧ Aside0 (Below w.heap.size w wc))
      case first =>
       have H := HC23.out; clear HC23
       by_cases c24 : x7_2 = 0
       ·rw [if_pos c24] at H
        have c24b0 : (x7_2 == 0) = true := beq_iff_eq.mpr c24
        have c24b1 : (x7_2 != 0) = false := bne_eq_false_iff_eq.mpr c24
        clear c24
        (first | rw [c24b0] | (simp only [i64_w, i32_w]; rw [c24b0]) | skip)
        have H' := Aside0.mk H
        clear H
        go_wp2
        go_meet
        case rel => exact ⟨_, (true), (by first | rfl | (simp; done) | (simp [*]; done)), H', ⟨by have := HJ2.out; have := HK2.out; first | omega | exact Nat.le_refl _⟩, ⟨by refine kS_ ?_; exact HO_6.out⟩, ⟨by refine kb_ ?_; exact BK241.out⟩, ⟨hbA_ HB.out⟩⟩
       ·rw [if_neg c24] at H
        have c24b0 : (x7_2 == 0) = false := beq_eq_false_iff_ne.mpr c24
        have c24b1 : (x7_2 != 0) = true := bne_iff_ne.mpr c24
        (first | rw [c24b0] | (simp only [i64_w, i32_w]; rw [c24b0]) | skip)
        have H' := Aside0.mk H
        clear H; have Z25 := zz9 BK241
        go_wp2
        go_meet
        case rel => exact ⟨_, (decide (x7_2 < (l0_8.length : Int))), (by first | rfl | (simp; done) | (simp [*]; done)), H', ⟨by have := HJ2.out; have := HK2.out; first | omega | exact Nat.le_refl _⟩, ⟨by refine kS_ ?_; exact HO_6.out⟩, ⟨by refine kb_ ?_; exact BK241.out⟩, ⟨hbA_ HB.out⟩⟩
      case rest =>
       clear HC23; (try clear c1); (try clear c2); (try clear p2); (try clear c5); (try clear c8); (try clear c10); (try clear c11); (try clear c11b0); (try clear c22); (try clear c24); (try clear c24b0); (try clear c24b1); (try clear Z12); (try clear Z14); (try clear Z15); (try clear Z17); (try clear Z18); (try clear Z20); (try clear Z25); (try clear p2)
       obtain ⟨kq, x39_22, rfl, HA, HJ22, HO_6, BK241, HB⟩ := hcut
       cases kq with
       | zero => exact absurd HA.out (by simp [spec_PacketCut.j2])
       | succ kj22 =>
        have H := HA.out; clear HA
        simp only [spec_PacketCut.j2] at H
        by_cases c26 : x39_22 = true
        ·subst c26
         rw [if_pos rfl] at H
         obtain ⟨ji27, hji27⟩ : ∃ j_ : Int, (mn (wrap64 (x7_2 + a1)) (l0_8.length : Int)) = j_ := ⟨_, rfl⟩
         (first | rw [hji27] at H | simp only [hji27] at H)
         have hji27_ : (if (l0_8.length : Int) < (wrap64 (x7_2 + a1)) then (l0_8.length : Int) else (wrap64 (x7_2 + a1))) = ji27 := hji27
         by_cases c28 : a0_6 = true
         ·subst c28
          rw [if_pos rfl] at H
          obtain ⟨y248, hy248⟩ : ∃ y_ : List Int, y_ = (([] : List Int)) := ⟨_, rfl⟩
          (first | replace H := sb_ hy248 H | rw [← hy248] at H)
          have Ny248 := Aside0.mk hy248; clear hy248
          by_cases c29 : 0 ≤ x7_2
          ·rw [if_pos c29] at H
           have c29b0 := eq_true c29
           have c29b1 : decide (0 ≤ x7_2) = true := decide_eq_true c29
           clear c29
           by_cases c30 : x7_2 ≤ (ji27)
           ·rw [if_pos c30] at H
            have c30b0 := eq_true c30
            have c30b1 : decide (x7_2 ≤ (ji27)) = true := decide_eq_true c30
            clear c30
            by_cases c31 : (ji27) ≤ (l0_8.length : Int)
            ·rw [if_pos c31] at H
             have c31b0 := eq_true c31
             have c31b1 : decide ((ji27) ≤ (l0_8.length : Int)) = true := decide_eq_true c31
             clear c31
             by_cases c32 : y248.length + ((l0_8.take ((ji27) : Int).toNat).drop (x7_2 : Int).toNat).length < 140737488355328
             ·rw [if_pos c32] at H
              have LMc32 := Aside0.mk c32; clear c32
              obtain ⟨y252, hy252⟩ : ∃ y_ : List Int, y_ = (y248 ++ ((l0_8.take ((ji27) : Int).toNat).drop (x7_2 : Int).toNat)) := ⟨_, rfl⟩
              (first | replace H := sb_ hy252 H | rw [← hy252] at H)
              have Ny252 := Aside0.mk hy252; clear hy252
              by_cases c33 : (wrap64 (a0_5 + x7_2)) > 255
              ·rw [if_pos c33] at H
               have c33b0 : decide (255 < (wrap64 (a0_5 + x7_2))) = true := decide_eq_true c33
               clear c33
               obtain ⟨y255, hy255⟩ : ∃ y_ : List (S24), y_ = (([] : List (S24))) := ⟨_, rfl⟩
               (first | replace H := sb_ hy255 H | rw [← hy255] at H)
               have Ny255 := Aside0.mk hy255; clear hy255
               simp only [Option.some.injEq, Prod.mk.injEq] at H
               obtain ⟨rfl, rfl⟩ := H
               have Z34 := zz9 BK241
               go_wp2_with (first | ((with_reducible refine gate_dst (N := 8) rfl ?_); (try (refine gate_guard (by rfl) ?_; dsimp only)); refine box_ (N := 8) (cs := #[.int .i64 0, .int .i64 0, .int .i64 0, .int .i64 0, .int .i64 0, .int .i64 0, .bool false, .bool false, .slice none 0 0]) (t := 24) (fun gb247 hg w35 hbox hb => ?_); replace HO_6 := Aside0.mk (Kd.S_below (Kd.S_elderB (kS_ HO_6.out) gb247 (Nat.le_of_eq hg.symm)) hb); have BK247 := Aside0.mk (hbox); have GW247 := ge_ hg HB; have GE247 := ge_ hg HB; replace HB := (bs_ HB hb); have NB241_247 := nl_ hg BK241; have NB247_241 := ng_ hg BK241; replace BK241 := (bbA_ BK241 hb); clear hb hbox hg; have hnb36 := NB247_241.out; have hnc36 := NB241_247.out; have Z37 := zz9 BK247; have Z38 := zz9 BK241) | ((with_reducible refine gate_dst (N := 66) rfl ?_); (try (refine gate_guard (by rfl) ?_; dsimp only)); refine Kd.R_lit (Kd.int .u8) _ 5 ?hg (N := 66) ?hd (xs := ([] : List Int)) (inner := []) (ok := fun _ => True) (okp := fun _ => True) ?hr ?hp (fun _ hk => hk) trivial (Below.refl _ _) (Nat.le_refl _) (by simp) ?_; (case hd => rfl); (case hg => rfl); (case hr => first | (go_simp; done) | (go_simp; rfl)); (case hp => exact (Reps.none _ _)); intro v249 w39 ho40 hb hg_ hnew_; clear hg_ hnew_; (first | rw [← Ny248.out] at ho40 | (simp only [Int.reduceToNat] at ho40; rw [← Ny248.out] at ho40)); replace HO_6 := Aside0.mk (Kd.S_elder' (by refine kS_ ?_; exact (nfS_ gb247 HO_6.out (fun _ hk => hk.2) (fun _ h_ => op1_ h_))) (Kd.R_base ho40) hb); have HO250 := Aside0.mk (Kd.R_lower ho40 (below_size (hbA_ HB.out))); replace BK241 := Aside0.mk (blk_below (g := gb241) (o := .cells #[.int .i64 a0_0, .int .i64 a0_1, .int .i64 a0_2, .int .i64 a0_3, .int .i64 a0_4, .int .i64 a0_5, .bool true, .bool a0_7, .slice A0_8 l0_8.length c0_8] 24 (0, 0)) (by exact kf_ BK241.out) hb); replace BK247 := Aside0.mk (blk_below (g := gb247) (o := .cells #[.int .i64 a0_0, .int .i64 a0_1, .int .i64 a0_2, .int .i64 a0_3, .int .i64 a0_4, .int .i64 (wrap64 (a0_5 + x7_2)), .bool true, .bool a0_7, .slice A0_8 l0_8.length c0_8] 24 (0, 0)) (by refine kb_ ?_; refine blk_put (cs := #[.int .i64 a0_0, .int .i64 a0_1, .int .i64 a0_2, .int .i64 a0_3, .int .i64 a0_4, .int .i64 (wrap64 (a0_5 + x7_2)), .bool true, .bool a0_7, .slice A0_8 l0_8.length c0_8]) ?_ 6 _ rfl; refine kb_ ?_; refine blk_put (cs := #[.int .i64 a0_0, .int .i64 a0_1, .int .i64 a0_2, .int .i64 a0_3, .int .i64 a0_4, .int .i64 a0_5, .bool true, .bool a0_7, .slice A0_8 l0_8.length c0_8]) ?_ 5 _ rfl; refine kb_ ?_; refine pz9 (cs := #[.int .i64 0, .int .i64 0, .int .i64 0, .int .i64 0, .int .i64 0, .int .i64 0, .bool false, .bool false, .slice none 0 0]) ?_; refine kb_ ?_; exact BK247.out) hb); replace HB := (bs_ HB hb); clear hb ho40; have Z41 := zz9 BK241; obtain ⟨i042, hi042, _, hsz42, _⟩ := info_parts info5; obtain ⟨A42, hcut42, hA42, hC42⟩ := print_mid_of (P := Try.prog) (Value.int .u8) 0 22 5 .i64 .i64 Try.underlying22 hi042 hsz42 A0_8 c0_8 l0_8 x7_2 (ji27) (of_decide_eq_true (by first | (with_reducible assumption) | assumption)) (by first | omega | exact of_decide_eq_true (by first | (with_reducible assumption) | assumption)) (of_decide_eq_true (by first | (with_reducible assumption) | assumption)) HC0_8.out; have HR251 := Aside0.mk (Kd.C_of_reads (h1 := fun _ => rfl) (hA42 _ (Kd.reads_of_C HR0_8.out))); have HC251 := Aside0.mk hC42; clear hA42 hC42 hi042 hsz42) | ((with_reducible refine gate_builtin (b := .append) (xs := #[.tmp 66, .tmp 71]) rfl ?_); (try (refine gate_guard (by rfl) ?_; dsimp only)); at_builtin; refine Kd.R_append_rows (Kd.int .u8) (w0 := w) w.heap.size rfl (.tmp 66) (.tmp 71) 22 5 (.int .u8 0) 1 rfl Try.underlying22 info5 rfl (by decide) (by omega) v249 y248 ((l0_8.take ((ji27) : Int).toNat).drop (x7_2 : Int).toNat) _ _ _ (fun _ => True) (fun _ => False) rfl rfl ?aO ?aR (fun _ _ h => h) (fun _ h => h.elim) ?aF ?aB ?aS ?aL ?_; (case aR => first | (refine len_ (show ((l0_8.take ((ji27) : Int).toNat).drop (x7_2 : Int).toNat).length = ((ji27).toNat - x7_2.toNat) from (by rw [List.length_drop, List.length_take]; have h_ : ((ji27) : Int) ≤ (l0_8.length : Int) := of_decide_eq_true (by first | (with_reducible assumption) | assumption); omega)) ?_; repeat (first | exact (Kd.C_below HR251.out HB.out) | (with_reducible refine Kd.C_alloc ?_ _) | (with_reducible refine Kd.C_drewN ?_ _) | (with_reducible refine Kd.C_drew ?_)); done) | (repeat (first | exact (Kd.C_below HR251.out HB.out) | (with_reducible refine Kd.C_alloc ?_ _) | (with_reducible refine Kd.C_drewN ?_ _) | (with_reducible refine Kd.C_drew ?_)))); (case aB => exact (hbA_ HB.out)); (case aF => exact (fun _ _ => trivial)); (case aO => exact (kR_ HO250.out)); (case aS => exact (below_size (hbA_ HB.out))); (case aL => have := LMc32.out; have hlx_ := (show ((l0_8.take ((ji27) : Int).toNat).drop (x7_2 : Int).toNat).length = ((ji27).toNat - x7_2.toNat) from (by rw [List.length_drop, List.length_take]; have h_ : ((ji27) : Int) ≤ (l0_8.length : Int) := of_decide_eq_true (by first | (with_reducible assumption) | assumption); omega)); omega); intro v253 w43 ho hb hg hat; rw [← Ny252.out] at ho; replace HO_6 := Aside0.mk (Kd.S_after (ok := (fun k_ => k_ ≠ gb241 ∧ k_ ≠ gb247)) (kS_ HO_6.out) hg hat); replace BK241 := (bgA_ BK241 hg (Kd.R_ne HO250.out BK241.out (by decide))); replace BK247 := (bgA_ BK247 hg (Kd.R_ne HO250.out BK247.out (by decide))); replace HB := Aside0.mk (hb); have HO254 := Aside0.mk (ho); clear HO250; clear ho hb hg hat; obtain ⟨Ao44, co44, eo44⟩ := Kd.R_slice HO254.out; subst eo44; have Z45 := zz9 BK247) | ((with_reducible refine gate_dst (N := 77) rfl ?_); (try (refine gate_guard (by rfl) ?_; dsimp only)); refine Kd.S_lit k24 _ 24 ?hg (N := 77) ?hd (xs := ([] : List (S24))) (inner := []) (ok := fun _ => True) (okp := fun _ => True) ?hr ?hp (fun _ hk => hk) trivial (Below.refl _ _) (Nat.le_refl _) (by simp) ?_; (case hd => rfl); (case hg => rfl); (case hr => first | (go_simp; done) | (go_simp; rfl)); (case hp => exact (Reps.none _ _)); intro v256 w46 ho47 hb hg_ hnew_; clear hg_ hnew_; (first | rw [← Ny255.out] at ho47 | (simp only [Int.reduceToNat] at ho47; rw [← Ny255.out] at ho47)); have HO257 := Aside0.mk (Kd.S_lower (Kd.S_newB (Kd.S_newB (Kd.S_new' (Kd.S_new' ho47 (Kd.S_lt (by refine kS_ ?_; exact (nfS_ gb247 HO_6.out (fun _ hk => hk.1.2) (fun _ h_ => op1_ h_))))) (Kd.R_lt (by refine kR_ ?_; exact (Kd.R_mono (Kd.R_f gb247 8 (.slice Ao44 y252.length co44) (Kd.R_types HO254.out BK247.out (by decide))) (fun _ h_ => op1_ h_))))) (g := gb241) (o := .cells #[.int .i64 a0_0, .int .i64 a0_1, .int .i64 a0_2, .int .i64 a0_3, .int .i64 a0_4, .int .i64 a0_5, .bool true, .bool a0_7, .slice A0_8 l0_8.length c0_8] 24 (0, 0)) (by exact kf_ BK241.out)) (g := gb247) (o := .cells #[.int .i64 a0_0, .int .i64 a0_1, .int .i64 a0_2, .int .i64 a0_3, .int .i64 a0_4, .int .i64 (wrap64 (a0_5 + x7_2)), .bool true, .bool a0_7, .slice Ao44 y252.length co44] 24 (0, 0)) (by refine kb_ ?_; refine blk_put (cs := #[.int .i64 a0_0, .int .i64 a0_1, .int .i64 a0_2, .int .i64 a0_3, .int .i64 a0_4, .int .i64 (wrap64 (a0_5 + x7_2)), .bool true, .bool a0_7, .slice A0_8 l0_8.length c0_8]) ?_ 8 _ rfl; refine kb_ ?_; exact BK247.out)) (below_size (hbA_ HB.out))); replace HO_6 := Aside0.mk (Kd.S_elder' (by refine kS_ ?_; exact (nfS_ gb247 HO_6.out (fun _ hk => hk.1.2) (fun _ h_ => op1_ h_))) (Kd.S_base ho47) hb); replace HO254 := Aside0.mk (Kd.R_below (by refine kR_ ?_; exact (Kd.R_mono (Kd.R_f gb247 8 (.slice Ao44 y252.length co44) (Kd.R_types HO254.out BK247.out (by decide))) (fun _ h_ => op1_ h_))) hb); replace BK241 := Aside0.mk (blk_below (g := gb241) (o := .cells #[.int .i64 a0_0, .int .i64 a0_1, .int .i64 a0_2, .int .i64 a0_3, .int .i64 a0_4, .int .i64 a0_5, .bool true, .bool a0_7, .slice A0_8 l0_8.length c0_8] 24 (0, 0)) (by exact kf_ BK241.out) hb); replace BK247 := Aside0.mk (blk_below (g := gb247) (o := .cells #[.int .i64 a0_0, .int .i64 a0_1, .int .i64 a0_2, .int .i64 a0_3, .int .i64 a0_4, .int .i64 (wrap64 (a0_5 + x7_2)), .bool true, .bool a0_7, .slice Ao44 y252.length co44] 24 (0, 0)) (by refine kb_ ?_; refine blk_put (cs := #[.int .i64 a0_0, .int .i64 a0_1, .int .i64 a0_2, .int .i64 a0_3, .int .i64 a0_4, .int .i64 (wrap64 (a0_5 + x7_2)), .bool true, .bool a0_7, .slice A0_8 l0_8.length c0_8]) ?_ 8 _ rfl; refine kb_ ?_; exact BK247.out) hb); replace HB := (bs_ HB hb); clear hb ho47))
               go_ret2
               exact ⟨_, by first | rfl | (simp [errW_none, errW_some] <;> rfl) | (simp only [← hji27]; first | rfl | (simp [errW_none, errW_some] <;> rfl)) | (simp [*, errW_none, errW_some] <;> rfl), by refine kS_ ?_; exact Kd.S_mono HO257.out (fun _ hk => trivial), hbA_ HB.out⟩
              ·rw [if_neg c33] at H
               have c33b0 : decide (255 < (wrap64 (a0_5 + x7_2))) = false := decide_eq_false c33
               clear c33
               by_cases c48 : x6_2.length < 1759218604441
               ·rw [if_pos c48] at H
                have LMc48 := Aside0.mk c48; clear c48
                obtain ⟨y258, hy258⟩ : ∃ y_ : List (S24), y_ = (x6_2 ++ [(⟨a0_0, a0_1, a0_2, a0_3, a0_4, wrap64 (a0_5 + x7_2), true, a0_7, y252⟩ : S24)]) := ⟨_, rfl⟩
                (first | replace H := sb_ hy258 H | rw [← hy258] at H)
                have Ny258 := Aside0.mk hy258; clear hy258
                have H' := Aside0.mk H
                clear H; have Z49 := zz9 BK241
                go_wp2_with (first | ((with_reducible refine gate_dst (N := 8) rfl ?_); (try (refine gate_guard (by rfl) ?_; dsimp only)); refine box_ (N := 8) (cs := #[.int .i64 0, .int .i64 0, .int .i64 0, .int .i64 0, .int .i64 0, .int .i64 0, .bool false, .bool false, .slice none 0 0]) (t := 24) (fun gb247 hg w50 hbox hb => ?_); replace HO_6 := Aside0.mk (Kd.S_below (Kd.S_elderB (kS_ HO_6.out) gb247 (Nat.le_of_eq hg.symm)) hb); have BK247 := Aside0.mk (hbox); have GW247 := ge_ hg HB; have GE247 := ge_ hg HB; replace HB := (bs_ HB hb); have NB241_247 := nl_ hg BK241; have NB247_241 := ng_ hg BK241; replace BK241 := (bbA_ BK241 hb); clear hb hbox hg; have hnb51 := NB247_241.out; have hnc51 := NB241_247.out; have Z52 := zz9 BK247; have Z53 := zz9 BK241) | ((with_reducible refine gate_dst (N := 66) rfl ?_); (try (refine gate_guard (by rfl) ?_; dsimp only)); refine Kd.R_lit (Kd.int .u8) _ 5 ?hg (N := 66) ?hd (xs := ([] : List Int)) (inner := []) (ok := fun _ => True) (okp := fun _ => True) ?hr ?hp (fun _ hk => hk) trivial (Below.refl _ _) (Nat.le_refl _) (by simp) ?_; (case hd => rfl); (case hg => rfl); (case hr => first | (go_simp; done) | (go_simp; rfl)); (case hp => exact (Reps.none _ _)); intro v249 w54 ho55 hb hg_ hnew_; clear hg_ hnew_; (first | rw [← Ny248.out] at ho55 | (simp only [Int.reduceToNat] at ho55; rw [← Ny248.out] at ho55)); replace HO_6 := Aside0.mk (Kd.S_elder' (by refine kS_ ?_; exact (nfS_ gb247 HO_6.out (fun _ hk => hk.2) (fun _ h_ => op1_ h_))) (Kd.R_base ho55) hb); have HO250 := Aside0.mk (Kd.R_lower ho55 (below_size (hbA_ HB.out))); replace BK241 := Aside0.mk (blk_below (g := gb241) (o := .cells #[.int .i64 a0_0, .int .i64 a0_1, .int .i64 a0_2, .int .i64 a0_3, .int .i64 a0_4, .int .i64 a0_5, .bool true, .bool a0_7, .slice A0_8 l0_8.length c0_8] 24 (0, 0)) (by exact kf_ BK241.out) hb); replace BK247 := Aside0.mk (blk_below (g := gb247) (o := .cells #[.int .i64 a0_0, .int .i64 a0_1, .int .i64 a0_2, .int .i64 a0_3, .int .i64 a0_4, .int .i64 (wrap64 (a0_5 + x7_2)), .bool true, .bool a0_7, .slice A0_8 l0_8.length c0_8] 24 (0, 0)) (by refine kb_ ?_; refine blk_put (cs := #[.int .i64 a0_0, .int .i64 a0_1, .int .i64 a0_2, .int .i64 a0_3, .int .i64 a0_4, .int .i64 (wrap64 (a0_5 + x7_2)), .bool true, .bool a0_7, .slice A0_8 l0_8.length c0_8]) ?_ 6 _ rfl; refine kb_ ?_; refine blk_put (cs := #[.int .i64 a0_0, .int .i64 a0_1, .int .i64 a0_2, .int .i64 a0_3, .int .i64 a0_4, .int .i64 a0_5, .bool true, .bool a0_7, .slice A0_8 l0_8.length c0_8]) ?_ 5 _ rfl; refine kb_ ?_; refine pz9 (cs := #[.int .i64 0, .int .i64 0, .int .i64 0, .int .i64 0, .int .i64 0, .int .i64 0, .bool false, .bool false, .slice none 0 0]) ?_; refine kb_ ?_; exact BK247.out) hb); replace HB := (bs_ HB hb); clear hb ho55; have Z56 := zz9 BK241; obtain ⟨i057, hi057, _, hsz57, _⟩ := info_parts info5; obtain ⟨A57, hcut57, hA57, hC57⟩ := print_mid_of (P := Try.prog) (Value.int .u8) 0 22 5 .i64 .i64 Try.underlying22 hi057 hsz57 A0_8 c0_8 l0_8 x7_2 (ji27) (of_decide_eq_true (by first | (with_reducible assumption) | assumption)) (by first | omega | exact of_decide_eq_true (by first | (with_reducible assumption) | assumption)) (of_decide_eq_true (by first | (with_reducible assumption) | assumption)) HC0_8.out; have HR251 := Aside0.mk (Kd.C_of_reads (h1 := fun _ => rfl) (hA57 _ (Kd.reads_of_C HR0_8.out))); have HC251 := Aside0.mk hC57; clear hA57 hC57 hi057 hsz57) | ((with_reducible refine gate_builtin (b := .append) (xs := #[.tmp 66, .tmp 71]) rfl ?_); (try (refine gate_guard (by rfl) ?_; dsimp only)); at_builtin; refine Kd.R_append_rows (Kd.int .u8) (w0 := w) w.heap.size rfl (.tmp 66) (.tmp 71) 22 5 (.int .u8 0) 1 rfl Try.underlying22 info5 rfl (by decide) (by omega) v249 y248 ((l0_8.take ((ji27) : Int).toNat).drop (x7_2 : Int).toNat) _ _ _ (fun _ => True) (fun _ => False) rfl rfl ?aO ?aR (fun _ _ h => h) (fun _ h => h.elim) ?aF ?aB ?aS ?aL ?_; (case aR => first | (refine len_ (show ((l0_8.take ((ji27) : Int).toNat).drop (x7_2 : Int).toNat).length = ((ji27).toNat - x7_2.toNat) from (by rw [List.length_drop, List.length_take]; have h_ : ((ji27) : Int) ≤ (l0_8.length : Int) := of_decide_eq_true (by first | (with_reducible assumption) | assumption); omega)) ?_; repeat (first | exact (Kd.C_below HR251.out HB.out) | (with_reducible refine Kd.C_alloc ?_ _) | (with_reducible refine Kd.C_drewN ?_ _) | (with_reducible refine Kd.C_drew ?_)); done) | (repeat (first | exact (Kd.C_below HR251.out HB.out) | (with_reducible refine Kd.C_alloc ?_ _) | (with_reducible refine Kd.C_drewN ?_ _) | (with_reducible refine Kd.C_drew ?_)))); (case aB => exact (hbA_ HB.out)); (case aF => exact (fun _ _ => trivial)); (case aO => exact (kR_ HO250.out)); (case aS => exact (below_size (hbA_ HB.out))); (case aL => have := LMc32.out; have hlx_ := (show ((l0_8.take ((ji27) : Int).toNat).drop (x7_2 : Int).toNat).length = ((ji27).toNat - x7_2.toNat) from (by rw [List.length_drop, List.length_take]; have h_ : ((ji27) : Int) ≤ (l0_8.length : Int) := of_decide_eq_true (by first | (with_reducible assumption) | assumption); omega)); omega); intro v253 w58 ho hb hg hat; rw [← Ny252.out] at ho; replace HO_6 := Aside0.mk (Kd.S_after (ok := (fun k_ => k_ ≠ gb241 ∧ k_ ≠ gb247)) (kS_ HO_6.out) hg hat); replace BK241 := (bgA_ BK241 hg (Kd.R_ne HO250.out BK241.out (by decide))); replace BK247 := (bgA_ BK247 hg (Kd.R_ne HO250.out BK247.out (by decide))); replace HB := Aside0.mk (hb); have HO254 := Aside0.mk (ho); clear HO250; clear ho hb hg hat; obtain ⟨Ao59, co59, eo59⟩ := Kd.R_slice HO254.out; subst eo59; have Z60 := zz9 BK247) | ((with_reducible refine gate_store (t := 22) (p := 73) rfl ?_); refine store_event (t := 22) (p := 73) (v := ?vo_w61) (w1 := (w58.setCell ⟨gb247, 8, none⟩ (.slice Ao59 y252.length co59))) ?hg ?ho ?hn ?hr ?_; (case ho => rfl); (case hg => rfl); (case hn => rfl); (case hr => first | (go_simp; done) | (go_simp; rfl)); intro w61 hw; have n0_ : Aside0 (Kd.S k24 24 w61 w.heap.size (fun k_ => some k_ ≠ (.slice Ao59 y252.length co59 : Value).ownBlock ∧ k_ ≠ gb241 ∧ k_ ≠ gb247) u6 x6_2) := ⟨(by rw [hw]; exact (by refine kS_ ?_; exact nfS_ gb247 HO_6.out (fun _ hk => hk.1.2) (fun _ hk => ⟨hk.1.2, ⟨hk.1.1.1, hk.1.1.2⟩⟩)))⟩; have n1_ : Aside0 (Kd.R (Kd.int .u8) 5 w61 w.heap.size (fun _ => True) (.slice Ao59 y252.length co59) y252) := ⟨(by rw [hw]; exact (by refine kR_ ?_; exact Kd.R_mono (Kd.R_f gb247 8 (.slice Ao59 y252.length co59) (Kd.R_types HO254.out BK247.out (by decide))) (fun _ hk => trivial)))⟩; have n2_ : Aside0 (w61.heap[gb241]? = some (.cells #[.int .i64 a0_0, .int .i64 a0_1, .int .i64 a0_2, .int .i64 a0_3, .int .i64 a0_4, .int .i64 a0_5, .bool true, .bool a0_7, .slice A0_8 l0_8.length c0_8] 24 (0, 0))) := ⟨(by rw [hw]; exact (by exact kf_ BK241.out))⟩; have n3_ : Aside0 (w61.heap[gb247]? = some (.cells #[.int .i64 a0_0, .int .i64 a0_1, .int .i64 a0_2, .int .i64 a0_3, .int .i64 a0_4, .int .i64 (wrap64 (a0_5 + x7_2)), .bool true, .bool a0_7, .slice Ao59 y252.length co59] 24 (0, 0))) := ⟨(by rw [hw]; exact (by refine kb_ ?_; refine blk_put (cs := #[.int .i64 a0_0, .int .i64 a0_1, .int .i64 a0_2, .int .i64 a0_3, .int .i64 a0_4, .int .i64 (wrap64 (a0_5 + x7_2)), .bool true, .bool a0_7, .slice A0_8 l0_8.length c0_8]) ?_ 8 _ rfl; refine kb_ ?_; exact BK247.out))⟩; have n4_ : Aside0 (Below w.heap.size w w61) := ⟨(by rw [hw]; exact (hbA_ HB.out))⟩; clear hw; clear HO_6; clear HO254; clear BK241; clear BK247; clear HB; have HO_6 := n0_; have HO254 := n1_; have BK241 := n2_; have BK247 := n3_; have HB := n4_; clear n0_ n1_ n2_ n3_ n4_; have Z62 := zz9 BK247) | ((with_reducible refine gate_builtin (b := .append) (xs := #[.tmp 78, .tmp 80]) rfl ?_); (try (refine gate_guard (by rfl) ?_; dsimp only)); at_builtin; refine Kd.S_append k24 (w0 := w) w.heap.size rfl (.tmp 78) (.tmp 80) 27 24 (.agg #[(.int .i64 0), (.int .i64 0), (.int .i64 0), (.int .i64 0), (.int .i64 0), (.int .i64 0), (.bool false), (.bool false), (.slice none 0 0)]) 80 rfl Try.underlying27 info24 rfl (by decide) (by omega) u6 x6_2 (⟨a0_0, a0_1, a0_2, a0_3, a0_4, wrap64 (a0_5 + x7_2), true, a0_7, y252⟩ : S24) [.int .i64 a0_0, .int .i64 a0_1, .int .i64 a0_2, .int .i64 a0_3, .int .i64 a0_4, .int .i64 (wrap64 (a0_5 + x7_2)), .bool true, .bool a0_7, .slice Ao59 y252.length co59] (fun k_ => k_ ≠ gb241 ∧ k_ ≠ gb247) (fun k_ => some k_ = (.slice Ao59 y252.length co59 : Value).ownBlock) rfl rfl ?aP (fun k_ hk_ => ((Kd.R_mono (ok' := fun k_ => ((fun k_ => k_ ≠ gb241 ∧ k_ ≠ gb247)) k_ ∧ some k_ ≠ (u6 : Value).ownBlock) (Kd.R_types (Kd.R_types (Kd.R_apart' (HO254.out) (Kd.S_typed HO_6.out) (by decide)) BK241.out (by decide)) BK247.out (by decide)) (fun k_ hk => ⟨⟨hk.1.2, hk.2⟩, hk.1.1.2⟩))).1 k_ hk_.symm) ?aF ?aO ?aB ?aS ?aL ?_; (case aP => exact k24_mkM _ _ _ (⟨a0_0, a0_1, a0_2, a0_3, a0_4, wrap64 (a0_5 + x7_2), true, a0_7, y252⟩ : S24) (Kd.R_mono (Kd.R_tight rfl (Kd.R_mono (ok' := fun k_ => ((fun k_ => k_ ≠ gb241 ∧ k_ ≠ gb247)) k_ ∧ some k_ ≠ (u6 : Value).ownBlock) (Kd.R_types (Kd.R_types (Kd.R_apart' (HO254.out) (Kd.S_typed HO_6.out) (by decide)) BK241.out (by decide)) BK247.out (by decide)) (fun k_ hk => ⟨⟨hk.1.2, hk.2⟩, hk.1.1.2⟩))) (fun _ h_ => h_))); (case aB => exact (hbA_ HB.out)); (case aF => exact (fun k_ hk => ⟨fb_ BK241 k_ hk, fb_ BK247 k_ hk⟩)); (case aO => exact (by refine kS_ ?_; exact Kd.S_mono HO_6.out (fun k_ hk => ⟨⟨hk.2.1, hk.2.2⟩, fun e_ => hk.1 e_⟩))); (case aS => exact (below_size (hbA_ HB.out))); (case aL => have := LMc48.out; omega); intro v259 w63 ho hb hg hat; rw [← Ny258.out] at ho; replace BK241 := (bgA_ BK241 hg (Kd.S_away HO_6.out (fun _ hk => hk.2.1))); replace BK247 := (bgA_ BK247 hg (Kd.S_away HO_6.out (fun _ hk => hk.2.2))); replace HB := Aside0.mk (hb); have HO260 := Aside0.mk (ho); clear HO_6 HO254; clear ho hb hg hat))
                go_roundg kj22
                case measure => have := HJ2.out; have := HK2.out; have := HJ22.out; omega
                case rel => exact ⟨(y258), (wrap64 (x7_2 + a1)), (by first | rfl | (simp; done) | (simp [*]; done)), H', ⟨by have := HJ2.out; have := HK2.out; have := HJ22.out; omega⟩, ⟨by refine kS_ ?_; exact Kd.S_mono HO260.out (fun _ hk => hk.1)⟩, ⟨by refine kb_ ?_; exact BK241.out⟩, ⟨hbA_ HB.out⟩⟩
               ·rw [if_neg c48] at H
                exact absurd H (by simp)
             ·rw [if_neg c32] at H
              exact absurd H (by simp)
            ·rw [if_neg c31] at H
             exact absurd H (by simp)
           ·rw [if_neg c30] at H
            exact absurd H (by simp)
          ·rw [if_neg c29] at H
           exact absurd H (by simp)
         ·replace c28 := Bool.eq_false_iff.mpr c28
          subst c28
          rw [if_neg (show ¬ (false = true) by decide)] at H
          obtain ⟨y261, hy261⟩ : ∃ y_ : List Int, y_ = (([] : List Int)) := ⟨_, rfl⟩
          (first | replace H := sb_ hy261 H | rw [← hy261] at H)
          have Ny261 := Aside0.mk hy261; clear hy261
          by_cases c64 : 0 ≤ x7_2
          ·rw [if_pos c64] at H
           have c64b0 := eq_true c64
           have c64b1 : decide (0 ≤ x7_2) = true := decide_eq_true c64
           clear c64
           by_cases c65 : x7_2 ≤ (ji27)
           ·rw [if_pos c65] at H
            have c65b0 := eq_true c65
            have c65b1 : decide (x7_2 ≤ (ji27)) = true := decide_eq_true c65
            clear c65
            by_cases c66 : (ji27) ≤ (l0_8.length : Int)
            ·rw [if_pos c66] at H
             have c66b0 := eq_true c66
             have c66b1 : decide ((ji27) ≤ (l0_8.length : Int)) = true := decide_eq_true c66
             clear c66
             by_cases c67 : y261.length + ((l0_8.take ((ji27) : Int).toNat).drop (x7_2 : Int).toNat).length < 140737488355328
             ·rw [if_pos c67] at H
              have LMc67 := Aside0.mk c67; clear c67
              obtain ⟨y265, hy265⟩ : ∃ y_ : List Int, y_ = (y261 ++ ((l0_8.take ((ji27) : Int).toNat).drop (x7_2 : Int).toNat)) := ⟨_, rfl⟩
              (first | replace H := sb_ hy265 H | rw [← hy265] at H)
              have Ny265 := Aside0.mk hy265; clear hy265
              by_cases c68 : (wrap64 (a0_5 + x7_2)) > 255
              ·rw [if_pos c68] at H
               have c68b0 : decide (255 < (wrap64 (a0_5 + x7_2))) = true := decide_eq_true c68
               clear c68
               obtain ⟨y268, hy268⟩ : ∃ y_ : List (S24), y_ = (([] : List (S24))) := ⟨_, rfl⟩
               (first | replace H := sb_ hy268 H | rw [← hy268] at H)
               have Ny268 := Aside0.mk hy268; clear hy268
               simp only [Option.some.injEq, Prod.mk.injEq] at H
               obtain ⟨rfl, rfl⟩ := H
               have Z69 := zz9 BK241
               go_wp2_with (first | ((with_reducible refine gate_dst (N := 8) rfl ?_); (try (refine gate_guard (by rfl) ?_; dsimp only)); refine box_ (N := 8) (cs := #[.int .i64 0, .int .i64 0, .int .i64 0, .int .i64 0, .int .i64 0, .int .i64 0, .bool false, .bool false, .slice none 0 0]) (t := 24) (fun gb247 hg w70 hbox hb => ?_); replace HO_6 := Aside0.mk (Kd.S_below (Kd.S_elderB (kS_ HO_6.out) gb247 (Nat.le_of_eq hg.symm)) hb); have BK247 := Aside0.mk (hbox); have GW247 := ge_ hg HB; have GE247 := ge_ hg HB; replace HB := (bs_ HB hb); have NB241_247 := nl_ hg BK241; have NB247_241 := ng_ hg BK241; replace BK241 := (bbA_ BK241 hb); clear hb hbox hg; have hnb71 := NB247_241.out; have hnc71 := NB241_247.out; have Z72 := zz9 BK247; have Z73 := zz9 BK241) | ((with_reducible refine gate_dst (N := 66) rfl ?_); (try (refine gate_guard (by rfl) ?_; dsimp only)); refine Kd.R_lit (Kd.int .u8) _ 5 ?hg (N := 66) ?hd (xs := ([] : List Int)) (inner := []) (ok := fun _ => True) (okp := fun _ => True) ?hr ?hp (fun _ hk => hk) trivial (Below.refl _ _) (Nat.le_refl _) (by simp) ?_; (case hd => rfl); (case hg => rfl); (case hr => first | (go_simp; done) | (go_simp; rfl)); (case hp => exact (Reps.none _ _)); intro v262 w74 ho75 hb hg_ hnew_; clear hg_ hnew_; (first | rw [← Ny261.out] at ho75 | (simp only [Int.reduceToNat] at ho75; rw [← Ny261.out] at ho75)); replace HO_6 := Aside0.mk (Kd.S_elder' (by refine kS_ ?_; exact (nfS_ gb247 HO_6.out (fun _ hk => hk.2) (fun _ h_ => op1_ h_))) (Kd.R_base ho75) hb); have HO263 := Aside0.mk (Kd.R_lower ho75 (below_size (hbA_ HB.out))); replace BK241 := Aside0.mk (blk_below (g := gb241) (o := .cells #[.int .i64 a0_0, .int .i64 a0_1, .int .i64 a0_2, .int .i64 a0_3, .int .i64 a0_4, .int .i64 a0_5, .bool false, .bool a0_7, .slice A0_8 l0_8.length c0_8] 24 (0, 0)) (by exact kf_ BK241.out) hb); replace BK247 := Aside0.mk (blk_below (g := gb247) (o := .cells #[.int .i64 a0_0, .int .i64 a0_1, .int .i64 a0_2, .int .i64 a0_3, .int .i64 a0_4, .int .i64 (wrap64 (a0_5 + x7_2)), .bool (decide ((ji27) < (l0_8.length : Int))), .bool a0_7, .slice A0_8 l0_8.length c0_8] 24 (0, 0)) (by refine kb_ ?_; refine blk_put (cs := #[.int .i64 a0_0, .int .i64 a0_1, .int .i64 a0_2, .int .i64 a0_3, .int .i64 a0_4, .int .i64 (wrap64 (a0_5 + x7_2)), .bool false, .bool a0_7, .slice A0_8 l0_8.length c0_8]) ?_ 6 _ rfl; refine kb_ ?_; refine blk_put (cs := #[.int .i64 a0_0, .int .i64 a0_1, .int .i64 a0_2, .int .i64 a0_3, .int .i64 a0_4, .int .i64 a0_5, .bool false, .bool a0_7, .slice A0_8 l0_8.length c0_8]) ?_ 5 _ rfl; refine kb_ ?_; refine pz9 (cs := #[.int .i64 0, .int .i64 0, .int .i64 0, .int .i64 0, .int .i64 0, .int .i64 0, .bool false, .bool false, .slice none 0 0]) ?_; refine kb_ ?_; exact BK247.out) hb); replace HB := (bs_ HB hb); clear hb ho75; have Z76 := zz9 BK241; obtain ⟨i077, hi077, _, hsz77, _⟩ := info_parts info5; obtain ⟨A77, hcut77, hA77, hC77⟩ := print_mid_of (P := Try.prog) (Value.int .u8) 0 22 5 .i64 .i64 Try.underlying22 hi077 hsz77 A0_8 c0_8 l0_8 x7_2 (ji27) (of_decide_eq_true (by first | (with_reducible assumption) | assumption)) (by first | omega | exact of_decide_eq_true (by first | (with_reducible assumption) | assumption)) (of_decide_eq_true (by first | (with_reducible assumption) | assumption)) HC0_8.out; have HR264 := Aside0.mk (Kd.C_of_reads (h1 := fun _ => rfl) (hA77 _ (Kd.reads_of_C HR0_8.out))); have HC264 := Aside0.mk hC77; clear hA77 hC77 hi077 hsz77) | ((with_reducible refine gate_builtin (b := .append) (xs := #[.tmp 66, .tmp 71]) rfl ?_); (try (refine gate_guard (by rfl) ?_; dsimp only)); at_builtin; refine Kd.R_append_rows (Kd.int .u8) (w0 := w) w.heap.size rfl (.tmp 66) (.tmp 71) 22 5 (.int .u8 0) 1 rfl Try.underlying22 info5 rfl (by decide) (by omega) v262 y261 ((l0_8.take ((ji27) : Int).toNat).drop (x7_2 : Int).toNat) _ _ _ (fun _ => True) (fun _ => False) rfl rfl ?aO ?aR (fun _ _ h => h) (fun _ h => h.elim) ?aF ?aB ?aS ?aL ?_; (case aR => first | (refine len_ (show ((l0_8.take ((ji27) : Int).toNat).drop (x7_2 : Int).toNat).length = ((ji27).toNat - x7_2.toNat) from (by rw [List.length_drop, List.length_take]; have h_ : ((ji27) : Int) ≤ (l0_8.length : Int) := of_decide_eq_true (by first | (with_reducible assumption) | assumption); omega)) ?_; repeat (first | exact (Kd.C_below HR264.out HB.out) | (with_reducible refine Kd.C_alloc ?_ _) | (with_reducible refine Kd.C_drewN ?_ _) | (with_reducible refine Kd.C_drew ?_)); done) | (repeat (first | exact (Kd.C_below HR264.out HB.out) | (with_reducible refine Kd.C_alloc ?_ _) | (with_reducible refine Kd.C_drewN ?_ _) | (with_reducible refine Kd.C_drew ?_)))); (case aB => exact (hbA_ HB.out)); (case aF => exact (fun _ _ => trivial)); (case aO => exact (kR_ HO263.out)); (case aS => exact (below_size (hbA_ HB.out))); (case aL => have := LMc67.out; have hlx_ := (show ((l0_8.take ((ji27) : Int).toNat).drop (x7_2 : Int).toNat).length = ((ji27).toNat - x7_2.toNat) from (by rw [List.length_drop, List.length_take]; have h_ : ((ji27) : Int) ≤ (l0_8.length : Int) := of_decide_eq_true (by first | (with_reducible assumption) | assumption); omega)); omega); intro v266 w78 ho hb hg hat; rw [← Ny265.out] at ho; replace HO_6 := Aside0.mk (Kd.S_after (ok := (fun k_ => k_ ≠ gb241 ∧ k_ ≠ gb247)) (kS_ HO_6.out) hg hat); replace BK241 := (bgA_ BK241 hg (Kd.R_ne HO263.out BK241.out (by decide))); replace BK247 := (bgA_ BK247 hg (Kd.R_ne HO263.out BK247.out (by decide))); replace HB := Aside0.mk (hb); have HO267 := Aside0.mk (ho); clear HO263; clear ho hb hg hat; obtain ⟨Ao79, co79, eo79⟩ := Kd.R_slice HO267.out; subst eo79; have Z80 := zz9 BK247) | ((with_reducible refine gate_dst (N := 77) rfl ?_); (try (refine gate_guard (by rfl) ?_; dsimp only)); refine Kd.S_lit k24 _ 24 ?hg (N := 77) ?hd (xs := ([] : List (S24))) (inner := []) (ok := fun _ => True) (okp := fun _ => True) ?hr ?hp (fun _ hk => hk) trivial (Below.refl _ _) (Nat.le_refl _) (by simp) ?_; (case hd => rfl); (case hg => rfl); (case hr => first | (go_simp; done) | (go_simp; rfl)); (case hp => exact (Reps.none _ _)); intro v269 w81 ho82 hb hg_ hnew_; clear hg_ hnew_; (first | rw [← Ny268.out] at ho82 | (simp only [Int.reduceToNat] at ho82; rw [← Ny268.out] at ho82)); have HO270 := Aside0.mk (Kd.S_lower (Kd.S_newB (Kd.S_newB (Kd.S_new' (Kd.S_new' ho82 (Kd.S_lt (by refine kS_ ?_; exact (nfS_ gb247 HO_6.out (fun _ hk => hk.1.2) (fun _ h_ => op1_ h_))))) (Kd.R_lt (by refine kR_ ?_; exact (Kd.R_mono (Kd.R_f gb247 8 (.slice Ao79 y265.length co79) (Kd.R_types HO267.out BK247.out (by decide))) (fun _ h_ => op1_ h_))))) (g := gb241) (o := .cells #[.int .i64 a0_0, .int .i64 a0_1, .int .i64 a0_2, .int .i64 a0_3, .int .i64 a0_4, .int .i64 a0_5, .bool false, .bool a0_7, .slice A0_8 l0_8.length c0_8] 24 (0, 0)) (by exact kf_ BK241.out)) (g := gb247) (o := .cells #[.int .i64 a0_0, .int .i64 a0_1, .int .i64 a0_2, .int .i64 a0_3, .int .i64 a0_4, .int .i64 (wrap64 (a0_5 + x7_2)), .bool (decide ((ji27) < (l0_8.length : Int))), .bool a0_7, .slice Ao79 y265.length co79] 24 (0, 0)) (by refine kb_ ?_; refine blk_put (cs := #[.int .i64 a0_0, .int .i64 a0_1, .int .i64 a0_2, .int .i64 a0_3, .int .i64 a0_4, .int .i64 (wrap64 (a0_5 + x7_2)), .bool (decide ((ji27) < (l0_8.length : Int))), .bool a0_7, .slice A0_8 l0_8.length c0_8]) ?_ 8 _ rfl; refine kb_ ?_; exact BK247.out)) (below_size (hbA_ HB.out))); replace HO_6 := Aside0.mk (Kd.S_elder' (by refine kS_ ?_; exact (nfS_ gb247 HO_6.out (fun _ hk => hk.1.2) (fun _ h_ => op1_ h_))) (Kd.S_base ho82) hb); replace HO267 := Aside0.mk (Kd.R_below (by refine kR_ ?_; exact (Kd.R_mono (Kd.R_f gb247 8 (.slice Ao79 y265.length co79) (Kd.R_types HO267.out BK247.out (by decide))) (fun _ h_ => op1_ h_))) hb); replace BK241 := Aside0.mk (blk_below (g := gb241) (o := .cells #[.int .i64 a0_0, .int .i64 a0_1, .int .i64 a0_2, .int .i64 a0_3, .int .i64 a0_4, .int .i64 a0_5, .bool false, .bool a0_7, .slice A0_8 l0_8.length c0_8] 24 (0, 0)) (by exact kf_ BK241.out) hb); replace BK247 := Aside0.mk (blk_below (g := gb247) (o := .cells #[.int .i64 a0_0, .int .i64 a0_1, .int .i64 a0_2, .int .i64 a0_3, .int .i64 a0_4, .int .i64 (wrap64 (a0_5 + x7_2)), .bool (decide ((ji27) < (l0_8.length : Int))), .bool a0_7, .slice Ao79 y265.length co79] 24 (0, 0)) (by refine kb_ ?_; refine blk_put (cs := #[.int .i64 a0_0, .int .i64 a0_1, .int .i64 a0_2, .int .i64 a0_3, .int .i64 a0_4, .int .i64 (wrap64 (a0_5 + x7_2)), .bool (decide ((ji27) < (l0_8.length : Int))), .bool a0_7, .slice A0_8 l0_8.length c0_8]) ?_ 8 _ rfl; refine kb_ ?_; exact BK247.out) hb); replace HB := (bs_ HB hb); clear hb ho82))
               go_ret2
               exact ⟨_, by first | rfl | (simp [errW_none, errW_some] <;> rfl) | (simp only [← hji27]; first | rfl | (simp [errW_none, errW_some] <;> rfl)) | (simp [*, errW_none, errW_some] <;> rfl), by refine kS_ ?_; exact Kd.S_mono HO270.out (fun _ hk => trivial), hbA_ HB.out⟩
              ·rw [if_neg c68] at H
               have c68b0 : decide (255 < (wrap64 (a0_5 + x7_2))) = false := decide_eq_false c68
               clear c68
               by_cases c83 : x6_2.length < 1759218604441
               ·rw [if_pos c83] at H
                have LMc83 := Aside0.mk c83; clear c83
                obtain ⟨y271, hy271⟩ : ∃ y_ : List (S24), y_ = (x6_2 ++ [(⟨a0_0, a0_1, a0_2, a0_3, a0_4, wrap64 (a0_5 + x7_2), decide ((ji27) < (l0_8.length : Int)), a0_7, y265⟩ : S24)]) := ⟨_, rfl⟩
                (first | replace H := sb_ hy271 H | rw [← hy271] at H)
                have Ny271 := Aside0.mk hy271; clear hy271
                have H' := Aside0.mk H
                clear H; have Z84 := zz9 BK241
                go_wp2_with (first | ((with_reducible refine gate_dst (N := 8) rfl ?_); (try (refine gate_guard (by rfl) ?_; dsimp only)); refine box_ (N := 8) (cs := #[.int .i64 0, .int .i64 0, .int .i64 0, .int .i64 0, .int .i64 0, .int .i64 0, .bool false, .bool false, .slice none 0 0]) (t := 24) (fun gb247 hg w85 hbox hb => ?_); replace HO_6 := Aside0.mk (Kd.S_below (Kd.S_elderB (kS_ HO_6.out) gb247 (Nat.le_of_eq hg.symm)) hb); have BK247 := Aside0.mk (hbox); have GW247 := ge_ hg HB; have GE247 := ge_ hg HB; replace HB := (bs_ HB hb); have NB241_247 := nl_ hg BK241; have NB247_241 := ng_ hg BK241; replace BK241 := (bbA_ BK241 hb); clear hb hbox hg; have hnb86 := NB247_241.out; have hnc86 := NB241_247.out; have Z87 := zz9 BK247; have Z88 := zz9 BK241) | ((with_reducible refine gate_dst (N := 66) rfl ?_); (try (refine gate_guard (by rfl) ?_; dsimp only)); refine Kd.R_lit (Kd.int .u8) _ 5 ?hg (N := 66) ?hd (xs := ([] : List Int)) (inner := []) (ok := fun _ => True) (okp := fun _ => True) ?hr ?hp (fun _ hk => hk) trivial (Below.refl _ _) (Nat.le_refl _) (by simp) ?_; (case hd => rfl); (case hg => rfl); (case hr => first | (go_simp; done) | (go_simp; rfl)); (case hp => exact (Reps.none _ _)); intro v262 w89 ho90 hb hg_ hnew_; clear hg_ hnew_; (first | rw [← Ny261.out] at ho90 | (simp only [Int.reduceToNat] at ho90; rw [← Ny261.out] at ho90)); replace HO_6 := Aside0.mk (Kd.S_elder' (by refine kS_ ?_; exact (nfS_ gb247 HO_6.out (fun _ hk => hk.2) (fun _ h_ => op1_ h_))) (Kd.R_base ho90) hb); have HO263 := Aside0.mk (Kd.R_lower ho90 (below_size (hbA_ HB.out))); replace BK241 := Aside0.mk (blk_below (g := gb241) (o := .cells #[.int .i64 a0_0, .int .i64 a0_1, .int .i64 a0_2, .int .i64 a0_3, .int .i64 a0_4, .int .i64 a0_5, .bool false, .bool a0_7, .slice A0_8 l0_8.length c0_8] 24 (0, 0)) (by exact kf_ BK241.out) hb); replace BK247 := Aside0.mk (blk_below (g := gb247) (o := .cells #[.int .i64 a0_0, .int .i64 a0_1, .int .i64 a0_2, .int .i64 a0_3, .int .i64 a0_4, .int .i64 (wrap64 (a0_5 + x7_2)), .bool (decide ((ji27) < (l0_8.length : Int))), .bool a0_7, .slice A0_8 l0_8.length c0_8] 24 (0, 0)) (by refine kb_ ?_; refine blk_put (cs := #[.int .i64 a0_0, .int .i64 a0_1, .int .i64 a0_2, .int .i64 a0_3, .int .i64 a0_4, .int .i64 (wrap64 (a0_5 + x7_2)), .bool false, .bool a0_7, .slice A0_8 l0_8.length c0_8]) ?_ 6 _ rfl; refine kb_ ?_; refine blk_put (cs := #[.int .i64 a0_0, .int .i64 a0_1, .int .i64 a0_2, .int .i64 a0_3, .int .i64 a0_4, .int .i64 a0_5, .bool false, .bool a0_7, .slice A0_8 l0_8.length c0_8]) ?_ 5 _ rfl; refine kb_ ?_; refine pz9 (cs := #[.int .i64 0, .int .i64 0, .int .i64 0, .int .i64 0, .int .i64 0, .int .i64 0, .bool false, .bool false, .slice none 0 0]) ?_; refine kb_ ?_; exact BK247.out) hb); replace HB := (bs_ HB hb); clear hb ho90; have Z91 := zz9 BK241; obtain ⟨i092, hi092, _, hsz92, _⟩ := info_parts info5; obtain ⟨A92, hcut92, hA92, hC92⟩ := print_mid_of (P := Try.prog) (Value.int .u8) 0 22 5 .i64 .i64 Try.underlying22 hi092 hsz92 A0_8 c0_8 l0_8 x7_2 (ji27) (of_decide_eq_true (by first | (with_reducible assumption) | assumption)) (by first | omega | exact of_decide_eq_true (by first | (with_reducible assumption) | assumption)) (of_decide_eq_true (by first | (with_reducible assumption) | assumption)) HC0_8.out; have HR264 := Aside0.mk (Kd.C_of_reads (h1 := fun _ => rfl) (hA92 _ (Kd.reads_of_C HR0_8.out))); have HC264 := Aside0.mk hC92; clear hA92 hC92 hi092 hsz92) | ((with_reducible refine gate_builtin (b := .append) (xs := #[.tmp 66, .tmp 71]) rfl ?_); (try (refine gate_guard (by rfl) ?_; dsimp only)); at_builtin; refine Kd.R_append_rows (Kd.int .u8) (w0 := w) w.heap.size rfl (.tmp 66) (.tmp 71) 22 5 (.int .u8 0) 1 rfl Try.underlying22 info5 rfl (by decide) (by omega) v262 y261 ((l0_8.take ((ji27) : Int).toNat).drop (x7_2 : Int).toNat) _ _ _ (fun _ => True) (fun _ => False) rfl rfl ?aO ?aR (fun _ _ h => h) (fun _ h => h.elim) ?aF ?aB ?aS ?aL ?_; (case aR => first | (refine len_ (show ((l0_8.take ((ji27) : Int).toNat).drop (x7_2 : Int).toNat).length = ((ji27).toNat - x7_2.toNat) from (by rw [List.length_drop, List.length_take]; have h_ : ((ji27) : Int) ≤ (l0_8.length : Int) := of_decide_eq_true (by first | (with_reducible assumption) | assumption); omega)) ?_; repeat (first | exact (Kd.C_below HR264.out HB.out) | (with_reducible refine Kd.C_alloc ?_ _) | (with_reducible refine Kd.C_drewN ?_ _) | (with_reducible refine Kd.C_drew ?_)); done) | (repeat (first | exact (Kd.C_below HR264.out HB.out) | (with_reducible refine Kd.C_alloc ?_ _) | (with_reducible refine Kd.C_drewN ?_ _) | (with_reducible refine Kd.C_drew ?_)))); (case aB => exact (hbA_ HB.out)); (case aF => exact (fun _ _ => trivial)); (case aO => exact (kR_ HO263.out)); (case aS => exact (below_size (hbA_ HB.out))); (case aL => have := LMc67.out; have hlx_ := (show ((l0_8.take ((ji27) : Int).toNat).drop (x7_2 : Int).toNat).length = ((ji27).toNat - x7_2.toNat) from (by rw [List.length_drop, List.length_take]; have h_ : ((ji27) : Int) ≤ (l0_8.length : Int) := of_decide_eq_true (by first | (with_reducible assumption) | assumption); omega)); omega); intro v266 w93 ho hb hg hat; rw [← Ny265.out] at ho; replace HO_6 := Aside0.mk (Kd.S_after (ok := (fun k_ => k_ ≠ gb241 ∧ k_ ≠ gb247)) (kS_ HO_6.out) hg hat); replace BK241 := (bgA_ BK241 hg (Kd.R_ne HO263.out BK241.out (by decide))); replace BK247 := (bgA_ BK247 hg (Kd.R_ne HO263.out BK247.out (by decide))); replace HB := Aside0.mk (hb); have HO267 := Aside0.mk (ho); clear HO263; clear ho hb hg hat; obtain ⟨Ao94, co94, eo94⟩ := Kd.R_slice HO267.out; subst eo94; have Z95 := zz9 BK247) | ((with_reducible refine gate_store (t := 22) (p := 73) rfl ?_); refine store_event (t := 22) (p := 73) (v := ?vo_w96) (w1 := (w93.setCell ⟨gb247, 8, none⟩ (.slice Ao94 y265.length co94))) ?hg ?ho ?hn ?hr ?_; (case ho => rfl); (case hg => rfl); (case hn => rfl); (case hr => first | (go_simp; done) | (go_simp; rfl)); intro w96 hw; have n0_ : Aside0 (Kd.S k24 24 w96 w.heap.size (fun k_ => some k_ ≠ (.slice Ao94 y265.length co94 : Value).ownBlock ∧ k_ ≠ gb241 ∧ k_ ≠ gb247) u6 x6_2) := ⟨(by rw [hw]; exact (by refine kS_ ?_; exact nfS_ gb247 HO_6.out (fun _ hk => hk.1.2) (fun _ hk => ⟨hk.1.2, ⟨hk.1.1.1, hk.1.1.2⟩⟩)))⟩; have n1_ : Aside0 (Kd.R (Kd.int .u8) 5 w96 w.heap.size (fun _ => True) (.slice Ao94 y265.length co94) y265) := ⟨(by rw [hw]; exact (by refine kR_ ?_; exact Kd.R_mono (Kd.R_f gb247 8 (.slice Ao94 y265.length co94) (Kd.R_types HO267.out BK247.out (by decide))) (fun _ hk => trivial)))⟩; have n2_ : Aside0 (w96.heap[gb241]? = some (.cells #[.int .i64 a0_0, .int .i64 a0_1, .int .i64 a0_2, .int .i64 a0_3, .int .i64 a0_4, .int .i64 a0_5, .bool false, .bool a0_7, .slice A0_8 l0_8.length c0_8] 24 (0, 0))) := ⟨(by rw [hw]; exact (by exact kf_ BK241.out))⟩; have n3_ : Aside0 (w96.heap[gb247]? = some (.cells #[.int .i64 a0_0, .int .i64 a0_1, .int .i64 a0_2, .int .i64 a0_3, .int .i64 a0_4, .int .i64 (wrap64 (a0_5 + x7_2)), .bool (decide ((ji27) < (l0_8.length : Int))), .bool a0_7, .slice Ao94 y265.length co94] 24 (0, 0))) := ⟨(by rw [hw]; exact (by refine kb_ ?_; refine blk_put (cs := #[.int .i64 a0_0, .int .i64 a0_1, .int .i64 a0_2, .int .i64 a0_3, .int .i64 a0_4, .int .i64 (wrap64 (a0_5 + x7_2)), .bool (decide ((ji27) < (l0_8.length : Int))), .bool a0_7, .slice A0_8 l0_8.length c0_8]) ?_ 8 _ rfl; refine kb_ ?_; exact BK247.out))⟩; have n4_ : Aside0 (Below w.heap.size w w96) := ⟨(by rw [hw]; exact (hbA_ HB.out))⟩; clear hw; clear HO_6; clear HO267; clear BK241; clear BK247; clear HB; have HO_6 := n0_; have HO267 := n1_; have BK241 := n2_; have BK247 := n3_; have HB := n4_; clear n0_ n1_ n2_ n3_ n4_; have Z97 := zz9 BK247) | ((with_reducible refine gate_builtin (b := .append) (xs := #[.tmp 78, .tmp 80]) rfl ?_); (try (refine gate_guard (by rfl) ?_; dsimp only)); at_builtin; refine Kd.S_append k24 (w0 := w) w.heap.size rfl (.tmp 78) (.tmp 80) 27 24 (.agg #[(.int .i64 0), (.int .i64 0), (.int .i64 0), (.int .i64 0), (.int .i64 0), (.int .i64 0), (.bool false), (.bool false), (.slice none 0 0)]) 80 rfl Try.underlying27 info24 rfl (by decide) (by omega) u6 x6_2 (⟨a0_0, a0_1, a0_2, a0_3, a0_4, wrap64 (a0_5 + x7_2), decide ((ji27) < (l0_8.length : Int)), a0_7, y265⟩ : S24) [.int .i64 a0_0, .int .i64 a0_1, .int .i64 a0_2, .int .i64 a0_3, .int .i64 a0_4, .int .i64 (wrap64 (a0_5 + x7_2)), .bool (decide ((ji27) < (l0_8.length : Int))), .bool a0_7, .slice Ao94 y265.length co94] (fun k_ => k_ ≠ gb241 ∧ k_ ≠ gb247) (fun k_ => some k_ = (.slice Ao94 y265.length co94 : Value).ownBlock) rfl rfl ?aP (fun k_ hk_ => ((Kd.R_mono (ok' := fun k_ => ((fun k_ => k_ ≠ gb241 ∧ k_ ≠ gb247)) k_ ∧ some k_ ≠ (u6 : Value).ownBlock) (Kd.R_types (Kd.R_types (Kd.R_apart' (HO267.out) (Kd.S_typed HO_6.out) (by decide)) BK241.out (by decide)) BK247.out (by decide)) (fun k_ hk => ⟨⟨hk.1.2, hk.2⟩, hk.1.1.2⟩))).1 k_ hk_.symm) ?aF ?aO ?aB ?aS ?aL ?_; (case aP => exact k24_mkM _ _ _ (⟨a0_0, a0_1, a0_2, a0_3, a0_4, wrap64 (a0_5 + x7_2), decide ((ji27) < (l0_8.length : Int)), a0_7, y265⟩ : S24) (Kd.R_mono (Kd.R_tight rfl (Kd.R_mono (ok' := fun k_ => ((fun k_ => k_ ≠ gb241 ∧ k_ ≠ gb247)) k_ ∧ some k_ ≠ (u6 : Value).ownBlock) (Kd.R_types (Kd.R_types (Kd.R_apart' (HO267.out) (Kd.S_typed HO_6.out) (by decide)) BK241.out (by decide)) BK247.out (by decide)) (fun k_ hk => ⟨⟨hk.1.2, hk.2⟩, hk.1.1.2⟩))) (fun _ h_ => h_))); (case aB => exact (hbA_ HB.out)); (case aF => exact (fun k_ hk => ⟨fb_ BK241 k_ hk, fb_ BK247 k_ hk⟩)); (case aO => exact (by refine kS_ ?_; exact Kd.S_mono HO_6.out (fun k_ hk => ⟨⟨hk.2.1, hk.2.2⟩, fun e_ => hk.1 e_⟩))); (case aS => exact (below_size (hbA_ HB.out))); (case aL => have := LMc83.out; omega); intro v272 w98 ho hb hg hat; rw [← Ny271.out] at ho; replace BK241 := (bgA_ BK241 hg (Kd.S_away HO_6.out (fun _ hk => hk.2.1))); replace BK247 := (bgA_ BK247 hg (Kd.S_away HO_6.out (fun _ hk => hk.2.2))); replace HB := Aside0.mk (hb); have HO273 := Aside0.mk (ho); clear HO_6 HO267; clear ho hb hg hat))
                go_roundg kj22
                case measure => have := HJ2.out; have := HK2.out; have := HJ22.out; omega
                case rel => exact ⟨(y271), (wrap64 (x7_2 + a1)), (by first | rfl | (simp; done) | (simp [*]; done)), H', ⟨by have := HJ2.out; have := HK2.out; have := HJ22.out; omega⟩, ⟨by refine kS_ ?_; exact Kd.S_mono HO273.out (fun _ hk => hk.1)⟩, ⟨by refine kb_ ?_; exact BK241.out⟩, ⟨hbA_ HB.out⟩⟩
               ·rw [if_neg c83] at H
                exact absurd H (by simp)
             ·rw [if_neg c67] at H
              exact absurd H (by simp)
            ·rw [if_neg c66] at H
             exact absurd H (by simp)
           ·rw [if_neg c65] at H
            exact absurd H (by simp)
          ·rw [if_neg c64] at H
           exact absurd H (by simp)
        ·replace c26 := Bool.eq_false_iff.mpr c26
         subst c26
         rw [if_neg (show ¬ (false = true) by decide)] at H
         simp only [Option.some.injEq, Prod.mk.injEq] at H
         obtain ⟨rfl, rfl⟩ := H
         go_wp2
         go_ret2
         exact ⟨_, by first | rfl | (simp [errW_none, errW_some] <;> rfl) | (simp [*, errW_none, errW_some] <;> rfl), by refine kS_ ?_; exact Kd.S_mono HO_6.out (fun _ hk => trivial), hbA_ HB.out⟩
def laws_sameBytes.f (l0 : List Int) (l1 : List Int) : Option (Bool) := some ((strOfNums l0).toList == (strOfNums l1).toList)
set_option maxHeartbeats 8000000 in
set_option maxRecDepth 100000 in
theorem laws_sameBytes.calls (A0 : Option Addr) (c0 : Nat) (l0 : List Int) (A1 : Option Addr) (c1 : Nat) (l1 : List Int) (r : Bool) (w : World) (hr0 : Kd.C (Kd.int .u8) w A0 l0.length l0) (hc0 : l0.length ≤ c0) (hr1 : Kd.C (Kd.int .u8) w A1 l1.length l1) (hc1 : l1.length ≤ c1) (h : laws_sameBytes.f l0 l1 = some r) :
  Calls Try.prog 15 #[.slice A0 l0.length c0, .slice A1 l1.length c1] w fun e w' => e = .returned (.bool r) ∧ Drawn0 w w' := by
 have HR0 := Aside0.mk hr0; have HC0 := Aside0.mk hc0; clear hr0 hc0; have HR1 := Aside0.mk hr1; have HC1 := Aside0.mk hc1; clear hr1 hc1
 have H : (some ((strOfNums l0).toList == (strOfNums l1).toList)) = some r := h
 clear h
 obtain rfl := Option.some.inj H
 have hcv3 := Kd.C_string (P := Try.prog) (A := A0) (c := c0) Try.underlying22 Try.underlying5 Try.underlying9 HR0.out
 have hcv4 := Kd.C_string (P := Try.prog) (A := A1) (c := c1) Try.underlying22 Try.underlying5 Try.underlying9 HR1.out
 go_enter Try.func15, Try.ntmps15
 go_wp2
 go_ret
 exact ⟨by first | rfl | (simp; done) | (simp [*]; done), by repeat (first | exact Drawn0.refl _ | apply Drawn0.step)⟩
def laws_samePacket.f (a0_0 : Int) (a0_1 : Int) (a0_2 : Int) (a0_3 : Int) (a0_4 : Int) (a0_5 : Int) (a0_6 : Bool) (a0_7 : Bool) (l0_8 : List Int) (a1_0 : Int) (a1_1 : Int) (a1_2 : Int) (a1_3 : Int) (a1_4 : Int) (a1_5 : Int) (a1_6 : Bool) (a1_7 : Bool) (l1_8 : List Int) : Option (Bool) := if a0_0 = a1_0 then (if a0_1 = a1_1 then (if a0_2 = a1_2 then (if a0_3 = a1_3 then (if a0_4 = a1_4 then (if a0_5 = a1_5 then (if (a0_6 == a1_6) = true then (if (a0_7 == a1_7) = true then ((laws_sameBytes.f l0_8 l1_8).bind fun t276 => (some t276)) else (some false)) else (some false)) else (some false)) else (some false)) else (some false)) else (some false)) else (some false)) else (some false)
set_option maxHeartbeats 8000000 in
set_option maxRecDepth 100000 in
theorem laws_samePacket.calls (a0_0 : Int) (a0_1 : Int) (a0_2 : Int) (a0_3 : Int) (a0_4 : Int) (a0_5 : Int) (a0_6 : Bool) (a0_7 : Bool) (A0_8 : Option Addr) (c0_8 : Nat) (l0_8 : List Int) (a1_0 : Int) (a1_1 : Int) (a1_2 : Int) (a1_3 : Int) (a1_4 : Int) (a1_5 : Int) (a1_6 : Bool) (a1_7 : Bool) (A1_8 : Option Addr) (c1_8 : Nat) (l1_8 : List Int) (r : Bool) (w : World) (hr0_8 : Kd.C (Kd.int .u8) w A0_8 l0_8.length l0_8) (hc0_8 : l0_8.length ≤ c0_8) (hr1_8 : Kd.C (Kd.int .u8) w A1_8 l1_8.length l1_8) (hc1_8 : l1_8.length ≤ c1_8) (h : laws_samePacket.f a0_0 a0_1 a0_2 a0_3 a0_4 a0_5 a0_6 a0_7 l0_8 a1_0 a1_1 a1_2 a1_3 a1_4 a1_5 a1_6 a1_7 l1_8 = some r) :
  Calls Try.prog 60 #[.agg #[.int .i64 a0_0, .int .i64 a0_1, .int .i64 a0_2, .int .i64 a0_3, .int .i64 a0_4, .int .i64 a0_5, .bool a0_6, .bool a0_7, .slice A0_8 l0_8.length c0_8], .agg #[.int .i64 a1_0, .int .i64 a1_1, .int .i64 a1_2, .int .i64 a1_3, .int .i64 a1_4, .int .i64 a1_5, .bool a1_6, .bool a1_7, .slice A1_8 l1_8.length c1_8]] w fun e w' => e = .returned (.bool r) ∧ Below w.heap.size w w' := by
 have hu24 := Try.underlying24; have HR0_8 := Aside0.mk hr0_8; have HC0_8 := Aside0.mk hc0_8; clear hr0_8 hc0_8; have HR1_8 := Aside0.mk hr1_8; have HC1_8 := Aside0.mk hc1_8; clear hr1_8 hc1_8
 have HB := Aside0.mk (Below.refl w.heap.size w)
 have H : (if a0_0 = a1_0 then (if a0_1 = a1_1 then (if a0_2 = a1_2 then (if a0_3 = a1_3 then (if a0_4 = a1_4 then (if a0_5 = a1_5 then (if (a0_6 == a1_6) = true then (if (a0_7 == a1_7) = true then ((laws_sameBytes.f l0_8 l1_8).bind fun t276 => (some t276)) else (some false)) else (some false)) else (some false)) else (some false)) else (some false)) else (some false)) else (some false)) else (some false)) = some r := h
 clear h
 by_cases c3 : a0_0 = a1_0
 ·rw [if_pos c3] at H
  have c3b0 : (a0_0 == a1_0) = true := beq_iff_eq.mpr c3
  have c3b1 : (a0_0 != a1_0) = false := bne_eq_false_iff_eq.mpr c3
  clear c3
  by_cases c4 : a0_1 = a1_1
  ·rw [if_pos c4] at H
   have c4b0 : (a0_1 == a1_1) = true := beq_iff_eq.mpr c4
   have c4b1 : (a0_1 != a1_1) = false := bne_eq_false_iff_eq.mpr c4
   clear c4
   by_cases c5 : a0_2 = a1_2
   ·rw [if_pos c5] at H
    have c5b0 : (a0_2 == a1_2) = true := beq_iff_eq.mpr c5
    have c5b1 : (a0_2 != a1_2) = false := bne_eq_false_iff_eq.mpr c5
    clear c5
    by_cases c6 : a0_3 = a1_3
    ·rw [if_pos c6] at H
     have c6b0 : (a0_3 == a1_3) = true := beq_iff_eq.mpr c6
     have c6b1 : (a0_3 != a1_3) = false := bne_eq_false_iff_eq.mpr c6
     clear c6
     by_cases c7 : a0_4 = a1_4
     ·rw [if_pos c7] at H
      have c7b0 : (a0_4 == a1_4) = true := beq_iff_eq.mpr c7
      have c7b1 : (a0_4 != a1_4) = false := bne_eq_false_iff_eq.mpr c7
      clear c7
      by_cases c8 : a0_5 = a1_5
      ·rw [if_pos c8] at H
       have c8b0 : (a0_5 == a1_5) = true := beq_iff_eq.mpr c8
       have c8b1 : (a0_5 != a1_5) = false := bne_eq_false_iff_eq.mpr c8
       clear c8
       by_cases c9 : (a0_6 == a1_6) = true
       ·rw [if_pos c9] at H
        have c9b0 : (a0_6 == a1_6) = true := c9
        (try (have c9b1 : decide (a0_6 = a1_6) = true := by simpa using c9))
        (try (have c9b2 : (a0_6 == a1_6) = true := by simpa using c9))
        clear c9
        by_cases c10 : (a0_7 == a1_7) = true
        ·rw [if_pos c10] at H
         have c10b0 : (a0_7 == a1_7) = true := c10
         (try (have c10b1 : decide (a0_7 = a1_7) = true := by simpa using c10))
         (try (have c10b2 : (a0_7 == a1_7) = true := by simpa using c10))
         clear c10
         replace H := Option.bind_eq_some_iff.mp H
         obtain ⟨t276, A110, H⟩ := H
         (try dsimp only at H)
         have A11 := Aside0.mk A110; clear A110
         obtain rfl := Option.some.inj H
         go_enter Try.func60, Try.ntmps60
         go_wp2_with (first | ((with_reducible refine gate_dst (N := 2) rfl ?_); refine box_ (N := 2) (cs := #[.int .i64 a0_0, .int .i64 a0_1, .int .i64 a0_2, .int .i64 a0_3, .int .i64 a0_4, .int .i64 a0_5, .bool a0_6, .bool a0_7, .slice A0_8 l0_8.length c0_8]) (t := 24) (fun gb274 hg w12 hbox hb => ?_); have BK274 := Aside0.mk (hbox); have GW274 := ge_ hg HB; have GE274 := ge_ hg HB; replace HB := (bs_ HB hb); clear hb hbox hg) | ((with_reducible refine gate_dst (N := 3) rfl ?_); refine box_ (N := 3) (cs := #[.int .i64 a1_0, .int .i64 a1_1, .int .i64 a1_2, .int .i64 a1_3, .int .i64 a1_4, .int .i64 a1_5, .bool a1_6, .bool a1_7, .slice A1_8 l1_8.length c1_8]) (t := 24) (fun gb275 hg w13 hbox hb => ?_); have BK275 := Aside0.mk (hbox); have GW275 := ge_ hg HB; have GE275 := ge_ hg HB; replace HB := (bs_ HB hb); have NB274_275 := nl_ hg BK274; have NB275_274 := ng_ hg BK274; replace BK274 := (bbA_ BK274 hb); clear hb hbox hg; have hnb14 := NB274_275.out; have hnc14 := NB275_274.out; have Z15 := zz9 BK274; have Z16 := zz9 BK275) | (go_at_call 15; (with_reducible refine (laws_sameBytes.calls _ _ l0_8 _ _ l1_8 t276 _ ?side1 ?side2 ?side3 ?side4 A11.out).mono ?_); (case side1 => exact kC_ (Kd.C_below HR0_8.out HB.out)); (case side2 => exact HC0_8.out); (case side3 => exact kC_ (Kd.C_below HR1_8.out HB.out)); (case side4 => exact HC1_8.out); rintro e w' ⟨rfl, ⟨nd, rfl⟩⟩))
         go_ret
         exact ⟨by first | rfl | (simp [errW_none, errW_some] <;> rfl) | (simp [*, errW_none, errW_some] <;> rfl), hbA_ HB.out⟩
        ·rw [if_neg c10] at H
         have c10b0 : (a0_7 == a1_7) = false := by simpa using c10
         (try (have c10b1 : decide (a0_7 = a1_7) = false := by simpa using c10))
         (try (have c10b2 : (a0_7 == a1_7) = false := by simpa using c10))
         (try (have c10b3 : ¬ (a0_7 = a1_7) := by simpa using c10))
         clear c10
         obtain rfl := Option.some.inj H
         go_enter Try.func60, Try.ntmps60
         go_wp2_with (first | ((with_reducible refine gate_dst (N := 2) rfl ?_); refine box_ (N := 2) (cs := #[.int .i64 a0_0, .int .i64 a0_1, .int .i64 a0_2, .int .i64 a0_3, .int .i64 a0_4, .int .i64 a0_5, .bool a0_6, .bool a0_7, .slice A0_8 l0_8.length c0_8]) (t := 24) (fun gb274 hg w17 hbox hb => ?_); have BK274 := Aside0.mk (hbox); have GW274 := ge_ hg HB; have GE274 := ge_ hg HB; replace HB := (bs_ HB hb); clear hb hbox hg) | ((with_reducible refine gate_dst (N := 3) rfl ?_); refine box_ (N := 3) (cs := #[.int .i64 a1_0, .int .i64 a1_1, .int .i64 a1_2, .int .i64 a1_3, .int .i64 a1_4, .int .i64 a1_5, .bool a1_6, .bool a1_7, .slice A1_8 l1_8.length c1_8]) (t := 24) (fun gb275 hg w18 hbox hb => ?_); have BK275 := Aside0.mk (hbox); have GW275 := ge_ hg HB; have GE275 := ge_ hg HB; replace HB := (bs_ HB hb); have NB274_275 := nl_ hg BK274; have NB275_274 := ng_ hg BK274; replace BK274 := (bbA_ BK274 hb); clear hb hbox hg; have hnb19 := NB274_275.out; have hnc19 := NB275_274.out; have Z20 := zz9 BK274; have Z21 := zz9 BK275))
         go_ret
         exact ⟨by first | rfl | (simp [errW_none, errW_some] <;> rfl) | (simp [*, errW_none, errW_some] <;> rfl), hbA_ HB.out⟩
       ·rw [if_neg c9] at H
        have c9b0 : (a0_6 == a1_6) = false := by simpa using c9
        (try (have c9b1 : decide (a0_6 = a1_6) = false := by simpa using c9))
        (try (have c9b2 : (a0_6 == a1_6) = false := by simpa using c9))
        (try (have c9b3 : ¬ (a0_6 = a1_6) := by simpa using c9))
        clear c9
        obtain rfl := Option.some.inj H
        go_enter Try.func60, Try.ntmps60
        go_wp2_with (first | ((with_reducible refine gate_dst (N := 2) rfl ?_); refine box_ (N := 2) (cs := #[.int .i64 a0_0, .int .i64 a0_1, .int .i64 a0_2, .int .i64 a0_3, .int .i64 a0_4, .int .i64 a0_5, .bool a0_6, .bool a0_7, .slice A0_8 l0_8.length c0_8]) (t := 24) (fun gb274 hg w22 hbox hb => ?_); have BK274 := Aside0.mk (hbox); have GW274 := ge_ hg HB; have GE274 := ge_ hg HB; replace HB := (bs_ HB hb); clear hb hbox hg) | ((with_reducible refine gate_dst (N := 3) rfl ?_); refine box_ (N := 3) (cs := #[.int .i64 a1_0, .int .i64 a1_1, .int .i64 a1_2, .int .i64 a1_3, .int .i64 a1_4, .int .i64 a1_5, .bool a1_6, .bool a1_7, .slice A1_8 l1_8.length c1_8]) (t := 24) (fun gb275 hg w23 hbox hb => ?_); have BK275 := Aside0.mk (hbox); have GW275 := ge_ hg HB; have GE275 := ge_ hg HB; replace HB := (bs_ HB hb); have NB274_275 := nl_ hg BK274; have NB275_274 := ng_ hg BK274; replace BK274 := (bbA_ BK274 hb); clear hb hbox hg; have hnb24 := NB274_275.out; have hnc24 := NB275_274.out; have Z25 := zz9 BK274; have Z26 := zz9 BK275))
        go_ret
        exact ⟨by first | rfl | (simp [errW_none, errW_some] <;> rfl) | (simp [*, errW_none, errW_some] <;> rfl), hbA_ HB.out⟩
      ·rw [if_neg c8] at H
       have c8b0 : (a0_5 == a1_5) = false := beq_eq_false_iff_ne.mpr c8
       have c8b1 : (a0_5 != a1_5) = true := bne_iff_ne.mpr c8
       obtain rfl := Option.some.inj H
       go_enter Try.func60, Try.ntmps60
       go_wp2_with (first | ((with_reducible refine gate_dst (N := 2) rfl ?_); refine box_ (N := 2) (cs := #[.int .i64 a0_0, .int .i64 a0_1, .int .i64 a0_2, .int .i64 a0_3, .int .i64 a0_4, .int .i64 a0_5, .bool a0_6, .bool a0_7, .slice A0_8 l0_8.length c0_8]) (t := 24) (fun gb274 hg w27 hbox hb => ?_); have BK274 := Aside0.mk (hbox); have GW274 := ge_ hg HB; have GE274 := ge_ hg HB; replace HB := (bs_ HB hb); clear hb hbox hg) | ((with_reducible refine gate_dst (N := 3) rfl ?_); refine box_ (N := 3) (cs := #[.int .i64 a1_0, .int .i64 a1_1, .int .i64 a1_2, .int .i64 a1_3, .int .i64 a1_4, .int .i64 a1_5, .bool a1_6, .bool a1_7, .slice A1_8 l1_8.length c1_8]) (t := 24) (fun gb275 hg w28 hbox hb => ?_); have BK275 := Aside0.mk (hbox); have GW275 := ge_ hg HB; have GE275 := ge_ hg HB; replace HB := (bs_ HB hb); have NB274_275 := nl_ hg BK274; have NB275_274 := ng_ hg BK274; replace BK274 := (bbA_ BK274 hb); clear hb hbox hg; have hnb29 := NB274_275.out; have hnc29 := NB275_274.out; have Z30 := zz9 BK274; have Z31 := zz9 BK275))
       go_ret
       exact ⟨by first | rfl | (simp [errW_none, errW_some] <;> rfl) | (simp [*, errW_none, errW_some] <;> rfl), hbA_ HB.out⟩
     ·rw [if_neg c7] at H
      have c7b0 : (a0_4 == a1_4) = false := beq_eq_false_iff_ne.mpr c7
      have c7b1 : (a0_4 != a1_4) = true := bne_iff_ne.mpr c7
      obtain rfl := Option.some.inj H
      go_enter Try.func60, Try.ntmps60
      go_wp2_with (first | ((with_reducible refine gate_dst (N := 2) rfl ?_); refine box_ (N := 2) (cs := #[.int .i64 a0_0, .int .i64 a0_1, .int .i64 a0_2, .int .i64 a0_3, .int .i64 a0_4, .int .i64 a0_5, .bool a0_6, .bool a0_7, .slice A0_8 l0_8.length c0_8]) (t := 24) (fun gb274 hg w32 hbox hb => ?_); have BK274 := Aside0.mk (hbox); have GW274 := ge_ hg HB; have GE274 := ge_ hg HB; replace HB := (bs_ HB hb); clear hb hbox hg) | ((with_reducible refine gate_dst (N := 3) rfl ?_); refine box_ (N := 3) (cs := #[.int .i64 a1_0, .int .i64 a1_1, .int .i64 a1_2, .int .i64 a1_3, .int .i64 a1_4, .int .i64 a1_5, .bool a1_6, .bool a1_7, .slice A1_8 l1_8.length c1_8]) (t := 24) (fun gb275 hg w33 hbox hb => ?_); have BK275 := Aside0.mk (hbox); have GW275 := ge_ hg HB; have GE275 := ge_ hg HB; replace HB := (bs_ HB hb); have NB274_275 := nl_ hg BK274; have NB275_274 := ng_ hg BK274; replace BK274 := (bbA_ BK274 hb); clear hb hbox hg; have hnb34 := NB274_275.out; have hnc34 := NB275_274.out; have Z35 := zz9 BK274; have Z36 := zz9 BK275))
      go_ret
      exact ⟨by first | rfl | (simp [errW_none, errW_some] <;> rfl) | (simp [*, errW_none, errW_some] <;> rfl), hbA_ HB.out⟩
    ·rw [if_neg c6] at H
     have c6b0 : (a0_3 == a1_3) = false := beq_eq_false_iff_ne.mpr c6
     have c6b1 : (a0_3 != a1_3) = true := bne_iff_ne.mpr c6
     obtain rfl := Option.some.inj H
     go_enter Try.func60, Try.ntmps60
     go_wp2_with (first | ((with_reducible refine gate_dst (N := 2) rfl ?_); refine box_ (N := 2) (cs := #[.int .i64 a0_0, .int .i64 a0_1, .int .i64 a0_2, .int .i64 a0_3, .int .i64 a0_4, .int .i64 a0_5, .bool a0_6, .bool a0_7, .slice A0_8 l0_8.length c0_8]) (t := 24) (fun gb274 hg w37 hbox hb => ?_); have BK274 := Aside0.mk (hbox); have GW274 := ge_ hg HB; have GE274 := ge_ hg HB; replace HB := (bs_ HB hb); clear hb hbox hg) | ((with_reducible refine gate_dst (N := 3) rfl ?_); refine box_ (N := 3) (cs := #[.int .i64 a1_0, .int .i64 a1_1, .int .i64 a1_2, .int .i64 a1_3, .int .i64 a1_4, .int .i64 a1_5, .bool a1_6, .bool a1_7, .slice A1_8 l1_8.length c1_8]) (t := 24) (fun gb275 hg w38 hbox hb => ?_); have BK275 := Aside0.mk (hbox); have GW275 := ge_ hg HB; have GE275 := ge_ hg HB; replace HB := (bs_ HB hb); have NB274_275 := nl_ hg BK274; have NB275_274 := ng_ hg BK274; replace BK274 := (bbA_ BK274 hb); clear hb hbox hg; have hnb39 := NB274_275.out; have hnc39 := NB275_274.out; have Z40 := zz9 BK274; have Z41 := zz9 BK275))
     go_ret
     exact ⟨by first | rfl | (simp [errW_none, errW_some] <;> rfl) | (simp [*, errW_none, errW_some] <;> rfl), hbA_ HB.out⟩
   ·rw [if_neg c5] at H
    have c5b0 : (a0_2 == a1_2) = false := beq_eq_false_iff_ne.mpr c5
    have c5b1 : (a0_2 != a1_2) = true := bne_iff_ne.mpr c5
    obtain rfl := Option.some.inj H
    go_enter Try.func60, Try.ntmps60
    go_wp2_with (first | ((with_reducible refine gate_dst (N := 2) rfl ?_); refine box_ (N := 2) (cs := #[.int .i64 a0_0, .int .i64 a0_1, .int .i64 a0_2, .int .i64 a0_3, .int .i64 a0_4, .int .i64 a0_5, .bool a0_6, .bool a0_7, .slice A0_8 l0_8.length c0_8]) (t := 24) (fun gb274 hg w42 hbox hb => ?_); have BK274 := Aside0.mk (hbox); have GW274 := ge_ hg HB; have GE274 := ge_ hg HB; replace HB := (bs_ HB hb); clear hb hbox hg) | ((with_reducible refine gate_dst (N := 3) rfl ?_); refine box_ (N := 3) (cs := #[.int .i64 a1_0, .int .i64 a1_1, .int .i64 a1_2, .int .i64 a1_3, .int .i64 a1_4, .int .i64 a1_5, .bool a1_6, .bool a1_7, .slice A1_8 l1_8.length c1_8]) (t := 24) (fun gb275 hg w43 hbox hb => ?_); have BK275 := Aside0.mk (hbox); have GW275 := ge_ hg HB; have GE275 := ge_ hg HB; replace HB := (bs_ HB hb); have NB274_275 := nl_ hg BK274; have NB275_274 := ng_ hg BK274; replace BK274 := (bbA_ BK274 hb); clear hb hbox hg; have hnb44 := NB274_275.out; have hnc44 := NB275_274.out; have Z45 := zz9 BK274; have Z46 := zz9 BK275))
    go_ret
    exact ⟨by first | rfl | (simp [errW_none, errW_some] <;> rfl) | (simp [*, errW_none, errW_some] <;> rfl), hbA_ HB.out⟩
  ·rw [if_neg c4] at H
   have c4b0 : (a0_1 == a1_1) = false := beq_eq_false_iff_ne.mpr c4
   have c4b1 : (a0_1 != a1_1) = true := bne_iff_ne.mpr c4
   obtain rfl := Option.some.inj H
   go_enter Try.func60, Try.ntmps60
   go_wp2_with (first | ((with_reducible refine gate_dst (N := 2) rfl ?_); refine box_ (N := 2) (cs := #[.int .i64 a0_0, .int .i64 a0_1, .int .i64 a0_2, .int .i64 a0_3, .int .i64 a0_4, .int .i64 a0_5, .bool a0_6, .bool a0_7, .slice A0_8 l0_8.length c0_8]) (t := 24) (fun gb274 hg w47 hbox hb => ?_); have BK274 := Aside0.mk (hbox); have GW274 := ge_ hg HB; have GE274 := ge_ hg HB; replace HB := (bs_ HB hb); clear hb hbox hg) | ((with_reducible refine gate_dst (N := 3) rfl ?_); refine box_ (N := 3) (cs := #[.int .i64 a1_0, .int .i64 a1_1, .int .i64 a1_2, .int .i64 a1_3, .int .i64 a1_4, .int .i64 a1_5, .bool a1_6, .bool a1_7, .slice A1_8 l1_8.length c1_8]) (t := 24) (fun gb275 hg w48 hbox hb => ?_); have BK275 := Aside0.mk (hbox); have GW275 := ge_ hg HB; have GE275 := ge_ hg HB; replace HB := (bs_ HB hb); have NB274_275 := nl_ hg BK274; have NB275_274 := ng_ hg BK274; replace BK274 := (bbA_ BK274 hb); clear hb hbox hg; have hnb49 := NB274_275.out; have hnc49 := NB275_274.out; have Z50 := zz9 BK274; have Z51 := zz9 BK275))
   go_ret
   exact ⟨by first | rfl | (simp [errW_none, errW_some] <;> rfl) | (simp [*, errW_none, errW_some] <;> rfl), hbA_ HB.out⟩
 ·rw [if_neg c3] at H
  have c3b0 : (a0_0 == a1_0) = false := beq_eq_false_iff_ne.mpr c3
  have c3b1 : (a0_0 != a1_0) = true := bne_iff_ne.mpr c3
  obtain rfl := Option.some.inj H
  go_enter Try.func60, Try.ntmps60
  go_wp2_with (first | ((with_reducible refine gate_dst (N := 2) rfl ?_); refine box_ (N := 2) (cs := #[.int .i64 a0_0, .int .i64 a0_1, .int .i64 a0_2, .int .i64 a0_3, .int .i64 a0_4, .int .i64 a0_5, .bool a0_6, .bool a0_7, .slice A0_8 l0_8.length c0_8]) (t := 24) (fun gb274 hg w52 hbox hb => ?_); have BK274 := Aside0.mk (hbox); have GW274 := ge_ hg HB; have GE274 := ge_ hg HB; replace HB := (bs_ HB hb); clear hb hbox hg) | ((with_reducible refine gate_dst (N := 3) rfl ?_); refine box_ (N := 3) (cs := #[.int .i64 a1_0, .int .i64 a1_1, .int .i64 a1_2, .int .i64 a1_3, .int .i64 a1_4, .int .i64 a1_5, .bool a1_6, .bool a1_7, .slice A1_8 l1_8.length c1_8]) (t := 24) (fun gb275 hg w53 hbox hb => ?_); have BK275 := Aside0.mk (hbox); have GW275 := ge_ hg HB; have GE275 := ge_ hg HB; replace HB := (bs_ HB hb); have NB274_275 := nl_ hg BK274; have NB275_274 := ng_ hg BK274; replace BK274 := (bbA_ BK274 hb); clear hb hbox hg; have hnb54 := NB274_275.out; have hnc54 := NB275_274.out; have Z55 := zz9 BK274; have Z56 := zz9 BK275))
  go_ret
  exact ⟨by first | rfl | (simp [errW_none, errW_some] <;> rfl) | (simp [*, errW_none, errW_some] <;> rfl), hbA_ HB.out⟩
def laws_samePackets.l0 : Nat → List (S24) → List (S24) → Int → Option (Bool)
 | 0, _, _, _ => none
 | k + 1, x0, x1, x5 => if x5 < (x0.length : Int) then (if 0 ≤ x5 then (if x5 < (x1.length : Int) then ((laws_samePacket.f ((rd_T24 x0 x5).f0) ((rd_T24 x0 x5).f1) ((rd_T24 x0 x5).f2) ((rd_T24 x0 x5).f3) ((rd_T24 x0 x5).f4) ((rd_T24 x0 x5).f5) ((rd_T24 x0 x5).f6) ((rd_T24 x0 x5).f7) ((rd_T24 x0 x5).f8) ((rd_T24 x1 x5).f0) ((rd_T24 x1 x5).f1) ((rd_T24 x1 x5).f2) ((rd_T24 x1 x5).f3) ((rd_T24 x1 x5).f4) ((rd_T24 x1 x5).f5) ((rd_T24 x1 x5).f6) ((rd_T24 x1 x5).f7) ((rd_T24 x1 x5).f8)).bind fun t279 => (if t279 = true then (laws_samePackets.l0 k x0 x1 (wrap64 (x5 + 1))) else (some false))) else (none)) else (none)) else (some true)
def laws_samePackets.f (k : Nat) (l0 : List (S24)) (l1 : List (S24)) : Option (Bool) := if (l0.length : Int) = (l1.length : Int) then (laws_samePackets.l0 k l0 l1 0) else (some false)
theorem laws_samePackets.mono_l : ∀ k, (∀ y0 y1 y2, LeO (laws_samePackets.l0 k y0 y1 y2) (laws_samePackets.l0 (k + 1) y0 y1 y2))
 | 0 => fun _ _ _ r h => by simp [laws_samePackets.l0] at h
 | k + 1 => by
  have ih0 := laws_samePackets.mono_l k
  ·intro y0 y1 y2
   unfold laws_samePackets.l0
   repeat' first | (with_reducible first | apply ih0 | exact LeO.refl _ | exact LeO.none _ | refine LeO.ite ?_ ?_ | refine LeO.bind ?_ fun _ => ?_) | apply ih0 | exact LeO.none _ | refine LeO.ite ?_ ?_ | refine LeO.bind ?_ fun _ => ?_
theorem laws_samePackets.mono : ∀ a0 a1 k, LeO (laws_samePackets.f k a0 a1) (laws_samePackets.f (k + 1) a0 a1) := by
 intro a0 a1 k
 have ih0 := laws_samePackets.mono_l k
 unfold laws_samePackets.f
 repeat' first | (with_reducible first | apply ih0 | exact LeO.refl _ | exact LeO.none _ | refine LeO.ite ?_ ?_ | refine LeO.bind ?_ fun _ => ?_) | apply ih0 | exact LeO.none _ | refine LeO.ite ?_ ?_ | refine LeO.bind ?_ fun _ => ?_
def laws_samePackets.T6 : Bool × List (List Nat × List Nat) := (true, [([], []), ([], []), ([0, 1], [0, 1]), ([2], [2]), ([], []), ([], []), ([4, 5], [4, 5]), ([6], [6]), ([3, 7], [3, 7]), ([8], [8])])
def laws_samePackets.B6 : List Nat := [0, 0, 3, 7, 0, 0, 48, 112, 255, 511]
theorem laws_samePackets.tab6 : rtab .any (opsOf Try.f12 6) = laws_samePackets.T6 := by kernel_rfl
theorem laws_samePackets.bits6 : waitsOk laws_samePackets.T6.2 laws_samePackets.B6 = true := by kernel_rfl
set_option maxHeartbeats 8000000 in
set_option maxRecDepth 100000 in
theorem laws_samePackets.calls (k : Nat) (A0 : Option Addr) (c0 : Nat) (l0 : List (S24)) (A1 : Option Addr) (c1 : Nat) (l1 : List (S24)) (r : Bool) (w : World) (hr0 : Kd.C k24 w A0 l0.length l0) (hc0 : l0.length ≤ c0) (hr1 : Kd.C k24 w A1 l1.length l1) (hc1 : l1.length ≤ c1) (h : laws_samePackets.f k l0 l1 = some r) :
  Calls Try.prog 12 #[.slice A0 l0.length c0, .slice A1 l1.length c1] w fun e w' => e = .returned (.bool r) ∧ Below w.heap.size w w' := by
 have hu24 := Try.underlying24; have HR0 := Aside0.mk hr0; have HC0 := Aside0.mk hc0; clear hr0 hc0; have HR1 := Aside0.mk hr1; have HC1 := Aside0.mk hc1; clear hr1 hc1
 have HB := Aside0.mk (Below.refl w.heap.size w)
 have H : (if (l0.length : Int) = (l1.length : Int) then (laws_samePackets.l0 k l0 l1 0) else (some false)) = some r := h
 clear h
 by_cases c3 : (l0.length : Int) = (l1.length : Int)
 ·rw [if_pos c3] at H
  have c3b0 : ((l0.length : Int) == (l1.length : Int)) = true := beq_iff_eq.mpr c3
  have c3b1 : ((l0.length : Int) != (l1.length : Int)) = false := bne_eq_false_iff_eq.mpr c3
  have c3b2 : (l0.length == l1.length) = true := by first | simpa using c3 | (simp at c3 ⊢; omega)
  clear c3
  have H' := Aside0.mk H
  clear H
  go_enter Try.func12, Try.ntmps12
  go_wp2
  go_loopg [5] k (fun kq v5 w' => ∃ (x5_1 : Int), v5 = .int .i64 x5_1 ∧ Aside0 (laws_samePackets.l0 kq l0 l1 x5_1 = some r) ∧ Aside0 (kq ≤ k) ∧ Aside0 (Below w.heap.size w w'))
  case atStart => exact ⟨(0), (by first | rfl | (simp; done) | (simp [*]; done)), H', ⟨Nat.le_refl _⟩, ⟨hbA_ HB.out⟩⟩
  case round =>
   clear H'; (try clear c1); (try clear p2); (try clear c3); (try clear c3b0); (try clear c3b1); (try clear c3b2)
   obtain ⟨x5_1, rfl, HA, HK1, HB⟩ := hrel
   cases gk with
   | zero => exact absurd HA.out (by simp [laws_samePackets.l0])
   | succ k1 =>
    have H := HA.out; clear HA
    simp only [laws_samePackets.l0] at H
    by_cases c4 : x5_1 < (l0.length : Int)
    ·rw [if_pos c4] at H
     have c4b0 : decide (x5_1 < (l0.length : Int)) = true := decide_eq_true c4
     clear c4
     by_cases c5 : 0 ≤ x5_1
     ·rw [if_pos c5] at H
      have c5b0 : decide (0 ≤ x5_1) = true := decide_eq_true c5
      clear c5
      by_cases c6 : x5_1 < (l1.length : Int)
      ·rw [if_pos c6] at H
       have c6b0 : decide (x5_1 < (l1.length : Int)) = true := decide_eq_true c6
       clear c6
       replace H := Option.bind_eq_some_iff.mp H
       obtain ⟨t279, A70, H⟩ := H
       (try dsimp only at H)
       have A7 := Aside0.mk A70; clear A70
       by_cases c8 : t279 = true
       ·subst c8
        rw [if_pos rfl] at H
        have H' := Aside0.mk H
        clear H
        try go_wp2
        replace HB := (bd_ HB)
        have p277 : 0 ≤ (x5_1 : Int) := of_decide_eq_true (by first | (with_reducible assumption) | assumption)
        have q277 : x5_1 < (l0.length : Int) := of_decide_eq_true (by first | (with_reducible assumption) | assumption)
        obtain ⟨ad277, A277_8, c277_8, e277, hx277_0, hx277_1, hx277_2, hx277_3, hx277_4, hx277_5, hx277_6, hx277_7, hx277_8, hl277_8, hi277_8⟩ := at_T24 HR0.out x5_1 p277 q277
        have hw277_8 := hx277_8; have hw277_7 := hx277_7; have hw277_6 := hx277_6; have hw277_5 := hx277_5; have hw277_4 := hx277_4; have hw277_3 := hx277_3; have hw277_2 := hx277_2; have hw277_1 := hx277_1; have hw277_0 := hx277_0
        cases e277
        replace hx277_0 := cc_ HB hx277_0
        replace hx277_1 := cc_ HB hx277_1
        replace hx277_2 := cc_ HB hx277_2
        replace hx277_3 := cc_ HB hx277_3
        replace hx277_4 := cc_ HB hx277_4
        replace hx277_5 := cc_ HB hx277_5
        replace hx277_6 := cc_ HB hx277_6
        replace hx277_7 := cc_ HB hx277_7
        replace hx277_8 := cc_ HB hx277_8
        have HR277_8 := Aside0.mk hi277_8; have HC277_8 := Aside0.mk hl277_8; clear hi277_8 hl277_8
        replace p277 := eq_true p277
        replace q277 := eq_true q277
        have p278 : 0 ≤ (x5_1 : Int) := of_decide_eq_true (by first | (with_reducible assumption) | assumption)
        have q278 : x5_1 < (l1.length : Int) := of_decide_eq_true (by first | (with_reducible assumption) | assumption)
        obtain ⟨ad278, A278_8, c278_8, e278, hx278_0, hx278_1, hx278_2, hx278_3, hx278_4, hx278_5, hx278_6, hx278_7, hx278_8, hl278_8, hi278_8⟩ := at_T24 HR1.out x5_1 p278 q278
        have hw278_8 := hx278_8; have hw278_7 := hx278_7; have hw278_6 := hx278_6; have hw278_5 := hx278_5; have hw278_4 := hx278_4; have hw278_3 := hx278_3; have hw278_2 := hx278_2; have hw278_1 := hx278_1; have hw278_0 := hx278_0
        cases e278
        replace hx278_0 := cc_ HB hx278_0
        replace hx278_1 := cc_ HB hx278_1
        replace hx278_2 := cc_ HB hx278_2
        replace hx278_3 := cc_ HB hx278_3
        replace hx278_4 := cc_ HB hx278_4
        replace hx278_5 := cc_ HB hx278_5
        replace hx278_6 := cc_ HB hx278_6
        replace hx278_7 := cc_ HB hx278_7
        replace hx278_8 := cc_ HB hx278_8
        have HR278_8 := Aside0.mk hi278_8; have HC278_8 := Aside0.mk hl278_8; clear hi278_8 hl278_8
        replace p278 := eq_true p278
        replace q278 := eq_true q278
        refine start_ (n := 10) (S := fun w' => w'.cell? (ad277.add ((x5_1).toNat * 9)) = some (.int .i64 ((rd_T24 l0 x5_1).f0)) ∧ w'.cell? ⟨(ad277.add ((x5_1).toNat * 9)).block, (ad277.add ((x5_1).toNat * 9)).off + 1, none⟩ = some (.int .i64 ((rd_T24 l0 x5_1).f1)) ∧ w'.cell? ⟨(ad277.add ((x5_1).toNat * 9)).block, (ad277.add ((x5_1).toNat * 9)).off + 2, none⟩ = some (.int .i64 ((rd_T24 l0 x5_1).f2)) ∧ w'.cell? ⟨(ad277.add ((x5_1).toNat * 9)).block, (ad277.add ((x5_1).toNat * 9)).off + 3, none⟩ = some (.int .i64 ((rd_T24 l0 x5_1).f3)) ∧ w'.cell? ⟨(ad277.add ((x5_1).toNat * 9)).block, (ad277.add ((x5_1).toNat * 9)).off + 4, none⟩ = some (.int .i64 ((rd_T24 l0 x5_1).f4)) ∧ w'.cell? ⟨(ad277.add ((x5_1).toNat * 9)).block, (ad277.add ((x5_1).toNat * 9)).off + 5, none⟩ = some (.int .i64 ((rd_T24 l0 x5_1).f5)) ∧ w'.cell? ⟨(ad277.add ((x5_1).toNat * 9)).block, (ad277.add ((x5_1).toNat * 9)).off + 6, none⟩ = some (.bool ((rd_T24 l0 x5_1).f6)) ∧ w'.cell? ⟨(ad277.add ((x5_1).toNat * 9)).block, (ad277.add ((x5_1).toNat * 9)).off + 7, none⟩ = some (.bool ((rd_T24 l0 x5_1).f7)) ∧ w'.cell? ⟨(ad277.add ((x5_1).toNat * 9)).block, (ad277.add ((x5_1).toNat * 9)).off + 8, none⟩ = some (.slice A277_8 ((rd_T24 l0 x5_1).f8).length c277_8) ∧ w'.cell? (ad278.add ((x5_1).toNat * 9)) = some (.int .i64 ((rd_T24 l1 x5_1).f0)) ∧ w'.cell? ⟨(ad278.add ((x5_1).toNat * 9)).block, (ad278.add ((x5_1).toNat * 9)).off + 1, none⟩ = some (.int .i64 ((rd_T24 l1 x5_1).f1)) ∧ w'.cell? ⟨(ad278.add ((x5_1).toNat * 9)).block, (ad278.add ((x5_1).toNat * 9)).off + 2, none⟩ = some (.int .i64 ((rd_T24 l1 x5_1).f2)) ∧ w'.cell? ⟨(ad278.add ((x5_1).toNat * 9)).block, (ad278.add ((x5_1).toNat * 9)).off + 3, none⟩ = some (.int .i64 ((rd_T24 l1 x5_1).f3)) ∧ w'.cell? ⟨(ad278.add ((x5_1).toNat * 9)).block, (ad278.add ((x5_1).toNat * 9)).off + 4, none⟩ = some (.int .i64 ((rd_T24 l1 x5_1).f4)) ∧ w'.cell? ⟨(ad278.add ((x5_1).toNat * 9)).block, (ad278.add ((x5_1).toNat * 9)).off + 5, none⟩ = some (.int .i64 ((rd_T24 l1 x5_1).f5)) ∧ w'.cell? ⟨(ad278.add ((x5_1).toNat * 9)).block, (ad278.add ((x5_1).toNat * 9)).off + 6, none⟩ = some (.bool ((rd_T24 l1 x5_1).f6)) ∧ w'.cell? ⟨(ad278.add ((x5_1).toNat * 9)).block, (ad278.add ((x5_1).toNat * 9)).off + 7, none⟩ = some (.bool ((rd_T24 l1 x5_1).f7)) ∧ w'.cell? ⟨(ad278.add ((x5_1).toNat * 9)).block, (ad278.add ((x5_1).toNat * 9)).off + 8, none⟩ = some (.slice A278_8 ((rd_T24 l1 x5_1).f8).length c278_8)) (ds := []) #[false, false, false, false, false, false, false, false, false, false] (by kernel_rfl) rfl rfl ⟨(cc_ HB hw277_0), (cc_ HB hw277_1), (cc_ HB hw277_2), (cc_ HB hw277_3), (cc_ HB hw277_4), (cc_ HB hw277_5), (cc_ HB hw277_6), (cc_ HB hw277_7), (cc_ HB hw277_8), (cc_ HB hw278_0), (cc_ HB hw278_1), (cc_ HB hw278_2), (cc_ HB hw278_3), (cc_ HB hw278_4), (cc_ HB hw278_5), (cc_ HB hw278_6), (cc_ HB hw278_7), (cc_ HB hw278_8)⟩ (fun hHeld => ?_); refine with_tabW laws_samePackets.tab6 laws_samePackets.bits6 (fun HT_ HW_ => ?_)
        generalize wr.drew = w9 at HB HR277_8 HR278_8 hx277_0 hx277_1 hx277_2 hx277_3 hx277_4 hx277_5 hx277_6 hx277_7 hx277_8 hx278_0 hx278_1 hx278_2 hx278_3 hx278_4 hx278_5 hx278_6 hx278_7 hx278_8 hHeld ⊢
        refine pu_ (i := 0) (N := some 17) HT_ ?_; refine pu_ (i := 1) (N := some 18) HT_ ?_; refine pu_ (i := 2) (N := some 19) HT_ ?_; refine pu_ (i := 4) (N := some 21) HT_ ?_; refine pu_ (i := 5) (N := some 22) HT_ ?_; refine pu_ (i := 6) (N := some 23) HT_ ?_; refine tk_ (i := 3) (N := some 20) HT_ HW_ hHeld ?_; refine tk_ (i := 7) (N := some 24) HT_ HW_ hHeld ?_
        refine on_ (i := 8) (N := some 25) HT_ (fun K hK => ?_)
        refine goes_ Try.func60 (by kernel_rfl) rfl #[.agg #[.int .i64 ((rd_T24 l0 x5_1).f0), .int .i64 ((rd_T24 l0 x5_1).f1), .int .i64 ((rd_T24 l0 x5_1).f2), .int .i64 ((rd_T24 l0 x5_1).f3), .int .i64 ((rd_T24 l0 x5_1).f4), .int .i64 ((rd_T24 l0 x5_1).f5), .bool ((rd_T24 l0 x5_1).f6), .bool ((rd_T24 l0 x5_1).f7), .slice A277_8 ((rd_T24 l0 x5_1).f8).length c277_8], .agg #[.int .i64 ((rd_T24 l1 x5_1).f0), .int .i64 ((rd_T24 l1 x5_1).f1), .int .i64 ((rd_T24 l1 x5_1).f2), .int .i64 ((rd_T24 l1 x5_1).f3), .int .i64 ((rd_T24 l1 x5_1).f4), .int .i64 ((rd_T24 l1 x5_1).f5), .bool ((rd_T24 l1 x5_1).f6), .bool ((rd_T24 l1 x5_1).f7), .slice A278_8 ((rd_T24 l1 x5_1).f8).length c278_8]] (by rfl) rfl rfl ar_ ?_
        with_reducible refine (laws_samePacket.calls ((rd_T24 l0 x5_1).f0) ((rd_T24 l0 x5_1).f1) ((rd_T24 l0 x5_1).f2) ((rd_T24 l0 x5_1).f3) ((rd_T24 l0 x5_1).f4) ((rd_T24 l0 x5_1).f5) ((rd_T24 l0 x5_1).f6) ((rd_T24 l0 x5_1).f7) _ _ ((rd_T24 l0 x5_1).f8) ((rd_T24 l1 x5_1).f0) ((rd_T24 l1 x5_1).f1) ((rd_T24 l1 x5_1).f2) ((rd_T24 l1 x5_1).f3) ((rd_T24 l1 x5_1).f4) ((rd_T24 l1 x5_1).f5) ((rd_T24 l1 x5_1).f6) ((rd_T24 l1 x5_1).f7) _ _ ((rd_T24 l1 x5_1).f8) true _ ?side1 ?side2 ?side3 ?side4 A7.out).mono ?_
        (case side1 => exact kC_ (Kd.C_below HR277_8.out HB.out))
        (case side2 => exact HC277_8.out)
        (case side3 => exact kC_ (Kd.C_below HR278_8.out HB.out))
        (case side4 => exact HC278_8.out)
        rintro e w10 ⟨rfl, hb⟩
        refine ⟨_, rfl, ?_⟩
        replace HB := (bs_ HB hb); (try clear hb); (try clear hb2); (try clear hk); (try clear hi)
        refine hK.out _ _ ⟨(by first | exact cc_ HB hw277_0 | exact cc_ ⟨hbA_ HB.out⟩ hw277_0), (by first | exact cc_ HB hw277_1 | exact cc_ ⟨hbA_ HB.out⟩ hw277_1), (by first | exact cc_ HB hw277_2 | exact cc_ ⟨hbA_ HB.out⟩ hw277_2), (by first | exact cc_ HB hw277_3 | exact cc_ ⟨hbA_ HB.out⟩ hw277_3), (by first | exact cc_ HB hw277_4 | exact cc_ ⟨hbA_ HB.out⟩ hw277_4), (by first | exact cc_ HB hw277_5 | exact cc_ ⟨hbA_ HB.out⟩ hw277_5), (by first | exact cc_ HB hw277_6 | exact cc_ ⟨hbA_ HB.out⟩ hw277_6), (by first | exact cc_ HB hw277_7 | exact cc_ ⟨hbA_ HB.out⟩ hw277_7), (by first | exact cc_ HB hw277_8 | exact cc_ ⟨hbA_ HB.out⟩ hw277_8), (by first | exact cc_ HB hw278_0 | exact cc_ ⟨hbA_ HB.out⟩ hw278_0), (by first | exact cc_ HB hw278_1 | exact cc_ ⟨hbA_ HB.out⟩ hw278_1), (by first | exact cc_ HB hw278_2 | exact cc_ ⟨hbA_ HB.out⟩ hw278_2), (by first | exact cc_ HB hw278_3 | exact cc_ ⟨hbA_ HB.out⟩ hw278_3), (by first | exact cc_ HB hw278_4 | exact cc_ ⟨hbA_ HB.out⟩ hw278_4), (by first | exact cc_ HB hw278_5 | exact cc_ ⟨hbA_ HB.out⟩ hw278_5), (by first | exact cc_ HB hw278_6 | exact cc_ ⟨hbA_ HB.out⟩ hw278_6), (by first | exact cc_ HB hw278_7 | exact cc_ ⟨hbA_ HB.out⟩ hw278_7), (by first | exact cc_ HB hw278_8 | exact cc_ ⟨hbA_ HB.out⟩ hw278_8)⟩ (fun hHeld => ?_)
        clear hK K; refine nm_ 25 ?_; refine pu_ (i := 9) (N := some 26) HT_ ?_
        refine done_ (done_of HT_.out (by kernel_rfl)) ?_
        try go_wp2
        go_roundg k1
        case measure => have := HK1.out; omega
        case rel => exact ⟨(wrap64 (x5_1 + 1)), (by first | rfl | (simp; done) | (simp [*]; done)), H', ⟨by have := HK1.out; omega⟩, ⟨hbA_ HB.out⟩⟩
       ·replace c8 := Bool.eq_false_iff.mpr c8
        subst c8
        rw [if_neg (show ¬ (false = true) by decide)] at H
        obtain rfl := Option.some.inj H
        try go_wp2
        replace HB := (bd_ HB)
        have p277 : 0 ≤ (x5_1 : Int) := of_decide_eq_true (by first | (with_reducible assumption) | assumption)
        have q277 : x5_1 < (l0.length : Int) := of_decide_eq_true (by first | (with_reducible assumption) | assumption)
        obtain ⟨ad277, A277_8, c277_8, e277, hx277_0, hx277_1, hx277_2, hx277_3, hx277_4, hx277_5, hx277_6, hx277_7, hx277_8, hl277_8, hi277_8⟩ := at_T24 HR0.out x5_1 p277 q277
        have hw277_8 := hx277_8; have hw277_7 := hx277_7; have hw277_6 := hx277_6; have hw277_5 := hx277_5; have hw277_4 := hx277_4; have hw277_3 := hx277_3; have hw277_2 := hx277_2; have hw277_1 := hx277_1; have hw277_0 := hx277_0
        cases e277
        replace hx277_0 := cc_ HB hx277_0
        replace hx277_1 := cc_ HB hx277_1
        replace hx277_2 := cc_ HB hx277_2
        replace hx277_3 := cc_ HB hx277_3
        replace hx277_4 := cc_ HB hx277_4
        replace hx277_5 := cc_ HB hx277_5
        replace hx277_6 := cc_ HB hx277_6
        replace hx277_7 := cc_ HB hx277_7
        replace hx277_8 := cc_ HB hx277_8
        have HR277_8 := Aside0.mk hi277_8; have HC277_8 := Aside0.mk hl277_8; clear hi277_8 hl277_8
        replace p277 := eq_true p277
        replace q277 := eq_true q277
        have p278 : 0 ≤ (x5_1 : Int) := of_decide_eq_true (by first | (with_reducible assumption) | assumption)
        have q278 : x5_1 < (l1.length : Int) := of_decide_eq_true (by first | (with_reducible assumption) | assumption)
        obtain ⟨ad278, A278_8, c278_8, e278, hx278_0, hx278_1, hx278_2, hx278_3, hx278_4, hx278_5, hx278_6, hx278_7, hx278_8, hl278_8, hi278_8⟩ := at_T24 HR1.out x5_1 p278 q278
        have hw278_8 := hx278_8; have hw278_7 := hx278_7; have hw278_6 := hx278_6; have hw278_5 := hx278_5; have hw278_4 := hx278_4; have hw278_3 := hx278_3; have hw278_2 := hx278_2; have hw278_1 := hx278_1; have hw278_0 := hx278_0
        cases e278
        replace hx278_0 := cc_ HB hx278_0
        replace hx278_1 := cc_ HB hx278_1
        replace hx278_2 := cc_ HB hx278_2
        replace hx278_3 := cc_ HB hx278_3
        replace hx278_4 := cc_ HB hx278_4
        replace hx278_5 := cc_ HB hx278_5
        replace hx278_6 := cc_ HB hx278_6
        replace hx278_7 := cc_ HB hx278_7
        replace hx278_8 := cc_ HB hx278_8
        have HR278_8 := Aside0.mk hi278_8; have HC278_8 := Aside0.mk hl278_8; clear hi278_8 hl278_8
        replace p278 := eq_true p278
        replace q278 := eq_true q278
        refine start_ (n := 10) (S := fun w' => w'.cell? (ad277.add ((x5_1).toNat * 9)) = some (.int .i64 ((rd_T24 l0 x5_1).f0)) ∧ w'.cell? ⟨(ad277.add ((x5_1).toNat * 9)).block, (ad277.add ((x5_1).toNat * 9)).off + 1, none⟩ = some (.int .i64 ((rd_T24 l0 x5_1).f1)) ∧ w'.cell? ⟨(ad277.add ((x5_1).toNat * 9)).block, (ad277.add ((x5_1).toNat * 9)).off + 2, none⟩ = some (.int .i64 ((rd_T24 l0 x5_1).f2)) ∧ w'.cell? ⟨(ad277.add ((x5_1).toNat * 9)).block, (ad277.add ((x5_1).toNat * 9)).off + 3, none⟩ = some (.int .i64 ((rd_T24 l0 x5_1).f3)) ∧ w'.cell? ⟨(ad277.add ((x5_1).toNat * 9)).block, (ad277.add ((x5_1).toNat * 9)).off + 4, none⟩ = some (.int .i64 ((rd_T24 l0 x5_1).f4)) ∧ w'.cell? ⟨(ad277.add ((x5_1).toNat * 9)).block, (ad277.add ((x5_1).toNat * 9)).off + 5, none⟩ = some (.int .i64 ((rd_T24 l0 x5_1).f5)) ∧ w'.cell? ⟨(ad277.add ((x5_1).toNat * 9)).block, (ad277.add ((x5_1).toNat * 9)).off + 6, none⟩ = some (.bool ((rd_T24 l0 x5_1).f6)) ∧ w'.cell? ⟨(ad277.add ((x5_1).toNat * 9)).block, (ad277.add ((x5_1).toNat * 9)).off + 7, none⟩ = some (.bool ((rd_T24 l0 x5_1).f7)) ∧ w'.cell? ⟨(ad277.add ((x5_1).toNat * 9)).block, (ad277.add ((x5_1).toNat * 9)).off + 8, none⟩ = some (.slice A277_8 ((rd_T24 l0 x5_1).f8).length c277_8) ∧ w'.cell? (ad278.add ((x5_1).toNat * 9)) = some (.int .i64 ((rd_T24 l1 x5_1).f0)) ∧ w'.cell? ⟨(ad278.add ((x5_1).toNat * 9)).block, (ad278.add ((x5_1).toNat * 9)).off + 1, none⟩ = some (.int .i64 ((rd_T24 l1 x5_1).f1)) ∧ w'.cell? ⟨(ad278.add ((x5_1).toNat * 9)).block, (ad278.add ((x5_1).toNat * 9)).off + 2, none⟩ = some (.int .i64 ((rd_T24 l1 x5_1).f2)) ∧ w'.cell? ⟨(ad278.add ((x5_1).toNat * 9)).block, (ad278.add ((x5_1).toNat * 9)).off + 3, none⟩ = some (.int .i64 ((rd_T24 l1 x5_1).f3)) ∧ w'.cell? ⟨(ad278.add ((x5_1).toNat * 9)).block, (ad278.add ((x5_1).toNat * 9)).off + 4, none⟩ = some (.int .i64 ((rd_T24 l1 x5_1).f4)) ∧ w'.cell? ⟨(ad278.add ((x5_1).toNat * 9)).block, (ad278.add ((x5_1).toNat * 9)).off + 5, none⟩ = some (.int .i64 ((rd_T24 l1 x5_1).f5)) ∧ w'.cell? ⟨(ad278.add ((x5_1).toNat * 9)).block, (ad278.add ((x5_1).toNat * 9)).off + 6, none⟩ = some (.bool ((rd_T24 l1 x5_1).f6)) ∧ w'.cell? ⟨(ad278.add ((x5_1).toNat * 9)).block, (ad278.add ((x5_1).toNat * 9)).off + 7, none⟩ = some (.bool ((rd_T24 l1 x5_1).f7)) ∧ w'.cell? ⟨(ad278.add ((x5_1).toNat * 9)).block, (ad278.add ((x5_1).toNat * 9)).off + 8, none⟩ = some (.slice A278_8 ((rd_T24 l1 x5_1).f8).length c278_8)) (ds := []) #[false, false, false, false, false, false, false, false, false, false] (by kernel_rfl) rfl rfl ⟨(cc_ HB hw277_0), (cc_ HB hw277_1), (cc_ HB hw277_2), (cc_ HB hw277_3), (cc_ HB hw277_4), (cc_ HB hw277_5), (cc_ HB hw277_6), (cc_ HB hw277_7), (cc_ HB hw277_8), (cc_ HB hw278_0), (cc_ HB hw278_1), (cc_ HB hw278_2), (cc_ HB hw278_3), (cc_ HB hw278_4), (cc_ HB hw278_5), (cc_ HB hw278_6), (cc_ HB hw278_7), (cc_ HB hw278_8)⟩ (fun hHeld => ?_); refine with_tabW laws_samePackets.tab6 laws_samePackets.bits6 (fun HT_ HW_ => ?_)
        generalize wr.drew = w11 at HB HR277_8 HR278_8 hx277_0 hx277_1 hx277_2 hx277_3 hx277_4 hx277_5 hx277_6 hx277_7 hx277_8 hx278_0 hx278_1 hx278_2 hx278_3 hx278_4 hx278_5 hx278_6 hx278_7 hx278_8 hHeld ⊢
        refine pu_ (i := 0) (N := some 17) HT_ ?_; refine pu_ (i := 1) (N := some 18) HT_ ?_; refine pu_ (i := 2) (N := some 19) HT_ ?_; refine pu_ (i := 4) (N := some 21) HT_ ?_; refine pu_ (i := 5) (N := some 22) HT_ ?_; refine pu_ (i := 6) (N := some 23) HT_ ?_; refine tk_ (i := 3) (N := some 20) HT_ HW_ hHeld ?_; refine tk_ (i := 7) (N := some 24) HT_ HW_ hHeld ?_
        refine on_ (i := 8) (N := some 25) HT_ (fun K hK => ?_)
        refine goes_ Try.func60 (by kernel_rfl) rfl #[.agg #[.int .i64 ((rd_T24 l0 x5_1).f0), .int .i64 ((rd_T24 l0 x5_1).f1), .int .i64 ((rd_T24 l0 x5_1).f2), .int .i64 ((rd_T24 l0 x5_1).f3), .int .i64 ((rd_T24 l0 x5_1).f4), .int .i64 ((rd_T24 l0 x5_1).f5), .bool ((rd_T24 l0 x5_1).f6), .bool ((rd_T24 l0 x5_1).f7), .slice A277_8 ((rd_T24 l0 x5_1).f8).length c277_8], .agg #[.int .i64 ((rd_T24 l1 x5_1).f0), .int .i64 ((rd_T24 l1 x5_1).f1), .int .i64 ((rd_T24 l1 x5_1).f2), .int .i64 ((rd_T24 l1 x5_1).f3), .int .i64 ((rd_T24 l1 x5_1).f4), .int .i64 ((rd_T24 l1 x5_1).f5), .bool ((rd_T24 l1 x5_1).f6), .bool ((rd_T24 l1 x5_1).f7), .slice A278_8 ((rd_T24 l1 x5_1).f8).length c278_8]] (by rfl) rfl rfl ar_ ?_
        with_reducible refine (laws_samePacket.calls ((rd_T24 l0 x5_1).f0) ((rd_T24 l0 x5_1).f1) ((rd_T24 l0 x5_1).f2) ((rd_T24 l0 x5_1).f3) ((rd_T24 l0 x5_1).f4) ((rd_T24 l0 x5_1).f5) ((rd_T24 l0 x5_1).f6) ((rd_T24 l0 x5_1).f7) _ _ ((rd_T24 l0 x5_1).f8) ((rd_T24 l1 x5_1).f0) ((rd_T24 l1 x5_1).f1) ((rd_T24 l1 x5_1).f2) ((rd_T24 l1 x5_1).f3) ((rd_T24 l1 x5_1).f4) ((rd_T24 l1 x5_1).f5) ((rd_T24 l1 x5_1).f6) ((rd_T24 l1 x5_1).f7) _ _ ((rd_T24 l1 x5_1).f8) false _ ?side1 ?side2 ?side3 ?side4 A7.out).mono ?_
        (case side1 => exact kC_ (Kd.C_below HR277_8.out HB.out))
        (case side2 => exact HC277_8.out)
        (case side3 => exact kC_ (Kd.C_below HR278_8.out HB.out))
        (case side4 => exact HC278_8.out)
        rintro e w12 ⟨rfl, hb⟩
        refine ⟨_, rfl, ?_⟩
        replace HB := (bs_ HB hb); (try clear hb); (try clear hb2); (try clear hk); (try clear hi)
        refine hK.out _ _ ⟨(by first | exact cc_ HB hw277_0 | exact cc_ ⟨hbA_ HB.out⟩ hw277_0), (by first | exact cc_ HB hw277_1 | exact cc_ ⟨hbA_ HB.out⟩ hw277_1), (by first | exact cc_ HB hw277_2 | exact cc_ ⟨hbA_ HB.out⟩ hw277_2), (by first | exact cc_ HB hw277_3 | exact cc_ ⟨hbA_ HB.out⟩ hw277_3), (by first | exact cc_ HB hw277_4 | exact cc_ ⟨hbA_ HB.out⟩ hw277_4), (by first | exact cc_ HB hw277_5 | exact cc_ ⟨hbA_ HB.out⟩ hw277_5), (by first | exact cc_ HB hw277_6 | exact cc_ ⟨hbA_ HB.out⟩ hw277_6), (by first | exact cc_ HB hw277_7 | exact cc_ ⟨hbA_ HB.out⟩ hw277_7), (by first | exact cc_ HB hw277_8 | exact cc_ ⟨hbA_ HB.out⟩ hw277_8), (by first | exact cc_ HB hw278_0 | exact cc_ ⟨hbA_ HB.out⟩ hw278_0), (by first | exact cc_ HB hw278_1 | exact cc_ ⟨hbA_ HB.out⟩ hw278_1), (by first | exact cc_ HB hw278_2 | exact cc_ ⟨hbA_ HB.out⟩ hw278_2), (by first | exact cc_ HB hw278_3 | exact cc_ ⟨hbA_ HB.out⟩ hw278_3), (by first | exact cc_ HB hw278_4 | exact cc_ ⟨hbA_ HB.out⟩ hw278_4), (by first | exact cc_ HB hw278_5 | exact cc_ ⟨hbA_ HB.out⟩ hw278_5), (by first | exact cc_ HB hw278_6 | exact cc_ ⟨hbA_ HB.out⟩ hw278_6), (by first | exact cc_ HB hw278_7 | exact cc_ ⟨hbA_ HB.out⟩ hw278_7), (by first | exact cc_ HB hw278_8 | exact cc_ ⟨hbA_ HB.out⟩ hw278_8)⟩ (fun hHeld => ?_)
        clear hK K; refine nm_ 25 ?_; refine pu_ (i := 9) (N := some 26) HT_ ?_
        refine done_ (done_of HT_.out (by kernel_rfl)) ?_
        try go_wp2
        go_ret
        exact ⟨by first | rfl | (simp [errW_none, errW_some] <;> rfl) | (simp [*, errW_none, errW_some] <;> rfl), hbA_ HB.out⟩
      ·rw [if_neg c6] at H
       exact absurd H (by simp)
     ·rw [if_neg c5] at H
      exact absurd H (by simp)
    ·rw [if_neg c4] at H
     have c4b0 : decide (x5_1 < (l0.length : Int)) = false := decide_eq_false c4
     clear c4
     obtain rfl := Option.some.inj H
     go_wp2
     go_ret
     exact ⟨by first | rfl | (simp [errW_none, errW_some] <;> rfl) | (simp [*, errW_none, errW_some] <;> rfl), hbA_ HB.out⟩
 ·rw [if_neg c3] at H
  have c3b0 : ((l0.length : Int) == (l1.length : Int)) = false := beq_eq_false_iff_ne.mpr c3
  have c3b1 : ((l0.length : Int) != (l1.length : Int)) = true := bne_iff_ne.mpr c3
  have c3b2 : (l0.length == l1.length) = false := by first | simpa using c3 | (simp at c3 ⊢; omega)
  obtain rfl := Option.some.inj H
  go_enter Try.func12, Try.ntmps12
  go_wp2
  go_ret
  exact ⟨by first | rfl | (simp [errW_none, errW_some] <;> rfl) | (simp [*, errW_none, errW_some] <;> rfl), hbA_ HB.out⟩
end Go.Proofs.Ytbhofhdmbbipgaa.PFnPacketCut
