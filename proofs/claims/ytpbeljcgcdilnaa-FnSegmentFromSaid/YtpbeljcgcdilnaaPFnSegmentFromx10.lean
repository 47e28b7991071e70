/- Printed by wip/xp/xprint.sh out of the translation, for this claim: what each function answers, as a plain function, and that the machine does just that. No condition. -/
import Derived.Test.YtpbeljcgcdilnaaPFnSegmentFromx0
import Derived.Test.YtpbeljcgcdilnaaPFnSegmentFromx1
import Derived.Test.YtpbeljcgcdilnaaPFnSegmentFromx9
namespace Go.Proofs.Ytpbeljcgcdilnaa.PFnSegmentFrom
open Go.RowKit Go.Proofs.YtpbeljcgcdilnaaW.PrintWords Go.Proofs.YtpbeljcgcdilnaaW.PrintLast Go.Proofs.YtpbeljcgcdilnaaW.PrintMore
attribute [local go_sem] max2_int min2_int max_two min_two max_three min_three max_four min_four   -- for this text's walks alone
set_option linter.unusedVariables false
set_option linter.unusedSimpArgs false
attribute [local go_sem high] eqA90
def spec_l20Rd_odd.f (k : Nat) (s0_0 : List Int) (s0_1 : Int) (a1 : Int) : Option (Bool × Int) := if a1 > 0 then ((spec_l20Rd_pick.f k s0_0 s0_1 a1).bind fun bt424 => (some ((bt424.1 == (wrap64 (a1 - 1))), bt424.2))) else (some (false, s0_1))
theorem spec_l20Rd_odd.mono : ∀ a0 a1 a2 k, LeO (spec_l20Rd_odd.f k a0 a1 a2) (spec_l20Rd_odd.f (k + 1) a0 a1 a2) := by
 intro a0 a1 a2 k
 unfold spec_l20Rd_odd.f
 repeat' first | (with_reducible first | apply spec_l20Rd_pick.mono | exact LeO.refl _ | exact LeO.none _ | refine LeO.ite ?_ ?_ | refine LeO.bind ?_ fun _ => ?_) | apply spec_l20Rd_pick.mono | exact LeO.none _ | refine LeO.ite ?_ ?_ | refine LeO.bind ?_ fun _ => ?_
set_option maxHeartbeats 8000000 in
set_option maxRecDepth 100000 in
theorem spec_l20Rd_odd.calls (k : Nat) (g : Nat) (s0_0 : List Int) (s0_1 : Int) (a1 : Int) (r1 : Bool) (r2 : Int) (w0 w : World) (hI : IsS102 w0 w g s0_0 s0_1) (hB : Below w0.heap.size w0 w) (h : spec_l20Rd_odd.f k s0_0 s0_1 a1 = some (r1, r2)) :
  Calls Try.prog 80 #[.pointer (some ⟨g, 0, none⟩), .int .i64 a1] w fun e w' => e = .returned (.bool r1) ∧ IsS102 w0 w' g s0_0 r2 ∧ Below w0.heap.size w0 w' ∧ KeepBut w w' g none := by
 have HI0 := Aside0.mk hI
 have HK := Aside0.mk (KeepBut.refl w g none)
 have HL := Aside0.mk hB.size; clear hI; have HW0 := Aside0.mk hB.size; have HB := Aside0.mk hB; clear hB
 have H : (if a1 > 0 then ((spec_l20Rd_pick.f k s0_0 s0_1 a1).bind fun bt424 => (some ((bt424.1 == (wrap64 (a1 - 1))), bt424.2))) else (some (false, s0_1))) = some (r1, r2) := h
 clear h
 by_cases c3 : a1 > 0
 ·rw [if_pos c3] at H
  have c3b0 : decide (0 < a1) = true := decide_eq_true c3
  clear c3
  replace H := Option.bind_eq_some_iff.mp H
  obtain ⟨⟨t424, t425⟩, A40, H⟩ := H
  (try dsimp only at H)
  have A4 := Aside0.mk A40; clear A40
  simp only [Option.some.injEq, Prod.mk.injEq] at H
  obtain ⟨rfl, rfl⟩ := H
  go_enter Try.func80, Try.ntmps80
  go_wp2_with (first | (go_at_call 40; (with_reducible refine (spec_l20Rd_pick.calls k g s0_0 s0_1 a1 t424 t425 w0 _ ?side1 ?side2 A4.out).mono ?_); (case side1 => exact is102_ HI0.out); (case side2 => exact hb102_ HB.out); rintro e w5 ⟨rfl, hi, hb, hk⟩; replace HK := (kk_ HK hk); replace HB := Aside0.mk (hb); replace HI0 := Aside0.mk (hi); (try clear hb); (try clear hb2); (try clear hk); (try clear hi)))
  go_ret
  exact ⟨by first | rfl | (simp [errW_none, errW_some] <;> rfl) | (simp [*, errW_none, errW_some] <;> rfl), is102_ HI0.out, hb102_ HB.out, hkA_ HK.out⟩
 ·rw [if_neg c3] at H
  have c3b0 : decide (0 < a1) = false := decide_eq_false c3
  clear c3
  simp only [Option.some.injEq, Prod.mk.injEq] at H
  obtain ⟨rfl, rfl⟩ := H
  go_enter Try.func80, Try.ntmps80
  go_wp2
  go_ret
  exact ⟨by first | rfl | (simp [errW_none, errW_some] <;> rfl) | (simp [*, errW_none, errW_some] <;> rfl), is102_ HI0.out, hb102_ HB.out, hkA_ HK.out⟩
def spec_l20Rd_seq.f (k : Nat) (s0_0 : List Int) (s0_1 : Int) : Option (Int × Int) := (spec_l20Rd_pick.f k s0_0 s0_1 9).bind fun bt426 => ((spec_l20Rd_pick.f k s0_0 bt426.2 9).bind fun bt428 => ((spec_l20Rd_pick.f k s0_0 bt428.2 5).bind fun bt430 => ((spec_l20Rd_pick.f k s0_0 bt430.2 256).bind fun bt432 => ((spec_l20Rd_pick.f k s0_0 bt432.2 256).bind fun bt434 => ((some (([bt426.1, wrap64 (65535 - bt428.1), wrap64 ((wrap64 (32768 + bt430.1)) - 2), wrap64 ((wrap64 (bt432.1 * 256)) + bt434.1)] : List Int) : List Int)).bind fun y436 => ((spec_l20Rd_pick.f k s0_0 bt434.2 4).bind fun bt439 => (if 0 ≤ bt439.1 then (if bt439.1 < (y436.length : Int) then (some (rd y436 bt439.1, bt439.2)) else (none)) else (none))))))))
theorem spec_l20Rd_seq.mono : ∀ a0 a1 k, LeO (spec_l20Rd_seq.f k a0 a1) (spec_l20Rd_seq.f (k + 1) a0 a1) := by
 intro a0 a1 k
 unfold spec_l20Rd_seq.f
 repeat' first | (with_reducible first | apply spec_l20Rd_pick.mono | exact LeO.refl _ | exact LeO.none _ | refine LeO.ite ?_ ?_ | refine LeO.bind ?_ fun _ => ?_) | apply spec_l20Rd_pick.mono | exact LeO.none _ | refine LeO.ite ?_ ?_ | refine LeO.bind ?_ fun _ => ?_
set_option maxHeartbeats 8000000 in
set_option maxRecDepth 100000 in
theorem spec_l20Rd_seq.calls (k : Nat) (g : Nat) (s0_0 : List Int) (s0_1 : Int) (r1 : Int) (r2 : Int) (w0 w : World) (hI : IsS102 w0 w g s0_0 s0_1) (hB : Below w0.heap.size w0 w) (h : spec_l20Rd_seq.f k s0_0 s0_1 = some (r1, r2)) :
  Calls Try.prog 95 #[.pointer (some ⟨g, 0, none⟩)] w fun e w' => e = .returned (.int .i64 r1) ∧ IsS102 w0 w' g s0_0 r2 ∧ Below w0.heap.size w0 w' ∧ KeepBut w w' g none := by
 have HI0 := Aside0.mk hI
 have HK := Aside0.mk (KeepBut.refl w g none)
 have HL := Aside0.mk hB.size; clear hI; have HW0 := Aside0.mk hB.size; have HB := Aside0.mk hB; clear hB
 have H : ((spec_l20Rd_pick.f k s0_0 s0_1 9).bind fun bt426 => ((spec_l20Rd_pick.f k s0_0 bt426.2 9).bind fun bt428 => ((spec_l20Rd_pick.f k s0_0 bt428.2 5).bind fun bt430 => ((spec_l20Rd_pick.f k s0_0 bt430.2 256).bind fun bt432 => ((spec_l20Rd_pick.f k s0_0 bt432.2 256).bind fun bt434 => ((some (([bt426.1, wrap64 (65535 - bt428.1), wrap64 ((wrap64 (32768 + bt430.1)) - 2), wrap64 ((wrap64 (bt432.1 * 256)) + bt434.1)] : List Int) : List Int)).bind fun y436 => ((spec_l20Rd_pick.f k s0_0 bt434.2 4).bind fun bt439 => (if 0 ≤ bt439.1 then (if bt439.1 < (y436.length : Int) then (some (rd y436 bt439.1, bt439.2)) else (none)) else (none))))))))) = some (r1, r2) := h
 clear h
 replace H := Option.bind_eq_some_iff.mp H
 obtain ⟨⟨t426, t427⟩, A20, H⟩ := H
 (try dsimp only at H)
 have A2 := Aside0.mk A20; clear A20
 replace H := Option.bind_eq_some_iff.mp H
 obtain ⟨⟨t428, t429⟩, A30, H⟩ := H
 (try dsimp only at H)
 have A3 := Aside0.mk A30; clear A30
 replace H := Option.bind_eq_some_iff.mp H
 obtain ⟨⟨t430, t431⟩, A40, H⟩ := H
 (try dsimp only at H)
 have A4 := Aside0.mk A40; clear A40
 replace H := Option.bind_eq_some_iff.mp H
 obtain ⟨⟨t432, t433⟩, A50, H⟩ := H
 (try dsimp only at H)
 have A5 := Aside0.mk A50; clear A50
 replace H := Option.bind_eq_some_iff.mp H
 obtain ⟨⟨t434, t435⟩, A60, H⟩ := H
 (try dsimp only at H)
 have A6 := Aside0.mk A60; clear A60
 obtain ⟨y436, hy436⟩ : ∃ y_ : List Int, y_ = (([t426, wrap64 (65535 - t428), wrap64 ((wrap64 (32768 + t430)) - 2), wrap64 ((wrap64 (t432 * 256)) + t434)] : List Int)) := ⟨_, rfl⟩
 (first | replace H := sb_ hy436 H | rw [← hy436] at H)
 have Ny436 := Aside0.mk hy436; clear hy436
 replace H := Option.bind_eq_some_iff.mp H
 obtain ⟨⟨t439, t440⟩, A70, H⟩ := H
 (try dsimp only at H)
 have A7 := Aside0.mk A70; clear A70
 by_cases c8 : 0 ≤ t439
 ·rw [if_pos c8] at H
  have c8b0 : decide (0 ≤ t439) = true := decide_eq_true c8
  clear c8
  by_cases c9 : t439 < (y436.length : Int)
  ·rw [if_pos c9] at H
   have c9b0 : decide (t439 < (y436.length : Int)) = true := decide_eq_true c9
   clear c9
   simp only [Option.some.injEq, Prod.mk.injEq] at H
   obtain ⟨rfl, rfl⟩ := H
   go_enter Try.func95, Try.ntmps95
   go_wp2_with (first | ((with_reducible refine gate_callee (f := 40) rfl ?_); refine goesL_ (some 4) rfl rfl Try.func40 (by kernel_rfl) rfl #[.pointer (some ⟨g, 0, none⟩), .int .i64 9] rfl ar_ ?_; (with_reducible refine (spec_l20Rd_pick.calls k g s0_0 s0_1 9 t426 t427 w0 _ ?side1 ?side2 A2.out).mono ?_); (case side1 => exact is102_ HI0.out); (case side2 => exact hb102_ HB.out); rintro e w10 ⟨rfl, hi, hb, hk⟩; refine ⟨_, rfl, ?_⟩; replace HK := (kk_ HK hk); replace HB := Aside0.mk (hb); replace HI0 := Aside0.mk (hi); (try clear hb); (try clear hb2); (try clear hk); (try clear hi)) | ((with_reducible refine gate_callee (f := 40) rfl ?_); refine goesL_ (some 6) rfl rfl Try.func40 (by kernel_rfl) rfl #[.pointer (some ⟨g, 0, none⟩), .int .i64 9] rfl ar_ ?_; (with_reducible refine (spec_l20Rd_pick.calls k g s0_0 t427 9 t428 t429 w0 _ ?side1 ?side2 A3.out).mono ?_); (case side1 => exact is102_ HI0.out); (case side2 => exact hb102_ HB.out); rintro e w11 ⟨rfl, hi, hb, hk⟩; refine ⟨_, rfl, ?_⟩; replace HK := (kk_ HK hk); replace HB := Aside0.mk (hb); replace HI0 := Aside0.mk (hi); (try clear hb); (try clear hb2); (try clear hk); (try clear hi)) | ((with_reducible refine gate_callee (f := 40) rfl ?_); refine goesL_ (some 9) rfl rfl Try.func40 (by kernel_rfl) rfl #[.pointer (some ⟨g, 0, none⟩), .int .i64 5] rfl ar_ ?_; (with_reducible refine (spec_l20Rd_pick.calls k g s0_0 t429 5 t430 t431 w0 _ ?side1 ?side2 A4.out).mono ?_); (case side1 => exact is102_ HI0.out); (case side2 => exact hb102_ HB.out); rintro e w12 ⟨rfl, hi, hb, hk⟩; refine ⟨_, rfl, ?_⟩; replace HK := (kk_ HK hk); replace HB := Aside0.mk (hb); replace HI0 := Aside0.mk (hi); (try clear hb); (try clear hb2); (try clear hk); (try clear hi)) | ((with_reducible refine gate_callee (f := 40) rfl ?_); refine goesL_ (some 13) rfl rfl Try.func40 (by kernel_rfl) rfl #[.pointer (some ⟨g, 0, none⟩), .int .i64 256] rfl ar_ ?_; (with_reducible refine (spec_l20Rd_pick.calls k g s0_0 t431 256 t432 t433 w0 _ ?side1 ?side2 A5.out).mono ?_); (case side1 => exact is102_ HI0.out); (case side2 => exact hb102_ HB.out); rintro e w13 ⟨rfl, hi, hb, hk⟩; refine ⟨_, rfl, ?_⟩; replace HK := (kk_ HK hk); replace HB := Aside0.mk (hb); replace HI0 := Aside0.mk (hi); (try clear hb); (try clear hb2); (try clear hk); (try clear hi)) | ((with_reducible refine gate_callee (f := 40) rfl ?_); refine goesL_ (some 16) rfl rfl Try.func40 (by kernel_rfl) rfl #[.pointer (some ⟨g, 0, none⟩), .int .i64 256] rfl ar_ ?_; (with_reducible refine (spec_l20Rd_pick.calls k g s0_0 t433 256 t434 t435 w0 _ ?side1 ?side2 A6.out).mono ?_); (case side1 => exact is102_ HI0.out); (case side2 => exact hb102_ HB.out); rintro e w14 ⟨rfl, hi, hb, hk⟩; refine ⟨_, rfl, ?_⟩; replace HK := (kk_ HK hk); replace HB := Aside0.mk (hb); replace HI0 := Aside0.mk (hi); (try clear hb); (try clear hb2); (try clear hk); (try clear hi)) | ((with_reducible refine gate_dst (N := 18) rfl ?_); refine Kd.R_lit (Kd.int .i64) _ 3 ?hg (N := 18) ?hd (xs := ([t426, wrap64 (65535 - t428), wrap64 ((wrap64 (32768 + t430)) - 2), wrap64 ((wrap64 (t432 * 256)) + t434)] : List Int)) (inner := [.int .i64 t426, .int .i64 (wrap64 (65535 - t428)), .int .i64 (wrap64 ((wrap64 (32768 + t430)) - 2)), .int .i64 (wrap64 ((wrap64 (t432 * 256)) + t434))]) (ok := fun _ => True) (okp := fun _ => True) ?hr ?hp (fun _ hk => hk) trivial (Below.refl _ _) (Nat.le_refl _) (by simp) ?_; (case hd => rfl); (case hg => rfl); (case hr => first | (go_simp; done) | (go_simp; rfl)); (case hp => exact (Reps.one (show Kd.M (Kd.int .i64) _ _ _ t426 [.int .i64 t426] from rfl) (Reps.one (show Kd.M (Kd.int .i64) _ _ _ (wrap64 (65535 - t428)) [.int .i64 (wrap64 (65535 - t428))] from rfl) (Reps.one (show Kd.M (Kd.int .i64) _ _ _ (wrap64 ((wrap64 (32768 + t430)) - 2)) [.int .i64 (wrap64 ((wrap64 (32768 + t430)) - 2))] from rfl) (Reps.one (show Kd.M (Kd.int .i64) _ _ _ (wrap64 ((wrap64 (t432 * 256)) + t434)) [.int .i64 (wrap64 ((wrap64 (t432 * 256)) + t434))] from rfl) (Reps.none _ _)))))); intro v437 w15 ho16 hb hg_ hnew_; clear hg_ hnew_; (first | rw [← Ny436.out] at ho16 | (simp only [Int.reduceToNat] at ho16; rw [← Ny436.out] at ho16)); have HO438 := Aside0.mk (Kd.R_lower ho16 (keep_size (w := w) (g := g) (row := none) (hkA_ HK.out))); replace HI0 := (ib102_ HI0 hb); replace HK := (kw_ HK hb); replace HB := (bs102_ HB hb); clear hb ho16) | ((with_reducible refine gate_callee (f := 40) rfl ?_); refine goesL_ (some 20) rfl rfl Try.func40 (by kernel_rfl) rfl #[.pointer (some ⟨g, 0, none⟩), .int .i64 4] rfl ar_ ?_; (with_reducible refine (spec_l20Rd_pick.calls k g s0_0 t435 4 t439 t440 w0 _ ?side1 ?side2 A7.out).mono ?_); (case side1 => exact is102_ HI0.out); (case side2 => exact hb102_ HB.out); rintro e w17 ⟨rfl, hi, hb, hk⟩; refine ⟨_, rfl, ?_⟩; replace HO438 := (rk102_ HI0 HO438 hk); replace HK := (kk_ HK hk); replace HB := Aside0.mk (hb); replace HI0 := Aside0.mk (hi); (try clear hb); (try clear hb2); (try clear hk); (try clear hi); obtain ⟨Ao18, co18, eo18⟩ := Kd.R_slice HO438.out; subst eo18; have p441 : 0 ≤ (t439 : Int) := of_decide_eq_true (by first | (with_reducible assumption) | assumption); have q441 : t439 < (y436.length : Int) := of_decide_eq_true (by first | (with_reducible assumption) | assumption); obtain ⟨ad441, e441, hx441_0⟩ := Kd.at_int (Kd.R_reads' HO438.out).2.2 t439 p441 q441; cases e441; replace p441 := eq_true p441; replace q441 := eq_true q441))
   go_ret
   exact ⟨by first | rfl | (simp [errW_none, errW_some] <;> rfl) | (simp [*, errW_none, errW_some] <;> rfl), is102_ HI0.out, hb102_ HB.out, hkA_ HK.out⟩
  ·rw [if_neg c9] at H
   exact absurd H (by simp)
 ·rw [if_neg c8] at H
  exact absurd H (by simp)
mutual
def spec_l20Segment.j1 : Nat → Int → List Int → Int → Int → Int → Int → Int → Int → Bool → Bool → Bool → Bool → List (S90) → List Int → Option (Int × Int × Int × Int × Int × Bool × Bool × Bool × Bool × (List (S90)) × List Int × Int)
 | 0, _, _, _, _, _, _, _, _, _, _, _, _, _, _ => none
 | k + 1, x1, x1000, x1001, x460000, x460001, x460002, x460003, x460004, x460005, x460006, x460007, x460008, x460009, x460010 => (spec_l20Rd_pick.f k x1000 x1001 8).bind fun bt475 => (if bt475.1 = 0 then (spec_l20Segment.j2 k x1 x1000 bt475.2 x460000 x460001 x460002 x460003 x460004 false x460006 false true x460009 ([] : List Int)) else (spec_l20Segment.j2 k x1 x1000 bt475.2 x460000 x460001 x460002 x460003 x460004 x460005 x460006 x460007 x460008 x460009 x460010))
def spec_l20Segment.j2 : Nat → Int → List Int → Int → Int → Int → Int → Int → Int → Bool → Bool → Bool → Bool → List (S90) → List Int → Option (Int × Int × Int × Int × Int × Bool × Bool × Bool × Bool × (List (S90)) × List Int × Int)
 | 0, _, _, _, _, _, _, _, _, _, _, _, _, _, _ => none
 | k + 1, x1, x1000, x1001, x460000, x460001, x460002, x460003, x460004, x460005, x460006, x460007, x460008, x460009, x460010 => (spec_l20Rd_odd.f k x1000 x1001 x1).bind fun bt477 => (if bt477.1 = true then ((spec_l20Rd_pick.f k x1000 bt477.2 4).bind fun bt479 => (if bt479.1 = 0 then ((spec_l20Rd_pick.f k x1000 bt479.2 2).bind fun bt481 => (some (wrap64 (bt481.1 * 256), x460001, x460002, x460003, x460004, x460005, x460006, x460007, x460008, x460009, x460010, bt481.2))) else (if bt479.1 = 1 then ((spec_l20Rd_pick.f k x1000 bt479.2 2).bind fun bt483 => (some (x460000, x460001, wrap64 (65536 - (wrap64 (bt483.1 * 65540))), x460003, x460004, x460005, x460006, x460007, x460008, x460009, x460010, bt483.2))) else (if bt479.1 = 2 then (some (x460000, x460001, x460002, 4, x460004, x460005, !x460006, x460007, x460008, x460009, x460010, bt479.2)) else ((spec_l20Rd_pick.f k x1000 bt479.2 14).bind fun bt485 => (if 0 ≤ bt485.1 then (if (bt485.1 : Int).toNat ≤ 281474976710656 then (some (x460000, x460001, x460002, x460003, x460004, x460005, x460006, x460007, true, x460009, (List.replicate (bt485.1 : Int).toNat 0), bt485.2)) else (none)) else (none))))))) else (some (x460000, x460001, x460002, x460003, x460004, x460005, x460006, x460007, x460008, x460009, x460010, bt477.2)))
def spec_l20Segment.l0 : Nat → Int → Int → List Int → Int → Int → Int → Int → Int → Int → Bool → Bool → Bool → Bool → List (S90) → List Int → Option (Int × Int × Int × Int × Int × Bool × Bool × Bool × Bool × (List (S90)) × List Int × Int)
 | 0, _, _, _, _, _, _, _, _, _, _, _, _, _, _, _ => none
 | k + 1, x1, x6, x1000, x1001, x460000, x460001, x460002, x460003, x460004, x460005, x460006, x460007, x460008, x460009, x460010 => if x6 > 0 then ((spec_l20Rd_seq.f k x1000 x1001).bind fun bt468 => ((spec_l20Rd_seq.f k x1000 bt468.2).bind fun bt470 => (if x460009.length < 8796093022208 then (spec_l20Segment.l0 k x1 (wrap64 (x6 - 1)) x1000 bt470.2 x460000 x460001 x460002 x460003 x460004 x460005 x460006 x460007 x460008 (x460009 ++ [(⟨bt468.1, bt470.1⟩ : S90)]) x460010) else (none)))) else (spec_l20Segment.j1 k x1 x1000 x1001 x460000 x460001 x460002 x460003 x460004 x460005 x460006 x460007 x460008 x460009 x460010)
end
def spec_l20Segment.f (k : Nat) (s0_0 : List Int) (s0_1 : Int) (a1 : Int) : Option (Int × Int × Int × Int × Int × Bool × Bool × Bool × Bool × (List (S90)) × List Int × Int) := (spec_l20Rd_pick.f k s0_0 s0_1 3).bind fun bt443 => ((spec_l20Rd_pick.f k s0_0 bt443.2 3).bind fun bt445 => ((spec_l20Rd_seq.f k s0_0 bt445.2).bind fun bt447 => ((spec_l20Rd_pick.f k s0_0 bt447.2 5).bind fun bt449 => ((spec_l20Rd_bytes.f k s0_0 bt449.2 bt449.1).bind fun bt451 => ((spec_l20Rd_pick.f k s0_0 bt451.2 4).bind fun bt455 => ((spec_l20Rd_pick.f k s0_0 bt455.2 4).bind fun bt457 => ((spec_l20Rd_pick.f k s0_0 bt457.2 4).bind fun bt460 => (if bt460.1 > 0 then ((spec_l20Rd_seq.f k s0_0 bt460.2).bind fun bt462 => ((spec_l20Rd_pick.f k s0_0 bt462.2 40).bind fun bt464 => ((spec_l20Rd_pick.f k s0_0 bt464.2 3).bind fun bt466 => (spec_l20Segment.l0 k a1 bt466.1 s0_0 bt466.2 (wrap64 (1 + bt443.1)) (wrap64 (1 + bt445.1)) bt447.1 bt462.1 bt464.1 (bt455.1 == 0) true (bt457.1 == 0) false ([] : List (S90)) bt451.1)))) else (spec_l20Segment.j1 k a1 s0_0 bt460.2 (wrap64 (1 + bt443.1)) (wrap64 (1 + bt445.1)) bt447.1 0 0 (bt455.1 == 0) false (bt457.1 == 0) false ([] : List (S90)) bt451.1)))))))))
theorem spec_l20Segment.mono_l : ∀ k, (∀ y0 y1 y2 y3 y4 y5 y6 y7 y8 y9 y10 y11 y12 y13, LeO (spec_l20Segment.j1 k y0 y1 y2 y3 y4 y5 y6 y7 y8 y9 y10 y11 y12 y13) (spec_l20Segment.j1 (k + 1) y0 y1 y2 y3 y4 y5 y6 y7 y8 y9 y10 y11 y12 y13)) ∧ (∀ y0 y1 y2 y3 y4 y5 y6 y7 y8 y9 y10 y11 y12 y13, LeO (spec_l20Segment.j2 k y0 y1 y2 y3 y4 y5 y6 y7 y8 y9 y10 y11 y12 y13) (spec_l20Segment.j2 (k + 1) y0 y1 y2 y3 y4 y5 y6 y7 y8 y9 y10 y11 y12 y13)) ∧ (∀ y0 y1 y2 y3 y4 y5 y6 y7 y8 y9 y10 y11 y12 y13 y14, LeO (spec_l20Segment.l0 k y0 y1 y2 y3 y4 y5 y6 y7 y8 y9 y10 y11 y12 y13 y14) (spec_l20Segment.l0 (k + 1) y0 y1 y2 y3 y4 y5 y6 y7 y8 y9 y10 y11 y12 y13 y14))
 | 0 => ⟨fun _ _ _ _ _ _ _ _ _ _ _ _ _ _ r h => by simp [spec_l20Segment.j1] at h, fun _ _ _ _ _ _ _ _ _ _ _ _ _ _ r h => by simp [spec_l20Segment.j2] at h, fun _ _ _ _ _ _ _ _ _ _ _ _ _ _ _ r h => by simp [spec_l20Segment.l0] at h⟩
 | k + 1 => by
  obtain ⟨ih0, ih1, ih2⟩ := spec_l20Segment.mono_l k
  refine ⟨?_, ?_, ?_⟩
  ·intro y0 y1 y2 y3 y4 y5 y6 y7 y8 y9 y10 y11 y12 y13
   unfold spec_l20Segment.j1
   repeat' first | (with_reducible first | apply ih0 | apply ih1 | apply ih2 | apply spec_l20Rd_bytes.mono | apply spec_l20Rd_odd.mono | apply spec_l20Rd_pick.mono | apply spec_l20Rd_seq.mono | exact LeO.refl _ | exact LeO.none _ | refine LeO.ite ?_ ?_ | refine LeO.bind ?_ fun _ => ?_) | apply ih0 | apply ih1 | apply ih2 | apply spec_l20Rd_bytes.mono | apply spec_l20Rd_odd.mono | apply spec_l20Rd_pick.mono | apply spec_l20Rd_seq.mono | exact LeO.none _ | refine LeO.ite ?_ ?_ | refine LeO.bind ?_ fun _ => ?_
  ·intro y0 y1 y2 y3 y4 y5 y6 y7 y8 y9 y10 y11 y12 y13
   unfold spec_l20Segment.j2
   repeat' first | (with_reducible first | apply ih0 | apply ih1 | apply ih2 | apply spec_l20Rd_bytes.mono | apply spec_l20Rd_odd.mono | apply spec_l20Rd_pick.mono | apply spec_l20Rd_seq.mono | exact LeO.refl _ | exact LeO.none _ | refine LeO.ite ?_ ?_ | refine LeO.bind ?_ fun _ => ?_) | apply ih0 | apply ih1 | apply ih2 | apply spec_l20Rd_bytes.mono | apply spec_l20Rd_odd.mono | apply spec_l20Rd_pick.mono | apply spec_l20Rd_seq.mono | exact LeO.none _ | refine LeO.ite ?_ ?_ | refine LeO.bind ?_ fun _ => ?_
  ·intro y0 y1 y2 y3 y4 y5 y6 y7 y8 y9 y10 y11 y12 y13 y14
   unfold spec_l20Segment.l0
   repeat' first | (with_reducible first | apply ih0 | apply ih1 | apply ih2 | apply spec_l20Rd_bytes.mono | apply spec_l20Rd_odd.mono | apply spec_l20Rd_pick.mono | apply spec_l20Rd_seq.mono | exact LeO.refl _ | exact LeO.none _ | refine LeO.ite ?_ ?_ | refine LeO.bind ?_ fun _ => ?_) | apply ih0 | apply ih1 | apply ih2 | apply spec_l20Rd_bytes.mono | apply spec_l20Rd_odd.mono | apply spec_l20Rd_pick.mono | apply spec_l20Rd_seq.mono | exact LeO.none _ | refine LeO.ite ?_ ?_ | refine LeO.bind ?_ fun _ => ?_
theorem spec_l20Segment.mono : ∀ a0 a1 a2 k, LeO (spec_l20Segment.f k a0 a1 a2) (spec_l20Segment.f (k + 1) a0 a1 a2) := by
 intro a0 a1 a2 k
 obtain ⟨ih0, ih1, ih2⟩ := spec_l20Segment.mono_l k
 unfold spec_l20Segment.f
 repeat' first | (with_reducible first | apply ih0 | apply ih1 | apply ih2 | apply spec_l20Rd_bytes.mono | apply spec_l20Rd_odd.mono | apply spec_l20Rd_pick.mono | apply spec_l20Rd_seq.mono | exact LeO.refl _ | exact LeO.none _ | refine LeO.ite ?_ ?_ | refine LeO.bind ?_ fun _ => ?_) | apply ih0 | apply ih1 | apply ih2 | apply spec_l20Rd_bytes.mono | apply spec_l20Rd_odd.mono | apply spec_l20Rd_pick.mono | apply spec_l20Rd_seq.mono | exact LeO.none _ | refine LeO.ite ?_ ?_ | refine LeO.bind ?_ fun _ => ?_
def spec_l20Segment.T9 : Bool × List (List Nat × List Nat) := (true, [([], []), ([0], [0]), ([], []), ([2], [2]), ([], []), ([4, 3], [4]), ([3, 5], [3, 5]), ([6], [6]), ([1, 7, 5], [1, 7]), ([0, 1, 2, 3, 4, 5, 6, 7, 8], []), ([9, 8, 8, 0, 1, 2, 3, 4, 5, 6, 7, 8], [8, 9])])
def spec_l20Segment.B9 : List Nat := [0, 1, 0, 4, 0, 28, 60, 124, 255, 511, 1023]
theorem spec_l20Segment.tab9 : rtab .any (opsOf Try.f67 9) = spec_l20Segment.T9 := by kernel_rfl
theorem spec_l20Segment.bits9 : waitsOk spec_l20Segment.T9.2 spec_l20Segment.B9 = true := by kernel_rfl
set_option maxHeartbeats 8000000 in
set_option maxRecDepth 100000 in
theorem spec_l20Segment.calls (k : Nat) (g : Nat) (s0_0 : List Int) (s0_1 : Int) (a1 : Int) (r1 : Int) (r2 : Int) (r3 : Int) (r4 : Int) (r5 : Int) (r6 : Bool) (r7 : Bool) (r8 : Bool) (r9 : Bool) (r10 : List (S90)) (r11 : List Int) (r12 : Int) (w0 w : World) (hI : IsS102 w0 w g s0_0 s0_1) (hB : Below w0.heap.size w0 w) (h : spec_l20Segment.f k s0_0 s0_1 a1 = some (r1, r2, r3, r4, r5, r6, r7, r8, r9, r10, r11, r12)) :
  Calls Try.prog 67 #[.pointer (some ⟨g, 0, none⟩), .int .i64 a1] w fun e w' => ∃ v9_ v10_ : Value, e = .returned (.agg #[.int .i64 r1, .int .i64 r2, .int .i64 r3, .int .i64 r4, .int .i64 r5, .bool r6, .bool r7, .bool r8, .bool r9, v9_, v10_]) ∧ Kd.R k90 90 w' w.heap.size (fun _ => True) v9_ r10 ∧ Kd.R (Kd.int .u8) 5 w' w.heap.size (fun _ => True) v10_ r11 ∧ IsS102 w0 w' g s0_0 r12 ∧ Below w0.heap.size w0 w' ∧ KeepBut w w' g none := by
 have hu52 := Try.underlying52; have hu90 := Try.underlying90; have HI0 := Aside0.mk hI
 have HK := Aside0.mk (KeepBut.refl w g none)
 have HL := Aside0.mk hB.size; clear hI; have HW0 := Aside0.mk hB.size; have HB := Aside0.mk hB; clear hB
 have H : ((spec_l20Rd_pick.f k s0_0 s0_1 3).bind fun bt443 => ((spec_l20Rd_pick.f k s0_0 bt443.2 3).bind fun bt445 => ((spec_l20Rd_seq.f k s0_0 bt445.2).bind fun bt447 => ((spec_l20Rd_pick.f k s0_0 bt447.2 5).bind fun bt449 => ((spec_l20Rd_bytes.f k s0_0 bt449.2 bt449.1).bind fun bt451 => ((spec_l20Rd_pick.f k s0_0 bt451.2 4).bind fun bt455 => ((spec_l20Rd_pick.f k s0_0 bt455.2 4).bind fun bt457 => ((spec_l20Rd_pick.f k s0_0 bt457.2 4).bind fun bt460 => (if bt460.1 > 0 then ((spec_l20Rd_seq.f k s0_0 bt460.2).bind fun bt462 => ((spec_l20Rd_pick.f k s0_0 bt462.2 40).bind fun bt464 => ((spec_l20Rd_pick.f k s0_0 bt464.2 3).bind fun bt466 => (spec_l20Segment.l0 k a1 bt466.1 s0_0 bt466.2 (wrap64 (1 + bt443.1)) (wrap64 (1 + bt445.1)) bt447.1 bt462.1 bt464.1 (bt455.1 == 0) true (bt457.1 == 0) false ([] : List (S90)) bt451.1)))) else (spec_l20Segment.j1 k a1 s0_0 bt460.2 (wrap64 (1 + bt443.1)) (wrap64 (1 + bt445.1)) bt447.1 0 0 (bt455.1 == 0) false (bt457.1 == 0) false ([] : List (S90)) bt451.1)))))))))) = some (r1, r2, r3, r4, r5, r6, r7, r8, r9, r10, r11, r12) := h
 clear h
 replace H := Option.bind_eq_some_iff.mp H
 obtain ⟨⟨t443, t444⟩, A30, H⟩ := H
 (try dsimp only at H)
 have A3 := Aside0.mk A30; clear A30
 replace H := Option.bind_eq_some_iff.mp H
 obtain ⟨⟨t445, t446⟩, A40, H⟩ := H
 (try dsimp only at H)
 have A4 := Aside0.mk A40; clear A40
 replace H := Option.bind_eq_some_iff.mp H
 obtain ⟨⟨t447, t448⟩, A50, H⟩ := H
 (try dsimp only at H)
 have A5 := Aside0.mk A50; clear A50
 replace H := Option.bind_eq_some_iff.mp H
 obtain ⟨⟨t449, t450⟩, A60, H⟩ := H
 (try dsimp only at H)
 have A6 := Aside0.mk A60; clear A60
 replace H := Option.bind_eq_some_iff.mp H
 obtain ⟨⟨t451, t454⟩, A70, H⟩ := H
 (try dsimp only at H)
 have A7 := Aside0.mk A70; clear A70
 replace H := Option.bind_eq_some_iff.mp H
 obtain ⟨⟨t455, t456⟩, A80, H⟩ := H
 (try dsimp only at H)
 have A8 := Aside0.mk A80; clear A80
 replace H := Option.bind_eq_some_iff.mp H
 obtain ⟨⟨t457, t458⟩, A90, H⟩ := H
 (try dsimp only at H)
 have A9 := Aside0.mk A90; clear A90
 replace H := Option.bind_eq_some_iff.mp H
 obtain ⟨⟨t460, t461⟩, A100, H⟩ := H
 (try dsimp only at H)
 have A10 := Aside0.mk A100; clear A100; have HC11 := Aside0.mk H; clear H
 go_enter Try.func67, Try.ntmps67
 go_upto_if 28 with (first | ((with_reducible refine gate_dst (N := 4) rfl ?_); refine box_ (N := 4) (cs := #[.int .i64 0, .int .i64 0, .int .i64 0, .int .i64 0, .int .i64 0, .bool false, .bool false, .bool false, .bool false, .slice none 0 0, .slice none 0 0]) (t := 52) (fun gb442 hg w12 hbox hb => ?_); replace HB := (bs102_ HB hb); have BK442 := Aside0.mk (hbox); have GW442 := gk_ hg HK; have GE442 := Aside0.mk ((Nat.le_trans HW0.out (by rw [hg]; exact (keep_size (w := w) (g := g) (row := none) (hkA_ HK.out)) : w.heap.size ≤ gb442) : w0.heap.size ≤ gb442)); replace HK := (kw_ HK hb); have NB0_442 := nl102_ hg HI0; have NB442_0 := ng102_ hg HI0; replace HI0 := (ib102_ HI0 hb); clear hb hbox hg) | ((with_reducible refine gate_callee (f := 40) rfl ?_); refine goesL_ (some 8) rfl rfl Try.func40 (by kernel_rfl) rfl #[.pointer (some ⟨g, 0, none⟩), .int .i64 3] rfl ar_ ?_; (with_reducible refine (spec_l20Rd_pick.calls k g s0_0 s0_1 3 t443 t444 w0 _ ?side1 ?side2 A3.out).mono ?_); (case side1 => exact is102_ HI0.out); (case side2 => exact hb102_ HB.out); rintro e w13 ⟨rfl, hi, hb, hk⟩; refine ⟨_, rfl, ?_⟩; replace BK442 := (bkA_ BK442 hk NB442_0); replace HK := (kk_ HK hk); replace HB := Aside0.mk (hb); replace HI0 := Aside0.mk (hi); (try clear hb); (try clear hb2); (try clear hk); (try clear hi)) | ((with_reducible refine gate_callee (f := 40) rfl ?_); refine goesL_ (some 11) rfl rfl Try.func40 (by kernel_rfl) rfl #[.pointer (some ⟨g, 0, none⟩), .int .i64 3] rfl ar_ ?_; (with_reducible refine (spec_l20Rd_pick.calls k g s0_0 t444 3 t445 t446 w0 _ ?side1 ?side2 A4.out).mono ?_); (case side1 => exact is102_ HI0.out); (case side2 => exact hb102_ HB.out); rintro e w14 ⟨rfl, hi, hb, hk⟩; refine ⟨_, rfl, ?_⟩; replace BK442 := (bkA_ BK442 hk NB442_0); replace HK := (kk_ HK hk); replace HB := Aside0.mk (hb); replace HI0 := Aside0.mk (hi); (try clear hb); (try clear hb2); (try clear hk); (try clear hi)) | ((with_reducible refine gate_callee (f := 95) rfl ?_); refine goesL_ (some 14) rfl rfl Try.func95 (by kernel_rfl) rfl #[.pointer (some ⟨g, 0, none⟩)] rfl ar_ ?_; (with_reducible refine (spec_l20Rd_seq.calls k g s0_0 t446 t447 t448 w0 _ ?side1 ?side2 A5.out).mono ?_); (case side1 => exact is102_ HI0.out); (case side2 => exact hb102_ HB.out); rintro e w15 ⟨rfl, hi, hb, hk⟩; refine ⟨_, rfl, ?_⟩; replace BK442 := (bkA_ BK442 hk NB442_0); replace HK := (kk_ HK hk); replace HB := Aside0.mk (hb); replace HI0 := Aside0.mk (hi); (try clear hb); (try clear hb2); (try clear hk); (try clear hi)) | ((with_reducible refine gate_callee (f := 40) rfl ?_); refine goesL_ (some 17) rfl rfl Try.func40 (by kernel_rfl) rfl #[.pointer (some ⟨g, 0, none⟩), .int .i64 5] rfl ar_ ?_; (with_reducible refine (spec_l20Rd_pick.calls k g s0_0 t448 5 t449 t450 w0 _ ?side1 ?side2 A6.out).mono ?_); (case side1 => exact is102_ HI0.out); (case side2 => exact hb102_ HB.out); rintro e w16 ⟨rfl, hi, hb, hk⟩; refine ⟨_, rfl, ?_⟩; replace BK442 := (bkA_ BK442 hk NB442_0); replace HK := (kk_ HK hk); replace HB := Aside0.mk (hb); replace HI0 := Aside0.mk (hi); (try clear hb); (try clear hb2); (try clear hk); (try clear hi)) | ((with_reducible refine gate_callee (f := 79) rfl ?_); refine goesL_ (some 18) rfl rfl Try.func79 (by kernel_rfl) rfl #[.pointer (some ⟨g, 0, none⟩), .int .i64 t449] rfl ar_ ?_; (with_reducible refine (spec_l20Rd_bytes.calls k g s0_0 t450 t449 t451 t454 w0 _ ?side1 ?side2 A7.out).mono ?_); (case side1 => exact is102_ HI0.out); (case side2 => exact hb102_ HB.out); rintro e w17 ⟨v452, rfl, ho0, hi, hb, hk⟩; refine ⟨_, rfl, ?_⟩; replace BK442 := (bkA_ BK442 hk NB442_0); have HO453 := Aside0.mk (Kd.R_lower ho0 (keep_size (w := w) (g := g) (row := none) (hkA_ HK.out))); replace HK := (kk_ HK hk); replace HB := Aside0.mk (hb); replace HI0 := Aside0.mk (hi); (try clear hb); (try clear hb2); (try clear hk); (try clear hi); (try clear ho0)) | ((with_reducible refine gate_callee (f := 40) rfl ?_); refine goesL_ (some 20) rfl rfl Try.func40 (by kernel_rfl) rfl #[.pointer (some ⟨g, 0, none⟩), .int .i64 4] rfl ar_ ?_; (with_reducible refine (spec_l20Rd_pick.calls k g s0_0 t454 4 t455 t456 w0 _ ?side1 ?side2 A8.out).mono ?_); (case side1 => exact is102_ HI0.out); (case side2 => exact hb102_ HB.out); rintro e w18 ⟨rfl, hi, hb, hk⟩; refine ⟨_, rfl, ?_⟩; replace BK442 := (bkA_ BK442 hk NB442_0); replace HO453 := (rk102_ HI0 HO453 hk); replace HK := (kk_ HK hk); replace HB := Aside0.mk (hb); replace HI0 := Aside0.mk (hi); (try clear hb); (try clear hb2); (try clear hk); (try clear hi)) | ((with_reducible refine gate_callee (f := 40) rfl ?_); refine goesL_ (some 23) rfl rfl Try.func40 (by kernel_rfl) rfl #[.pointer (some ⟨g, 0, none⟩), .int .i64 4] rfl ar_ ?_; (with_reducible refine (spec_l20Rd_pick.calls k g s0_0 t456 4 t457 t458 w0 _ ?side1 ?side2 A9.out).mono ?_); (case side1 => exact is102_ HI0.out); (case side2 => exact hb102_ HB.out); rintro e w19 ⟨rfl, hi, hb, hk⟩; refine ⟨_, rfl, ?_⟩; replace BK442 := (bkA_ BK442 hk NB442_0); replace HO453 := (rk102_ HI0 HO453 hk); replace HK := (kk_ HK hk); replace HB := Aside0.mk (hb); replace HI0 := Aside0.mk (hi); (try clear hb); (try clear hb2); (try clear hk); (try clear hi); obtain ⟨Ao20, co20, eo20⟩ := Kd.R_slice HO453.out; subst eo20) | ((with_reducible refine gate_dst (N := 5) rfl ?_); refine box_ (N := 5) (cs := #[.int .i64 0, .int .i64 0, .int .i64 0, .int .i64 0, .int .i64 0, .bool false, .bool false, .bool false, .bool false, .slice none 0 0, .slice none 0 0]) (t := 52) (fun gb459 hg w21 hbox hb => ?_); replace HO453 := Aside0.mk (Kd.R_below (kR_ HO453.out) hb); replace HB := (bs102_ HB hb); have BK459 := Aside0.mk (hbox); have GW459 := gk_ hg HK; have GE459 := Aside0.mk ((Nat.le_trans HW0.out (by rw [hg]; exact (keep_size (w := w) (g := g) (row := none) (hkA_ HK.out)) : w.heap.size ≤ gb459) : w0.heap.size ≤ gb459)); replace HK := (kw_ HK hb); have NB442_459 := nl_ hg BK442; have NB459_442 := ng_ hg BK442; replace BK442 := (bbA_ BK442 hb); have NB0_459 := nl102_ hg HI0; have NB459_0 := ng102_ hg HI0; replace HI0 := (ib102_ HI0 hb); clear hb hbox hg; have hnb22 := NB459_442.out; have hnc22 := NB442_459.out; have hnb23 := NB459_0.out; have hnc23 := NB0_459.out; have Z24 := zz11 BK459) | ((with_reducible refine gate_callee (f := 40) rfl ?_); refine goesL_ (some 27) rfl rfl Try.func40 (by kernel_rfl) rfl #[.pointer (some ⟨g, 0, none⟩), .int .i64 4] rfl ar_ ?_; (with_reducible refine (spec_l20Rd_pick.calls k g s0_0 t458 4 t460 t461 w0 _ ?side1 ?side2 A10.out).mono ?_); (case side1 => exact is102_ HI0.out); (case side2 => exact hb102_ HB.out); rintro e w25 ⟨rfl, hi, hb, hk⟩; refine ⟨_, rfl, ?_⟩; replace BK442 := Aside0.mk (KeepBut.blk hk (g' := gb442) (o := .cells #[.int .i64 0, .int .i64 0, .int .i64 0, .int .i64 0, .int .i64 0, .bool false, .bool false, .bool false, .bool false, .slice none 0 0, .slice none 0 0] 52 (0, 0)) (by exact kf_ BK442.out) NB442_0.out (by simp)); replace HO453 := Aside0.mk (Kd.R_mono (Kd.R_keep (IsS102.apart (show IsS102 w0 _ g s0_0 t458 from is102_ HI0.out) (by refine kR_ ?_; exact (rfm_ ((Kd.R_types HO453.out BK459.out (by decide))) (fun _ h_ => op1_ h_))) (by decide)) hk (fun _ h => h.2)) (fun _ h => h.1)); replace BK459 := Aside0.mk (KeepBut.blk hk (g' := gb459) (o := .cells #[.int .i64 (wrap64 (1 + t443)), .int .i64 (wrap64 (1 + t445)), .int .i64 t447, .int .i64 0, .int .i64 0, .bool (t455 == 0), .bool false, .bool (t457 == 0), .bool false, .slice none 0 0, .slice Ao20 t451.length co20] 52 (0, 0)) (by refine kb_ ?_; refine pz11 (cs := #[.int .i64 0, .int .i64 0, .int .i64 0, .int .i64 0, .int .i64 0, .bool false, .bool false, .bool false, .bool false, .slice none 0 0, .slice none 0 0]) ?_; refine kb_ ?_; exact BK459.out) NB459_0.out (by simp)); replace HK := (kk_ HK hk); replace HB := Aside0.mk (hb); replace HI0 := Aside0.mk (hi); (try clear hb); (try clear hb2); (try clear hk); (try clear hi)))
 (try simp only [Act.put, List.setIfInBounds_toArray, List.set_cons_zero, List.set_cons_succ])
 go_cut [] (fun wc => ∃ (kq : Nat) (x1001_10 : Int) (x460003_10 : Int) (x460004_10 : Int) (x460006_10 : Bool) (x460009_10 : List (S90)) (u460009 : Value), Aside0 (spec_l20Segment.j1 kq a1 s0_0 x1001_10 (wrap64 (1 + t443)) (wrap64 (1 + t445)) t447 x460003_10 x460004_10 (t455 == 0) x460006_10 (t457 == 0) false x460009_10 t451 = some (r1, r2, r3, r4, r5, r6, r7, r8, r9, r10, r11, r12)) ∧ Aside0 (kq ≤ k) ∧ Aside0 (Kd.R k90 90 wc w.heap.size (fun _ => True) u460009 x460009_10) ∧ Aside0 (Kd.R (Kd.int .u8) 5 wc w.heap.size (fun _ => True) (.slice Ao20 t451.length co20) t451) ∧ Aside0 (wc.heap[gb442]? = some (.cells #[.int .i64 0, .int .i64 0, .int .i64 0, .int .i64 0, .int .i64 0, .bool false, .bool false, .bool false, .bool false, (.slice none 0 0), (.slice none 0 0)] 52 (0, 0))) ∧ Aside0 (wc.heap[gb459]? = some (.cells #[.int .i64 (wrap64 (1 + t443)), .int .i64 (wrap64 (1 + t445)), .int .i64 t447, .int .i64 x460003_10, .int .i64 x460004_10, .bool (t455 == 0), .bool x460006_10, .bool (t457 == 0), .bool false, u460009, (.slice Ao20 t451.length co20)] 52 (0, 0))) ∧ Aside0 (IsS102 w0 wc g s0_0 x1001_10) ∧ Aside0 (KeepBut w wc g none) ∧ Aside0 (Below w0.heap.size w0 wc))
 case first =>
  have H := HC11.out; clear HC11
  by_cases c26 : t460 > 0
  ·rw [if_pos c26] at H
   have c26b0 : decide (0 < t460) = true := decide_eq_true c26
   clear c26
   (first | rw [c26b0] | (simp only [i64_w, i32_w]; rw [c26b0]) | skip)
   replace H := Option.bind_eq_some_iff.mp H
   obtain ⟨⟨t462, t463⟩, A270, H⟩ := H
   (try dsimp only at H)
   have A27 := Aside0.mk A270; clear A270
   replace H := Option.bind_eq_some_iff.mp H
   obtain ⟨⟨t464, t465⟩, A280, H⟩ := H
   (try dsimp only at H)
   have A28 := Aside0.mk A280; clear A280
   replace H := Option.bind_eq_some_iff.mp H
   obtain ⟨⟨t466, t467⟩, A290, H⟩ := H
   (try dsimp only at H)
   have A29 := Aside0.mk A290; clear A290
   have H' := Aside0.mk H
   clear H; have hnb30 := NB459_442.out; have hnc30 := NB442_459.out; have hnb31 := NB459_0.out; have hnc31 := NB0_459.out; have Z32 := zz11 BK459
   go_wp2_with (first | ((with_reducible refine gate_callee (f := 95) rfl ?_); refine goesL_ (some 31) rfl rfl Try.func95 (by kernel_rfl) rfl #[.pointer (some ⟨g, 0, none⟩)] rfl ar_ ?_; (with_reducible refine (spec_l20Rd_seq.calls k g s0_0 t461 t462 t463 w0 _ ?side1 ?side2 A27.out).mono ?_); (case side1 => exact is102_ HI0.out); (case side2 => exact hb102_ HB.out); rintro e w33 ⟨rfl, hi, hb, hk⟩; refine ⟨_, rfl, ?_⟩; replace BK442 := Aside0.mk (KeepBut.blk hk (g' := gb442) (o := .cells #[.int .i64 0, .int .i64 0, .int .i64 0, .int .i64 0, .int .i64 0, .bool false, .bool false, .bool false, .bool false, .slice none 0 0, .slice none 0 0] 52 (0, 0)) (by exact kf_ BK442.out) NB442_0.out (by simp)); replace HO453 := Aside0.mk (Kd.R_mono (Kd.R_keep (IsS102.apart (show IsS102 w0 _ g s0_0 t461 from is102_ HI0.out) (by refine kR_ ?_; exact (Kd.R_mono (Kd.R_f gb459 6 (.bool true) (Kd.R_types HO453.out BK459.out (by decide))) (fun _ h_ => op1_ h_))) (by decide)) hk (fun _ h => h.2)) (fun _ h => h.1)); replace BK459 := Aside0.mk (KeepBut.blk hk (g' := gb459) (o := .cells #[.int .i64 (wrap64 (1 + t443)), .int .i64 (wrap64 (1 + t445)), .int .i64 t447, .int .i64 0, .int .i64 0, .bool (t455 == 0), .bool true, .bool (t457 == 0), .bool false, .slice none 0 0, .slice Ao20 t451.length co20] 52 (0, 0)) (by refine kb_ ?_; refine blk_put (cs := #[.int .i64 (wrap64 (1 + t443)), .int .i64 (wrap64 (1 + t445)), .int .i64 t447, .int .i64 0, .int .i64 0, .bool (t455 == 0), .bool false, .bool (t457 == 0), .bool false, .slice none 0 0, .slice Ao20 t451.length co20]) ?_ 6 _ rfl; refine kb_ ?_; exact BK459.out) NB459_0.out (by simp)); replace HK := (kk_ HK hk); replace HB := Aside0.mk (hb); replace HI0 := Aside0.mk (hi); (try clear hb); (try clear hb2); (try clear hk); (try clear hi); have Z34 := zz11 BK459) | ((with_reducible refine gate_callee (f := 40) rfl ?_); refine goesL_ (some 34) rfl rfl Try.func40 (by kernel_rfl) rfl #[.pointer (some ⟨g, 0, none⟩), .int .i64 40] rfl ar_ ?_; (with_reducible refine (spec_l20Rd_pick.calls k g s0_0 t463 40 t464 t465 w0 _ ?side1 ?side2 A28.out).mono ?_); (case side1 => exact is102_ HI0.out); (case side2 => exact hb102_ HB.out); rintro e w35 ⟨rfl, hi, hb, hk⟩; refine ⟨_, rfl, ?_⟩; replace BK442 := Aside0.mk (KeepBut.blk hk (g' := gb442) (o := .cells #[.int .i64 0, .int .i64 0, .int .i64 0, .int .i64 0, .int .i64 0, .bool false, .bool false, .bool false, .bool false, .slice none 0 0, .slice none 0 0] 52 (0, 0)) (by exact kf_ BK442.out) NB442_0.out (by simp)); replace HO453 := Aside0.mk (Kd.R_mono (Kd.R_keep (IsS102.apart (show IsS102 w0 _ g s0_0 t463 from is102_ HI0.out) (by refine kR_ ?_; exact (Kd.R_mono (Kd.R_f gb459 3 (.int .i64 t462) (Kd.R_types HO453.out BK459.out (by decide))) (fun _ h_ => op1_ h_))) (by decide)) hk (fun _ h => h.2)) (fun _ h => h.1)); replace BK459 := Aside0.mk (KeepBut.blk hk (g' := gb459) (o := .cells #[.int .i64 (wrap64 (1 + t443)), .int .i64 (wrap64 (1 + t445)), .int .i64 t447, .int .i64 t462, .int .i64 0, .bool (t455 == 0), .bool true, .bool (t457 == 0), .bool false, .slice none 0 0, .slice Ao20 t451.length co20] 52 (0, 0)) (by refine kb_ ?_; refine blk_put (cs := #[.int .i64 (wrap64 (1 + t443)), .int .i64 (wrap64 (1 + t445)), .int .i64 t447, .int .i64 0, .int .i64 0, .bool (t455 == 0), .bool true, .bool (t457 == 0), .bool false, .slice none 0 0, .slice Ao20 t451.length co20]) ?_ 3 _ rfl; refine kb_ ?_; exact BK459.out) NB459_0.out (by simp)); replace HK := (kk_ HK hk); replace HB := Aside0.mk (hb); replace HI0 := Aside0.mk (hi); (try clear hb); (try clear hb2); (try clear hk); (try clear hi); have Z36 := zz11 BK459) | ((with_reducible refine gate_callee (f := 40) rfl ?_); refine goesL_ (some 37) rfl rfl Try.func40 (by kernel_rfl) rfl #[.pointer (some ⟨g, 0, none⟩), .int .i64 3] rfl ar_ ?_; (with_reducible refine (spec_l20Rd_pick.calls k g s0_0 t465 3 t466 t467 w0 _ ?side1 ?side2 A29.out).mono ?_); (case side1 => exact is102_ HI0.out); (case side2 => exact hb102_ HB.out); rintro e w37 ⟨rfl, hi, hb, hk⟩; refine ⟨_, rfl, ?_⟩; replace BK442 := Aside0.mk (KeepBut.blk hk (g' := gb442) (o := .cells #[.int .i64 0, .int .i64 0, .int .i64 0, .int .i64 0, .int .i64 0, .bool false, .bool false, .bool false, .bool false, .slice none 0 0, .slice none 0 0] 52 (0, 0)) (by exact kf_ BK442.out) NB442_0.out (by simp)); replace HO453 := Aside0.mk (Kd.R_mono (Kd.R_keep (IsS102.apart (show IsS102 w0 _ g s0_0 t465 from is102_ HI0.out) (by refine kR_ ?_; exact (Kd.R_mono (Kd.R_f gb459 4 (.int .i64 t464) (Kd.R_types HO453.out BK459.out (by decide))) (fun _ h_ => op1_ h_))) (by decide)) hk (fun _ h => h.2)) (fun _ h => h.1)); replace BK459 := Aside0.mk (KeepBut.blk hk (g' := gb459) (o := .cells #[.int .i64 (wrap64 (1 + t443)), .int .i64 (wrap64 (1 + t445)), .int .i64 t447, .int .i64 t462, .int .i64 t464, .bool (t455 == 0), .bool true, .bool (t457 == 0), .bool false, .slice none 0 0, .slice Ao20 t451.length co20] 52 (0, 0)) (by refine kb_ ?_; refine blk_put (cs := #[.int .i64 (wrap64 (1 + t443)), .int .i64 (wrap64 (1 + t445)), .int .i64 t447, .int .i64 t462, .int .i64 0, .bool (t455 == 0), .bool true, .bool (t457 == 0), .bool false, .slice none 0 0, .slice Ao20 t451.length co20]) ?_ 4 _ rfl; refine kb_ ?_; exact BK459.out) NB459_0.out (by simp)); replace HK := (kk_ HK hk); replace HB := Aside0.mk (hb); replace HI0 := Aside0.mk (hi); (try clear hb); (try clear hb2); (try clear hk); (try clear hi)))
   go_loopg [6] k (fun kq v6 w' => ∃ (x6_1 : Int) (x1001_1 : Int) (x460009_1 : List (S90)) (u460009 : Value), v6 = .int .i64 x6_1 ∧ Aside0 (spec_l20Segment.l0 kq a1 x6_1 s0_0 x1001_1 (wrap64 (1 + t443)) (wrap64 (1 + t445)) t447 t462 t464 (t455 == 0) true (t457 == 0) false x460009_1 t451 = some (r1, r2, r3, r4, r5, r6, r7, r8, r9, r10, r11, r12)) ∧ Aside0 (kq ≤ k) ∧ Aside0 (Kd.R k90 90 w' w.heap.size (fun _ => True) u460009 x460009_1) ∧ Aside0 (Kd.R (Kd.int .u8) 5 w' w.heap.size (fun _ => True) (.slice Ao20 t451.length co20) t451) ∧ Aside0 (w'.heap[gb442]? = some (.cells #[.int .i64 0, .int .i64 0, .int .i64 0, .int .i64 0, .int .i64 0, .bool false, .bool false, .bool false, .bool false, (.slice none 0 0), (.slice none 0 0)] 52 (0, 0))) ∧ Aside0 (w'.heap[gb459]? = some (.cells #[.int .i64 (wrap64 (1 + t443)), .int .i64 (wrap64 (1 + t445)), .int .i64 t447, .int .i64 t462, .int .i64 t464, .bool (t455 == 0), .bool true, .bool (t457 == 0), .bool false, u460009, (.slice Ao20 t451.length co20)] 52 (0, 0))) ∧ Aside0 (IsS102 w0 w' g s0_0 x1001_1) ∧ Aside0 (KeepBut w w' g none) ∧ Aside0 (Below w0.heap.size w0 w'))
   case atStart => exact ⟨(t466), (t467), (([] : List (S90))), (.slice none 0 0), (by first | rfl | (simp; done) | (simp [*]; done)), H', ⟨Nat.le_refl _⟩, ⟨by first | exact Kd.R_nil _ _ _ _ _ | exact Kd.N_nil _ _ _ _ _ | exact Kd.V_nil _ _ _ _ _ | exact Kd.Q_nil _ _ _ _ _ | exact Kd.S_nil _ _ _ _ _⟩, ⟨kR_ HO453.out⟩, ⟨by refine kb_ ?_; exact BK442.out⟩, ⟨by refine kb_ ?_; exact BK459.out⟩, ⟨is102_ HI0.out⟩, ⟨hkA_ HK.out⟩, ⟨hb102_ HB.out⟩⟩
   case round =>
    clear H'; (try clear c2); (try clear p2); (try clear c3); (try clear c4); (try clear c6); (try clear p6); (try clear c7); (try clear c9); (try clear c22); (try clear c23); (try clear c26); (try clear c26b0); (try clear c30); (try clear c31); (try clear Z24); (try clear Z32); (try clear Z34); (try clear Z36)
    obtain ⟨x6_1, x1001_1, x460009_1, u460009, rfl, HA, HK1, HO_460009, HO_460010, BK442, BK459, HI0, HK, HB⟩ := hrel
    cases gk with
    | zero => exact absurd HA.out (by simp [spec_l20Segment.l0])
    | succ k1 =>
     have H := HA.out; clear HA
     simp only [spec_l20Segment.l0] at H
     by_cases c38 : x6_1 > 0
     ·rw [if_pos c38] at H
      have c38b0 : decide (0 < x6_1) = true := decide_eq_true c38
      clear c38
      replace H := Option.bind_eq_some_iff.mp H
      obtain ⟨⟨t468, t469⟩, A390, H⟩ := H
      (try dsimp only at H)
      have A39 := Aside0.mk A390; clear A390
      replace H := Option.bind_eq_some_iff.mp H
      obtain ⟨⟨t470, t471⟩, A400, H⟩ := H
      (try dsimp only at H)
      have A40 := Aside0.mk A400; clear A400
      by_cases c41 : x460009_1.length < 8796093022208
      ·rw [if_pos c41] at H
       have LMc41 := Aside0.mk c41; clear c41
       obtain ⟨y472, hy472⟩ : ∃ y_ : List (S90), y_ = (x460009_1 ++ [(⟨t468, t470⟩ : S90)]) := ⟨_, rfl⟩
       (first | replace H := sb_ hy472 H | rw [← hy472] at H)
       have Ny472 := Aside0.mk hy472; clear hy472
       have H' := Aside0.mk H
       clear H
       try go_wp2
       replace HO_460009 := Aside0.mk (Kd.R_drew HO_460009.out); replace HO_460010 := Aside0.mk (Kd.R_drew HO_460010.out); replace BK442 := Aside0.mk (blk_drew BK442.out); replace BK459 := Aside0.mk (blk_drew BK459.out); replace HI0 := Aside0.mk (IsS102.drew HI0.out); replace HK := Aside0.mk (keep_drew HK.out); replace HB := (bd_ HB)
       refine start_ (n := 11) (S := fun w' => w'.cell? ⟨gb459, 0, none⟩ = some (.int .i64 (wrap64 (1 + t443))) ∧ w'.cell? ⟨gb459, 1, none⟩ = some (.int .i64 (wrap64 (1 + t445))) ∧ w'.cell? ⟨gb459, 2, none⟩ = some (.int .i64 t447) ∧ w'.cell? ⟨gb459, 3, none⟩ = some (.int .i64 t462) ∧ w'.cell? ⟨gb459, 4, none⟩ = some (.int .i64 t464) ∧ w'.cell? ⟨gb459, 5, none⟩ = some (.bool (t455 == 0)) ∧ w'.cell? ⟨gb459, 6, none⟩ = some (.bool true) ∧ w'.cell? ⟨gb459, 7, none⟩ = some (.bool (t457 == 0)) ∧ w'.cell? ⟨gb459, 8, none⟩ = some (.bool false) ∧ w'.cell? ⟨gb459, 9, none⟩ = some (u460009) ∧ w'.cell? ⟨gb459, 10, none⟩ = some (.slice Ao20 t451.length co20)) (ds := [10]) #[false, false, false, false, false, false, false, false, false, false, false] (by kernel_rfl) rfl rfl (cz11 BK459.out) (fun hHeld => ?_); refine with_tabW spec_l20Segment.tab9 spec_l20Segment.bits9 (fun HT_ HW_ => ?_)
       generalize wr.drew = w42 at HO_460009 HO_460010 BK442 BK459 HI0 HK HB hHeld ⊢
       refine pu_ (i := 0) (N := some 42) HT_ ?_; refine pu_ (i := 2) (N := some 44) HT_ ?_; refine pu_ (i := 4) (N := some 46) HT_ ?_; refine tk_ (i := 1) (N := some 43) HT_ HW_ hHeld ?_
       refine on_ (i := 3) (N := some 45) HT_ (fun K hK => ?_)
       refine goes_ Try.func95 (by kernel_rfl) rfl #[.pointer (some ⟨g, 0, none⟩)] (by rfl) rfl rfl ar_ ?_
       with_reducible refine (spec_l20Rd_seq.calls k1 g s0_0 x1001_1 t468 t469 w0 _ ?side1 ?side2 A39.out).mono ?_
       (case side1 => exact is102_ HI0.out)
       (case side2 => exact hb102_ HB.out)
       rintro e w43 ⟨rfl, hi, hb, hk⟩
       refine ⟨_, rfl, ?_⟩
       replace HO_460009 := (rk102_ HI0 HO_460009 hk); replace HO_460010 := (rk102_ HI0 HO_460010 hk); replace BK442 := (bkA_ BK442 hk NB442_0); replace BK459 := (bkA_ BK459 hk NB459_0); replace HK := (kk_ HK hk); replace HB := Aside0.mk (hb); replace HI0 := Aside0.mk (hi); (try clear hb); (try clear hb2); (try clear hk); (try clear hi)
       refine hK.out _ _ (cz11 BK459.out) (fun hHeld => ?_)
       clear hK K; refine nm_ 45 ?_
       refine on_ (i := 5) (N := some 47) HT_ (fun K hK => ?_)
       refine goes_ Try.func95 (by kernel_rfl) rfl #[.pointer (some ⟨g, 0, none⟩)] (by rfl) rfl rfl ar_ ?_
       with_reducible refine (spec_l20Rd_seq.calls k1 g s0_0 t469 t470 t471 w0 _ ?side1 ?side2 A40.out).mono ?_
       (case side1 => exact is102_ HI0.out)
       (case side2 => exact hb102_ HB.out)
       rintro e w44 ⟨rfl, hi, hb, hk⟩
       refine ⟨_, rfl, ?_⟩
       replace HO_460009 := (rk102_ HI0 HO_460009 hk); replace HO_460010 := (rk102_ HI0 HO_460010 hk); replace BK442 := (bkA_ BK442 hk NB442_0); replace BK459 := (bkA_ BK459 hk NB459_0); replace HK := (kk_ HK hk); replace HB := Aside0.mk (hb); replace HI0 := Aside0.mk (hi); (try clear hb); (try clear hb2); (try clear hk); (try clear hi)
       refine hK.out _ _ (cz11 BK459.out) (fun hHeld => ?_)
       clear hK K; refine nm_ 47 ?_; refine pu_ (i := 6) (N := some 48) HT_ ?_
       refine on_ (i := 7) (N := some 49) HT_ (fun K hK => ?_)
       refine value_ (w1 := ?_) (v := ?_) (by rfl) rfl ?_ ?_
       rotate_left 2
       ·go_simp
        constructor
        ·rfl
        ·rfl
       refine hK.out _ _ ⟨(blk_cell (blk_alloc BK459.out _) 0).trans rfl, (blk_cell (blk_alloc BK459.out _) 1).trans rfl, (blk_cell (blk_alloc BK459.out _) 2).trans rfl, (blk_cell (blk_alloc BK459.out _) 3).trans rfl, (blk_cell (blk_alloc BK459.out _) 4).trans rfl, (blk_cell (blk_alloc BK459.out _) 5).trans rfl, (blk_cell (blk_alloc BK459.out _) 6).trans rfl, (blk_cell (blk_alloc BK459.out _) 7).trans rfl, (blk_cell (blk_alloc BK459.out _) 8).trans rfl, (blk_cell (blk_alloc BK459.out _) 9).trans rfl, (blk_cell (blk_alloc BK459.out _) 10).trans rfl⟩ (fun hHeld => ?_)
       clear hK K; refine nm_ 49 ?_
       refine on_ (i := 8) (N := some 50) HT_ (fun K hK => ?_)
       refine Kd.R_append_step k90 w.heap.size (by rfl) (.tmp 43) (.tmp 49) 50 90 (.agg #[(.int .i64 0), (.int .i64 0)]) 16 rfl Try.underlying50 info90 rfl (by decide) (by omega) u460009 x460009_1 (⟨t468, t470⟩ : S90) [.int .i64 t468, .int .i64 t470] (fun _ => True) (fun _ => False) rfl rfl ?aP (fun _ hk => hk.elim) ?aF ?aO (Below.refl _ _) ?aS ?aL ?_
       (case aP => exact k90_mkM _ _ _ (⟨t468, t470⟩ : S90))
       (case aF => exact (fun _ _ => trivial))
       (case aO => exact (kR_ HO_460009.out))
       (case aS => exact (keep_size (w := w) (g := g) (row := none) (hkA_ HK.out)))
       (case aL => have := LMc41.out; omega)
       intro v473 w45 ho hb hg hat
       rw [← Ny472.out] at ho
       have n0_ := Aside0.mk (Kd.R_over' (kR_ HO_460010.out) (Kd.R_typed (kR_ HO_460009.out)) (by decide) hg); have n1_ := (bgA_ BK442 hg (Kd.R_ne HO_460009.out BK442.out (by decide))); have n2_ := (bgA_ BK459 hg (Kd.R_ne HO_460009.out BK459.out (by decide))); have n3_ := Aside0.mk (IsS102.grown (is102_ HI0.out) hg (IsS102.own_ne HI0.out HO_460009.out (by decide))); have n4_ := Aside0.mk (below_weaken (hb102_ HB.out) HL.out hb); have n5_ := Aside0.mk (KeepBut.trans (hkA_ HK.out) (KeepBut.of_grown hg g) (Kd.R_base2 HO_460009.out)); have n6_ := Aside0.mk (ho); clear HO_460010 BK442 BK459 HI0 HB HK HO_460009; have HO_460010 := n0_; have BK442 := n1_; have BK459 := n2_; have HI0 := n3_; have HB := n4_; have HK := n5_; have HO474 := n6_; clear n0_ n1_ n2_ n3_ n4_ n5_ n6_ ho hb hg hat
       obtain ⟨Ao46, co46, eo46⟩ := Kd.R_slice HO474.out
       (first | subst eo46 | (injection eo46 with f1_ f2_ f3_; have f4_ := f1_.symm; have f5_ := f3_.symm; clear f1_ f2_ f3_; subst f4_; subst f5_))
       refine hK.out _ _ (cz11 BK459.out) (fun hHeld => ?_)
       clear hK K; refine nm_ 50 ?_; refine pu_ (i := 9) (N := some 51) HT_ ?_
       refine last_ (i := 10) (N := none) #[true, true, true, true, true, true, true, true, true, true, true] rfl rfl (one_of HT_.out (by kernel_rfl)) (by decide) (fun K hK => ?_)
       have hs47 : w45.cell? ⟨gb459, 9, none⟩ = some (u460009) := bc_ BK459 9
       have hfs47 := blk_frozen BK459.out 9
       have hns47_0 := NB442_459.out; have hms47_0 := NB459_442.out
       refine skip_ (w1 := ?_) (by rfl) rfl ?_ ?_
       rotate_left
       ·go_simp
        rfl
       refine hK.out _ _ ?_
       clear hK K
       refine done_ (done_of HT_.out (by kernel_rfl)) ?_
       try go_wp2
       go_roundg k1
       case measure => have := HK1.out; omega
       case rel => exact ⟨(wrap64 (x6_1 - 1)), (t471), (y472), (.slice Ao46 y472.length co46), (by first | rfl | (simp; done) | (simp [*]; done)), H', ⟨by have := HK1.out; omega⟩, ⟨by refine kR_ ?_; exact Kd.R_mono (Kd.R_f gb459 9 (.slice Ao46 y472.length co46) (Kd.R_types HO474.out BK459.out (by decide))) (fun _ hk => trivial)⟩, ⟨by refine kR_ ?_; exact Kd.R_mono (Kd.R_f gb459 9 (.slice Ao46 y472.length co46) (Kd.R_types HO_460010.out BK459.out (by decide))) (fun _ hk => trivial)⟩, ⟨by exact kf_ BK442.out⟩, ⟨by refine kb_ ?_; refine blk_put (cs := #[.int .i64 (wrap64 (1 + t443)), .int .i64 (wrap64 (1 + t445)), .int .i64 t447, .int .i64 t462, .int .i64 t464, .bool (t455 == 0), .bool true, .bool (t457 == 0), .bool false, u460009, .slice Ao20 t451.length co20]) ?_ 9 _ rfl; refine kb_ ?_; exact BK459.out⟩, ⟨is102_ HI0.out⟩, ⟨hkA_ HK.out⟩, ⟨hb102_ HB.out⟩⟩
      ·rw [if_neg c41] at H
       exact absurd H (by simp)
     ·rw [if_neg c38] at H
      have c38b0 : decide (0 < x6_1) = false := decide_eq_false c38
      clear c38
      have H' := Aside0.mk H
      clear H
      go_wp2
      go_meet
      case rel => exact ⟨_, (x1001_1), (t462), (t464), (true), (x460009_1), (u460009), H', ⟨by have := HK1.out; first | omega | exact Nat.le_refl _⟩, ⟨kR_ HO_460009.out⟩, ⟨kR_ HO_460010.out⟩, ⟨by refine kb_ ?_; exact BK442.out⟩, ⟨by refine kb_ ?_; exact BK459.out⟩, ⟨is102_ HI0.out⟩, ⟨hkA_ HK.out⟩, ⟨hb102_ HB.out⟩⟩
  ·rw [if_neg c26] at H
   have c26b0 : decide (0 < t460) = false := decide_eq_false c26
   clear c26
   (first | rw [c26b0] | (simp only [i64_w, i32_w]; rw [c26b0]) | skip)
   have H' := Aside0.mk H
   clear H
   go_wp2
   go_meet
   case rel => exact ⟨_, (t461), (0), (0), (false), (([] : List (S90))), (.slice none 0 0), H', ⟨by first | omega | exact Nat.le_refl _⟩, ⟨by first | exact Kd.R_nil _ _ _ _ _ | exact Kd.N_nil _ _ _ _ _ | exact Kd.V_nil _ _ _ _ _ | exact Kd.Q_nil _ _ _ _ _ | exact Kd.S_nil _ _ _ _ _⟩, ⟨kR_ HO453.out⟩, ⟨by refine kb_ ?_; exact BK442.out⟩, ⟨by refine kb_ ?_; exact BK459.out⟩, ⟨is102_ HI0.out⟩, ⟨hkA_ HK.out⟩, ⟨hb102_ HB.out⟩⟩
 case rest =>
  clear HC11; (try clear c2); (try clear p2); (try clear c3); (try clear c4); (try clear c6); (try clear p6); (try clear c7); (try clear c9); (try clear c22); (try clear c23); (try clear c26); (try clear c26b0); (try clear c30); (try clear c31); (try clear c38); (try clear c38b0); (try clear c40); (try clear c41); (try clear Z24); (try clear Z32); (try clear Z34); (try clear Z36); (try clear p2); (try clear p6)
  obtain ⟨kq, x1001_10, x460003_10, x460004_10, x460006_10, x460009_10, u460009, HA, HJ10, HO_460009, HO_460010, BK442, BK459, HI0, HK, HB⟩ := hcut
  cases kq with
  | zero => exact absurd HA.out (by simp [spec_l20Segment.j1])
  | succ kj10 =>
   have H := HA.out; clear HA
   simp only [spec_l20Segment.j1] at H
   replace H := Option.bind_eq_some_iff.mp H
   obtain ⟨⟨t475, t476⟩, A480, H⟩ := H
   (try dsimp only at H)
   have A48 := Aside0.mk A480; clear A480; have HC49 := Aside0.mk H; clear H
   go_upto_if 54 with (first | ((with_reducible refine gate_callee (f := 40) rfl ?_); refine goesL_ (some 53) rfl rfl Try.func40 (by kernel_rfl) rfl #[.pointer (some ⟨g, 0, none⟩), .int .i64 8] rfl ar_ ?_; (with_reducible refine (spec_l20Rd_pick.calls kj10 g s0_0 x1001_10 8 t475 t476 w0 _ ?side1 ?side2 A48.out).mono ?_); (case side1 => exact is102_ HI0.out); (case side2 => exact hb102_ HB.out); rintro e w50 ⟨rfl, hi, hb, hk⟩; refine ⟨_, rfl, ?_⟩; replace HO_460009 := (rk102_ HI0 HO_460009 hk); replace HO_460010 := (rk102_ HI0 HO_460010 hk); replace BK442 := (bkA_ BK442 hk NB442_0); replace BK459 := (bkA_ BK459 hk NB459_0); replace HK := (kk_ HK hk); replace HB := Aside0.mk (hb); replace HI0 := Aside0.mk (hi); (try clear hb); (try clear hb2); (try clear hk); (try clear hi)))
   (try simp only [Act.put, List.setIfInBounds_toArray, List.set_cons_zero, List.set_cons_succ])
   go_cut [] (fun wc => ∃ (kq : Nat) (x460005_48 : Bool) (x460007_48 : Bool) (x460008_48 : Bool) (x460010_48 : List Int) (u460010 : Value), Aside0 (spec_l20Segment.j2 kq a1 s0_0 t476 (wrap64 (1 + t443)) (wrap64 (1 + t445)) t447 x460003_10 x460004_10 x460005_48 x460006_10 x460007_48 x460008_48 x460009_10 x460010_48 = some (r1, r2, r3, r4, r5, r6, r7, r8, r9, r10, r11, r12)) ∧ Aside0 (kq ≤ kj10) ∧ Aside0 (Kd.R k90 90 wc w.heap.size (fun _ => True) u460009 x460009_10) ∧ Aside0 (Kd.R (Kd.int .u8) 5 wc w.heap.size (fun _ => True) u460010 x460010_48) ∧ Aside0 (wc.heap[gb442]? = some (.cells #[.int .i64 0, .int .i64 0, .int .i64 0, .int .i64 0, .int .i64 0, .bool false, .bool false, .bool false, .bool false, (.slice none 0 0), (.slice none 0 0)] 52 (0, 0))) ∧ Aside0 (wc.heap[gb459]? = some (.cells #[.int .i64 (wrap64 (1 + t443)), .int .i64 (wrap64 (1 + t445)), .int .i64 t447, .int .i64 x460003_10, .int .i64 x460004_10, .bool x460005_48, .bool x460006_10, .bool x460007_48, .bool x460008_48, u460009, u460010] 52 (0, 0))) ∧ Aside0 (IsS102 w0 wc g s0_0 t476) ∧ Aside0 (KeepBut w wc g none) ∧ Aside0 (Below w0.heap.size w0 wc))
   case first =>
    have H := HC49.out; clear HC49
    by_cases c51 : t475 = 0
    ·rw [if_pos c51] at H
     have c51b0 : (t475 == 0) = true := beq_iff_eq.mpr c51
     have c51b1 : (t475 != 0) = false := bne_eq_false_iff_eq.mpr c51
     clear c51
     (first | rw [c51b0] | (simp only [i64_w, i32_w]; rw [c51b0]) | skip)
     have H' := Aside0.mk H
     clear H; have hnb52 := NB459_442.out; have hnc52 := NB442_459.out; have hnb53 := NB459_0.out; have hnc53 := NB0_459.out; have Z54 := zz11 BK459
     go_wp2
     go_meet
     case rel => exact ⟨_, (false), (false), (true), (([] : List Int)), (.slice none 0 0), H', ⟨by have := HJ10.out; first | omega | exact Nat.le_refl _⟩, ⟨by refine kR_ ?_; exact rfm_ ((Kd.R_types HO_460009.out BK459.out (by decide))) (fun _ hk => trivial)⟩, ⟨by first | exact Kd.R_nil _ _ _ _ _ | exact Kd.N_nil _ _ _ _ _ | exact Kd.V_nil _ _ _ _ _ | exact Kd.Q_nil _ _ _ _ _ | exact Kd.S_nil _ _ _ _ _⟩, ⟨by exact kf_ BK442.out⟩, ⟨by refine kb_ ?_; refine blk_put (cs := #[.int .i64 (wrap64 (1 + t443)), .int .i64 (wrap64 (1 + t445)), .int .i64 t447, .int .i64 x460003_10, .int .i64 x460004_10, .bool false, .bool x460006_10, .bool false, .bool true, u460009, .slice Ao20 t451.length co20]) ?_ 10 _ rfl; refine kb_ ?_; refine blk_put (cs := #[.int .i64 (wrap64 (1 + t443)), .int .i64 (wrap64 (1 + t445)), .int .i64 t447, .int .i64 x460003_10, .int .i64 x460004_10, .bool false, .bool x460006_10, .bool (t457 == 0), .bool true, u460009, .slice Ao20 t451.length co20]) ?_ 7 _ rfl; refine kb_ ?_; refine blk_put (cs := #[.int .i64 (wrap64 (1 + t443)), .int .i64 (wrap64 (1 + t445)), .int .i64 t447, .int .i64 x460003_10, .int .i64 x460004_10, .bool (t455 == 0), .bool x460006_10, .bool (t457 == 0), .bool true, u460009, .slice Ao20 t451.length co20]) ?_ 5 _ rfl; refine kb_ ?_; refine blk_put (cs := #[.int .i64 (wrap64 (1 + t443)), .int .i64 (wrap64 (1 + t445)), .int .i64 t447, .int .i64 x460003_10, .int .i64 x460004_10, .bool (t455 == 0), .bool x460006_10, .bool (t457 == 0), .bool false, u460009, .slice Ao20 t451.length co20]) ?_ 8 _ rfl; refine kb_ ?_; exact BK459.out⟩, ⟨is102_ HI0.out⟩, ⟨hkA_ HK.out⟩, ⟨hb102_ HB.out⟩⟩
    ·rw [if_neg c51] at H
     have c51b0 : (t475 == 0) = false := beq_eq_false_iff_ne.mpr c51
     have c51b1 : (t475 != 0) = true := bne_iff_ne.mpr c51
     (first | rw [c51b0] | (simp only [i64_w, i32_w]; rw [c51b0]) | skip)
     have H' := Aside0.mk H
     clear H
     go_wp2
     go_meet
     case rel => exact ⟨_, ((t455 == 0)), ((t457 == 0)), (false), (t451), (.slice Ao20 t451.length co20), H', ⟨by have := HJ10.out; first | omega | exact Nat.le_refl _⟩, ⟨kR_ HO_460009.out⟩, ⟨kR_ HO_460010.out⟩, ⟨by refine kb_ ?_; exact BK442.out⟩, ⟨by refine kb_ ?_; exact BK459.out⟩, ⟨is102_ HI0.out⟩, ⟨hkA_ HK.out⟩, ⟨hb102_ HB.out⟩⟩
   case rest =>
    clear HC49; (try clear c2); (try clear p2); (try clear c3); (try clear c4); (try clear c5); (try clear c6); (try clear p6); (try clear c7); (try clear c9); (try clear c22); (try clear c23); (try clear c26); (try clear c26b0); (try clear c30); (try clear c31); (try clear c38); (try clear c38b0); (try clear c40); (try clear c41); (try clear c51); (try clear c51b0); (try clear c51b1); (try clear c52); (try clear c53); (try clear Z24); (try clear Z32); (try clear Z34); (try clear Z36); (try clear Z54); (try clear p2); (try clear p6)
    obtain ⟨kq, x460005_48, x460007_48, x460008_48, x460010_48, u460010, HA, HJ48, HO_460009, HO_460010, BK442, BK459, HI0, HK, HB⟩ := hcut
    cases kq with
    | zero => exact absurd HA.out (by simp [spec_l20Segment.j2])
    | succ kj48 =>
     have H := HA.out; clear HA
     simp only [spec_l20Segment.j2] at H
     replace H := Option.bind_eq_some_iff.mp H
     obtain ⟨⟨t477, t478⟩, A550, H⟩ := H
     (try dsimp only at H)
     have A55 := Aside0.mk A550; clear A550
     by_cases c56 : t477 = true
     ·subst c56
      rw [if_pos rfl] at H
      replace H := Option.bind_eq_some_iff.mp H
      obtain ⟨⟨t479, t480⟩, A570, H⟩ := H
      (try dsimp only at H)
      have A57 := Aside0.mk A570; clear A570
      by_cases c58 : t479 = 0
      ·rw [if_pos c58] at H
       have c58b0 : (t479 == 0) = true := beq_iff_eq.mpr c58
       have c58b1 : (t479 != 0) = false := bne_eq_false_iff_eq.mpr c58
       clear c58
       replace H := Option.bind_eq_some_iff.mp H
       obtain ⟨⟨t481, t482⟩, A590, H⟩ := H
       (try dsimp only at H)
       have A59 := Aside0.mk A590; clear A590
       simp only [Option.some.injEq, Prod.mk.injEq] at H
       obtain ⟨rfl, rfl, rfl, rfl, rfl, rfl, rfl, rfl, rfl, rfl, rfl, rfl⟩ := H
       go_wp2_with (first | ((with_reducible refine gate_callee (f := 80) rfl ?_); refine goesL_ (some 61) rfl rfl Try.func80 (by kernel_rfl) rfl #[.pointer (some ⟨g, 0, none⟩), .int .i64 a1] rfl ar_ ?_; (with_reducible refine (spec_l20Rd_odd.calls kj48 g s0_0 t476 a1 true t478 w0 _ ?side1 ?side2 A55.out).mono ?_); (case side1 => exact is102_ HI0.out); (case side2 => exact hb102_ HB.out); rintro e w60 ⟨rfl, hi, hb, hk⟩; refine ⟨_, rfl, ?_⟩; replace HO_460009 := (rk102_ HI0 HO_460009 hk); replace HO_460010 := (rk102_ HI0 HO_460010 hk); replace BK442 := (bkA_ BK442 hk NB442_0); replace BK459 := (bkA_ BK459 hk NB459_0); replace HK := (kk_ HK hk); replace HB := Aside0.mk (hb); replace HI0 := Aside0.mk (hi); (try clear hb); (try clear hb2); (try clear hk); (try clear hi)) | ((with_reducible refine gate_callee (f := 40) rfl ?_); refine goesL_ (some 63) rfl rfl Try.func40 (by kernel_rfl) rfl #[.pointer (some ⟨g, 0, none⟩), .int .i64 4] rfl ar_ ?_; (with_reducible refine (spec_l20Rd_pick.calls kj48 g s0_0 t478 4 t479 t480 w0 _ ?side1 ?side2 A57.out).mono ?_); (case side1 => exact is102_ HI0.out); (case side2 => exact hb102_ HB.out); rintro e w61 ⟨rfl, hi, hb, hk⟩; refine ⟨_, rfl, ?_⟩; replace HO_460009 := (rk102_ HI0 HO_460009 hk); replace HO_460010 := (rk102_ HI0 HO_460010 hk); replace BK442 := (bkA_ BK442 hk NB442_0); replace BK459 := (bkA_ BK459 hk NB459_0); replace HK := (kk_ HK hk); replace HB := Aside0.mk (hb); replace HI0 := Aside0.mk (hi); (try clear hb); (try clear hb2); (try clear hk); (try clear hi)) | ((with_reducible refine gate_callee (f := 40) rfl ?_); refine goesL_ (some 72) rfl rfl Try.func40 (by kernel_rfl) rfl #[.pointer (some ⟨g, 0, none⟩), .int .i64 2] rfl ar_ ?_; (with_reducible refine (spec_l20Rd_pick.calls kj48 g s0_0 t480 2 t481 t482 w0 _ ?side1 ?side2 A59.out).mono ?_); (case side1 => exact is102_ HI0.out); (case side2 => exact hb102_ HB.out); rintro e w62 ⟨rfl, hi, hb, hk⟩; refine ⟨_, rfl, ?_⟩; replace HO_460009 := (rk102_ HI0 HO_460009 hk); replace HO_460010 := (rk102_ HI0 HO_460010 hk); replace BK442 := (bkA_ BK442 hk NB442_0); replace BK459 := (bkA_ BK459 hk NB459_0); replace HK := (kk_ HK hk); replace HB := Aside0.mk (hb); replace HI0 := Aside0.mk (hi); (try clear hb); (try clear hb2); (try clear hk); (try clear hi); have hnb63 := NB459_442.out; have hnc63 := NB442_459.out; have hnb64 := NB459_0.out; have hnc64 := NB0_459.out; have Z65 := zz11 BK459; have hnb66 := NB442_0.out; have hnc66 := NB0_442.out; have Z67 := zz11 BK442; obtain ⟨Ao68, co68, eo68⟩ := Kd.R_slice HO_460009.out; subst eo68; obtain ⟨Ao69, co69, eo69⟩ := Kd.R_slice HO_460010.out; subst eo69))
       refine bodyPost_ret (results_cell_row rfl _ _ gb442 52 #[.int .i64 (wrap64 (t481 * 256)), .int .i64 (wrap64 (1 + t445)), .int .i64 t447, .int .i64 x460003_10, .int .i64 x460004_10, .bool x460005_48, .bool x460006_10, .bool x460007_48, .bool x460008_48, .slice Ao68 x460009_10.length co68, .slice Ao69 x460010_48.length co69] (0, 0) _ rfl (by refine kb_ ?_; refine pz11 (cs := #[.int .i64 0, .int .i64 0, .int .i64 0, .int .i64 0, .int .i64 0, .bool false, .bool false, .bool false, .bool false, .slice none 0 0, .slice none 0 0]) ?_; exact kf_ BK442.out) Try.underlying52 rfl (by kernel_rfl)) rfl ?_
       exact ⟨_, _, by first | rfl | (simp [errW_none, errW_some] <;> rfl) | (simp [*, errW_none, errW_some] <;> rfl), by refine kR_ ?_; exact rfm_ ((Kd.R_far (p := ⟨gb459, 0, none⟩) (Kd.R_types (Kd.R_types HO_460009.out BK459.out (by decide)) BK442.out (by decide)) (fun _ hk => hk.1.2) (.int .i64 (wrap64 (t481 * 256))))) (fun _ hk => trivial), by refine kR_ ?_; exact rfm_ ((Kd.R_far (p := ⟨gb459, 0, none⟩) (Kd.R_types (Kd.R_types HO_460010.out BK459.out (by decide)) BK442.out (by decide)) (fun _ hk => hk.1.2) (.int .i64 (wrap64 (t481 * 256))))) (fun _ hk => trivial), is102_ HI0.out, hb102_ HB.out, hkA_ HK.out⟩
      ·rw [if_neg c58] at H
       have c58b0 : (t479 == 0) = false := beq_eq_false_iff_ne.mpr c58
       have c58b1 : (t479 != 0) = true := bne_iff_ne.mpr c58
       by_cases c70 : t479 = 1
       ·rw [if_pos c70] at H
        have c70b0 : (t479 == 1) = true := beq_iff_eq.mpr c70
        have c70b1 : (t479 != 1) = false := bne_eq_false_iff_eq.mpr c70
        clear c70
        replace H := Option.bind_eq_some_iff.mp H
        obtain ⟨⟨t483, t484⟩, A710, H⟩ := H
        (try dsimp only at H)
        have A71 := Aside0.mk A710; clear A710
        simp only [Option.some.injEq, Prod.mk.injEq] at H
        obtain ⟨rfl, rfl, rfl, rfl, rfl, rfl, rfl, rfl, rfl, rfl, rfl, rfl⟩ := H
        go_wp2_with (first | ((with_reducible refine gate_callee (f := 80) rfl ?_); refine goesL_ (some 61) rfl rfl Try.func80 (by kernel_rfl) rfl #[.pointer (some ⟨g, 0, none⟩), .int .i64 a1] rfl ar_ ?_; (with_reducible refine (spec_l20Rd_odd.calls kj48 g s0_0 t476 a1 true t478 w0 _ ?side1 ?side2 A55.out).mono ?_); (case side1 => exact is102_ HI0.out); (case side2 => exact hb102_ HB.out); rintro e w72 ⟨rfl, hi, hb, hk⟩; refine ⟨_, rfl, ?_⟩; replace HO_460009 := (rk102_ HI0 HO_460009 hk); replace HO_460010 := (rk102_ HI0 HO_460010 hk); replace BK442 := (bkA_ BK442 hk NB442_0); replace BK459 := (bkA_ BK459 hk NB459_0); replace HK := (kk_ HK hk); replace HB := Aside0.mk (hb); replace HI0 := Aside0.mk (hi); (try clear hb); (try clear hb2); (try clear hk); (try clear hi)) | ((with_reducible refine gate_callee (f := 40) rfl ?_); refine goesL_ (some 63) rfl rfl Try.func40 (by kernel_rfl) rfl #[.pointer (some ⟨g, 0, none⟩), .int .i64 4] rfl ar_ ?_; (with_reducible refine (spec_l20Rd_pick.calls kj48 g s0_0 t478 4 t479 t480 w0 _ ?side1 ?side2 A57.out).mono ?_); (case side1 => exact is102_ HI0.out); (case side2 => exact hb102_ HB.out); rintro e w73 ⟨rfl, hi, hb, hk⟩; refine ⟨_, rfl, ?_⟩; replace HO_460009 := (rk102_ HI0 HO_460009 hk); replace HO_460010 := (rk102_ HI0 HO_460010 hk); replace BK442 := (bkA_ BK442 hk NB442_0); replace BK459 := (bkA_ BK459 hk NB459_0); replace HK := (kk_ HK hk); replace HB := Aside0.mk (hb); replace HI0 := Aside0.mk (hi); (try clear hb); (try clear hb2); (try clear hk); (try clear hi)) | ((with_reducible refine gate_callee (f := 40) rfl ?_); refine goesL_ (some 78) rfl rfl Try.func40 (by kernel_rfl) rfl #[.pointer (some ⟨g, 0, none⟩), .int .i64 2] rfl ar_ ?_; (with_reducible refine (spec_l20Rd_pick.calls kj48 g s0_0 t480 2 t483 t484 w0 _ ?side1 ?side2 A71.out).mono ?_); (case side1 => exact is102_ HI0.out); (case side2 => exact hb102_ HB.out); rintro e w74 ⟨rfl, hi, hb, hk⟩; refine ⟨_, rfl, ?_⟩; replace HO_460009 := (rk102_ HI0 HO_460009 hk); replace HO_460010 := (rk102_ HI0 HO_460010 hk); replace BK442 := (bkA_ BK442 hk NB442_0); replace BK459 := (bkA_ BK459 hk NB459_0); replace HK := (kk_ HK hk); replace HB := Aside0.mk (hb); replace HI0 := Aside0.mk (hi); (try clear hb); (try clear hb2); (try clear hk); (try clear hi); have hnb75 := NB459_442.out; have hnc75 := NB442_459.out; have hnb76 := NB459_0.out; have hnc76 := NB0_459.out; have Z77 := zz11 BK459; have hnb78 := NB442_0.out; have hnc78 := NB0_442.out; have Z79 := zz11 BK442; obtain ⟨Ao80, co80, eo80⟩ := Kd.R_slice HO_460009.out; subst eo80; obtain ⟨Ao81, co81, eo81⟩ := Kd.R_slice HO_460010.out; subst eo81))
        refine bodyPost_ret (results_cell_row rfl _ _ gb442 52 #[.int .i64 (wrap64 (1 + t443)), .int .i64 (wrap64 (1 + t445)), .int .i64 (wrap64 (65536 - (wrap64 (t483 * 65540)))), .int .i64 x460003_10, .int .i64 x460004_10, .bool x460005_48, .bool x460006_10, .bool x460007_48, .bool x460008_48, .slice Ao80 x460009_10.length co80, .slice Ao81 x460010_48.length co81] (0, 0) _ rfl (by refine kb_ ?_; refine pz11 (cs := #[.int .i64 0, .int .i64 0, .int .i64 0, .int .i64 0, .int .i64 0, .bool false, .bool false, .bool false, .bool false, .slice none 0 0, .slice none 0 0]) ?_; exact kf_ BK442.out) Try.underlying52 rfl (by kernel_rfl)) rfl ?_
        exact ⟨_, _, by first | rfl | (simp [errW_none, errW_some] <;> rfl) | (simp [*, errW_none, errW_some] <;> rfl), by refine kR_ ?_; exact rfm_ ((Kd.R_far (p := ⟨gb459, 2, none⟩) (Kd.R_types (Kd.R_types HO_460009.out BK459.out (by decide)) BK442.out (by decide)) (fun _ hk => hk.1.2) (.int .i64 (wrap64 (65536 - (wrap64 (t483 * 65540))))))) (fun _ hk => trivial), by refine kR_ ?_; exact rfm_ ((Kd.R_far (p := ⟨gb459, 2, none⟩) (Kd.R_types (Kd.R_types HO_460010.out BK459.out (by decide)) BK442.out (by decide)) (fun _ hk => hk.1.2) (.int .i64 (wrap64 (65536 - (wrap64 (t483 * 65540))))))) (fun _ hk => trivial), is102_ HI0.out, hb102_ HB.out, hkA_ HK.out⟩
       ·rw [if_neg c70] at H
        have c70b0 : (t479 == 1) = false := beq_eq_false_iff_ne.mpr c70
        have c70b1 : (t479 != 1) = true := bne_iff_ne.mpr c70
        by_cases c82 : t479 = 2
        ·rw [if_pos c82] at H
         have c82b0 : (t479 == 2) = true := beq_iff_eq.mpr c82
         have c82b1 : (t479 != 2) = false := bne_eq_false_iff_eq.mpr c82
         clear c82
         simp only [Option.some.injEq, Prod.mk.injEq] at H
         obtain ⟨rfl, rfl, rfl, rfl, rfl, rfl, rfl, rfl, rfl, rfl, rfl, rfl⟩ := H
         go_wp2_with (first | ((with_reducible refine gate_callee (f := 80) rfl ?_); refine goesL_ (some 61) rfl rfl Try.func80 (by kernel_rfl) rfl #[.pointer (some ⟨g, 0, none⟩), .int .i64 a1] rfl ar_ ?_; (with_reducible refine (spec_l20Rd_odd.calls kj48 g s0_0 t476 a1 true t478 w0 _ ?side1 ?side2 A55.out).mono ?_); (case side1 => exact is102_ HI0.out); (case side2 => exact hb102_ HB.out); rintro e w83 ⟨rfl, hi, hb, hk⟩; refine ⟨_, rfl, ?_⟩; replace HO_460009 := (rk102_ HI0 HO_460009 hk); replace HO_460010 := (rk102_ HI0 HO_460010 hk); replace BK442 := (bkA_ BK442 hk NB442_0); replace BK459 := (bkA_ BK459 hk NB459_0); replace HK := (kk_ HK hk); replace HB := Aside0.mk (hb); replace HI0 := Aside0.mk (hi); (try clear hb); (try clear hb2); (try clear hk); (try clear hi)) | ((with_reducible refine gate_callee (f := 40) rfl ?_); refine goesL_ (some 63) rfl rfl Try.func40 (by kernel_rfl) rfl #[.pointer (some ⟨g, 0, none⟩), .int .i64 4] rfl ar_ ?_; (with_reducible refine (spec_l20Rd_pick.calls kj48 g s0_0 t478 4 t479 t480 w0 _ ?side1 ?side2 A57.out).mono ?_); (case side1 => exact is102_ HI0.out); (case side2 => exact hb102_ HB.out); rintro e w84 ⟨rfl, hi, hb, hk⟩; refine ⟨_, rfl, ?_⟩; replace HO_460009 := (rk102_ HI0 HO_460009 hk); replace HO_460010 := (rk102_ HI0 HO_460010 hk); replace BK442 := (bkA_ BK442 hk NB442_0); replace BK459 := (bkA_ BK459 hk NB459_0); replace HK := (kk_ HK hk); replace HB := Aside0.mk (hb); replace HI0 := Aside0.mk (hi); (try clear hb); (try clear hb2); (try clear hk); (try clear hi); have hnb85 := NB459_442.out; have hnc85 := NB442_459.out; have hnb86 := NB459_0.out; have hnc86 := NB0_459.out; have Z87 := zz11 BK459; have hnb88 := NB442_0.out; have hnc88 := NB0_442.out; have Z89 := zz11 BK442; obtain ⟨Ao90, co90, eo90⟩ := Kd.R_slice HO_460009.out; subst eo90; obtain ⟨Ao91, co91, eo91⟩ := Kd.R_slice HO_460010.out; subst eo91))
         refine bodyPost_ret (results_cell_row rfl _ _ gb442 52 #[.int .i64 (wrap64 (1 + t443)), .int .i64 (wrap64 (1 + t445)), .int .i64 t447, .int .i64 4, .int .i64 x460004_10, .bool x460005_48, .bool (!x460006_10), .bool x460007_48, .bool x460008_48, .slice Ao90 x460009_10.length co90, .slice Ao91 x460010_48.length co91] (0, 0) _ rfl (by refine kb_ ?_; refine pz11 (cs := #[.int .i64 0, .int .i64 0, .int .i64 0, .int .i64 0, .int .i64 0, .bool false, .bool false, .bool false, .bool false, .slice none 0 0, .slice none 0 0]) ?_; exact kf_ BK442.out) Try.underlying52 rfl (by kernel_rfl)) rfl ?_
         exact ⟨_, _, by first | rfl | (simp [errW_none, errW_some] <;> rfl) | (simp [*, errW_none, errW_some] <;> rfl), by refine kR_ ?_; exact rfm_ ((Kd.R_far (p := ⟨gb459, 3, none⟩) (Kd.R_far (p := ⟨gb459, 6, none⟩) (Kd.R_types (Kd.R_types HO_460009.out BK459.out (by decide)) BK442.out (by decide)) (fun _ hk => hk.1.2) (.bool (!x460006_10))) (fun _ hk => hk.1.2) (.int .i64 4))) (fun _ hk => trivial), by refine kR_ ?_; exact rfm_ ((Kd.R_far (p := ⟨gb459, 3, none⟩) (Kd.R_far (p := ⟨gb459, 6, none⟩) (Kd.R_types (Kd.R_types HO_460010.out BK459.out (by decide)) BK442.out (by decide)) (fun _ hk => hk.1.2) (.bool (!x460006_10))) (fun _ hk => hk.1.2) (.int .i64 4))) (fun _ hk => trivial), is102_ HI0.out, hb102_ HB.out, hkA_ HK.out⟩
        ·rw [if_neg c82] at H
         have c82b0 : (t479 == 2) = false := beq_eq_false_iff_ne.mpr c82
         have c82b1 : (t479 != 2) = true := bne_iff_ne.mpr c82
         replace H := Option.bind_eq_some_iff.mp H
         obtain ⟨⟨t485, t486⟩, A920, H⟩ := H
         (try dsimp only at H)
         have A92 := Aside0.mk A920; clear A920
         by_cases c93 : 0 ≤ t485
         ·rw [if_pos c93] at H
          have c93b0 := eq_true c93
          have c93b1 : decide (0 ≤ t485) = true := decide_eq_true c93
          clear c93
          by_cases c94 : (t485 : Int).toNat ≤ 281474976710656
          ·rw [if_pos c94] at H
           have c94b0 := eq_true c94
           have c94b1 : decide ((t485 : Int).toNat ≤ 281474976710656) = true := decide_eq_true c94
           clear c94
           obtain ⟨y487, hy487⟩ : ∃ y_ : List Int, y_ = (List.replicate (t485 : Int).toNat 0) := ⟨_, rfl⟩
           (first | replace H := sb_ hy487 H | rw [← hy487] at H)
           have Ny487 := Aside0.mk hy487; clear hy487
           simp only [Option.some.injEq, Prod.mk.injEq] at H
           obtain ⟨rfl, rfl, rfl, rfl, rfl, rfl, rfl, rfl, rfl, rfl, rfl, rfl⟩ := H
           go_wp2_with (first | ((with_reducible refine gate_callee (f := 80) rfl ?_); refine goesL_ (some 61) rfl rfl Try.func80 (by kernel_rfl) rfl #[.pointer (some ⟨g, 0, none⟩), .int .i64 a1] rfl ar_ ?_; (with_reducible refine (spec_l20Rd_odd.calls kj48 g s0_0 t476 a1 true t478 w0 _ ?side1 ?side2 A55.out).mono ?_); (case side1 => exact is102_ HI0.out); (case side2 => exact hb102_ HB.out); rintro e w95 ⟨rfl, hi, hb, hk⟩; refine ⟨_, rfl, ?_⟩; replace HO_460009 := (rk102_ HI0 HO_460009 hk); replace HO_460010 := (rk102_ HI0 HO_460010 hk); replace BK442 := (bkA_ BK442 hk NB442_0); replace BK459 := (bkA_ BK459 hk NB459_0); replace HK := (kk_ HK hk); replace HB := Aside0.mk (hb); replace HI0 := Aside0.mk (hi); (try clear hb); (try clear hb2); (try clear hk); (try clear hi)) | ((with_reducible refine gate_callee (f := 40) rfl ?_); refine goesL_ (some 63) rfl rfl Try.func40 (by kernel_rfl) rfl #[.pointer (some ⟨g, 0, none⟩), .int .i64 4] rfl ar_ ?_; (with_reducible refine (spec_l20Rd_pick.calls kj48 g s0_0 t478 4 t479 t480 w0 _ ?side1 ?side2 A57.out).mono ?_); (case side1 => exact is102_ HI0.out); (case side2 => exact hb102_ HB.out); rintro e w96 ⟨rfl, hi, hb, hk⟩; refine ⟨_, rfl, ?_⟩; replace HO_460009 := (rk102_ HI0 HO_460009 hk); replace HO_460010 := (rk102_ HI0 HO_460010 hk); replace BK442 := (bkA_ BK442 hk NB442_0); replace BK459 := (bkA_ BK459 hk NB459_0); replace HK := (kk_ HK hk); replace HB := Aside0.mk (hb); replace HI0 := Aside0.mk (hi); (try clear hb); (try clear hb2); (try clear hk); (try clear hi); have hnb97 := NB459_442.out; have hnc97 := NB442_459.out; have hnb98 := NB459_0.out; have hnc98 := NB0_459.out; have Z99 := zz11 BK459) | ((with_reducible refine gate_callee (f := 40) rfl ?_); refine goesL_ (some 66) rfl rfl Try.func40 (by kernel_rfl) rfl #[.pointer (some ⟨g, 0, none⟩), .int .i64 14] rfl ar_ ?_; (with_reducible refine (spec_l20Rd_pick.calls kj48 g s0_0 t480 14 t485 t486 w0 _ ?side1 ?side2 A92.out).mono ?_); (case side1 => exact is102_ HI0.out); (case side2 => exact hb102_ HB.out); rintro e w100 ⟨rfl, hi, hb, hk⟩; refine ⟨_, rfl, ?_⟩; replace HO_460009 := Aside0.mk (Kd.R_mono (Kd.R_keep (IsS102.apart (show IsS102 w0 _ g s0_0 t480 from is102_ HI0.out) (by refine kR_ ?_; exact (Kd.R_mono (Kd.R_f gb459 8 (.bool true) (Kd.R_types HO_460009.out BK459.out (by decide))) (fun _ h_ => op1_ h_))) (by decide)) hk (fun _ h => h.2)) (fun _ h => h.1)); replace HO_460010 := Aside0.mk (Kd.R_mono (Kd.R_keep (IsS102.apart (show IsS102 w0 _ g s0_0 t480 from is102_ HI0.out) (by refine kR_ ?_; exact (Kd.R_mono (Kd.R_f gb459 8 (.bool true) (Kd.R_types HO_460010.out BK459.out (by decide))) (fun _ h_ => op1_ h_))) (by decide)) hk (fun _ h => h.2)) (fun _ h => h.1)); replace BK442 := Aside0.mk (KeepBut.blk hk (g' := gb442) (o := .cells #[.int .i64 0, .int .i64 0, .int .i64 0, .int .i64 0, .int .i64 0, .bool false, .bool false, .bool false, .bool false, .slice none 0 0, .slice none 0 0] 52 (0, 0)) (by exact kf_ BK442.out) NB442_0.out (by simp)); replace BK459 := Aside0.mk (KeepBut.blk hk (g' := gb459) (o := .cells #[.int .i64 (wrap64 (1 + t443)), .int .i64 (wrap64 (1 + t445)), .int .i64 t447, .int .i64 x460003_10, .int .i64 x460004_10, .bool x460005_48, .bool x460006_10, .bool x460007_48, .bool true, u460009, u460010] 52 (0, 0)) (by refine kb_ ?_; refine blk_put (cs := #[.int .i64 (wrap64 (1 + t443)), .int .i64 (wrap64 (1 + t445)), .int .i64 t447, .int .i64 x460003_10, .int .i64 x460004_10, .bool x460005_48, .bool x460006_10, .bool x460007_48, .bool x460008_48, u460009, u460010]) ?_ 8 _ rfl; refine kb_ ?_; exact BK459.out) NB459_0.out (by simp)); replace HK := (kk_ HK hk); replace HB := Aside0.mk (hb); replace HI0 := Aside0.mk (hi); (try clear hb); (try clear hb2); (try clear hk); (try clear hi)) | ((with_reducible refine gate_dst (N := 67) rfl ?_); refine Kd.R_make (Kd.int .u8) _ 5 rfl (N := 67) rfl 22 _ _ rfl t485 rfl rfl Try.underlying22 (.int .u8 0) 1 info5 rfl (by decide) (by omega) 0 (ok := fun _ => True) (okp := fun _ => True) rfl (fun _ hk => hk) trivial (of_decide_eq_true (by first | (with_reducible assumption) | assumption)) (Nat.le_trans (Nat.mul_le_mul_right _ (of_decide_eq_true (by first | (with_reducible assumption) | assumption) : t485.toNat ≤ 281474976710656)) (by omega)) (Below.refl _ _) (Nat.le_refl _) ?_; intro v488 w101 ho102 hb hg_ hnew_; clear hg_ hnew_; (first | rw [← Ny487.out] at ho102 | (simp only [Int.reduceToNat] at ho102; rw [← Ny487.out] at ho102)); replace HO_460009 := Aside0.mk (Kd.R_below (kR_ HO_460009.out) hb); have HO489 := Aside0.mk (Kd.R_lower (Kd.R_new' ho102 (Kd.R_lt (kR_ HO_460010.out))) (keep_size (w := w) (g := g) (row := none) (hkA_ HK.out))); replace HO_460010 := Aside0.mk (Kd.R_elder' (kR_ HO_460010.out) (Kd.R_base ho102) hb); replace BK442 := (bbA_ BK442 hb); replace BK459 := (bbA_ BK459 hb); replace HI0 := (ib102_ HI0 hb); replace HK := (kw_ HK hb); replace HB := (bs102_ HB hb); clear hb ho102; obtain ⟨Ao103, co103, eo103⟩ := Kd.R_slice HO489.out; subst eo103; have Z104 := zz11 BK459; have hnb105 := NB442_0.out; have hnc105 := NB0_442.out; have Z106 := zz11 BK442; obtain ⟨Ao107, co107, eo107⟩ := Kd.R_slice HO_460009.out; subst eo107))
           refine bodyPost_ret (results_cell_row rfl _ _ gb442 52 #[.int .i64 (wrap64 (1 + t443)), .int .i64 (wrap64 (1 + t445)), .int .i64 t447, .int .i64 x460003_10, .int .i64 x460004_10, .bool x460005_48, .bool x460006_10, .bool x460007_48, .bool true, .slice Ao107 x460009_10.length co107, .slice Ao103 y487.length co103] (0, 0) _ rfl (by refine kb_ ?_; refine pz11 (cs := #[.int .i64 0, .int .i64 0, .int .i64 0, .int .i64 0, .int .i64 0, .bool false, .bool false, .bool false, .bool false, .slice none 0 0, .slice none 0 0]) ?_; exact kf_ BK442.out) Try.underlying52 rfl (by kernel_rfl)) rfl ?_
           exact ⟨_, _, by first | rfl | (simp [errW_none, errW_some] <;> rfl) | (simp [*, errW_none, errW_some] <;> rfl), by refine kR_ ?_; exact rfm_ ((Kd.R_far (p := ⟨gb459, 10, none⟩) (Kd.R_types (Kd.R_types HO_460009.out BK459.out (by decide)) BK442.out (by decide)) (fun _ hk => hk.1.2) (.slice Ao103 y487.length co103))) (fun _ hk => trivial), by refine kR_ ?_; exact rfm_ ((Kd.R_far (p := ⟨gb459, 10, none⟩) (Kd.R_types (Kd.R_types HO489.out BK459.out (by decide)) BK442.out (by decide)) (fun _ hk => hk.1.2) (.slice Ao103 y487.length co103))) (fun _ hk => trivial), is102_ HI0.out, hb102_ HB.out, hkA_ HK.out⟩
          ·rw [if_neg c94] at H
           exact absurd H (by simp)
         ·rw [if_neg c93] at H
          exact absurd H (by simp)
     ·replace c56 := Bool.eq_false_iff.mpr c56
      subst c56
      rw [if_neg (show ¬ (false = true) by decide)] at H
      simp only [Option.some.injEq, Prod.mk.injEq] at H
      obtain ⟨rfl, rfl, rfl, rfl, rfl, rfl, rfl, rfl, rfl, rfl, rfl, rfl⟩ := H
      go_wp2_with (first | ((with_reducible refine gate_callee (f := 80) rfl ?_); refine goesL_ (some 61) rfl rfl Try.func80 (by kernel_rfl) rfl #[.pointer (some ⟨g, 0, none⟩), .int .i64 a1] rfl ar_ ?_; (with_reducible refine (spec_l20Rd_odd.calls kj48 g s0_0 t476 a1 false t478 w0 _ ?side1 ?side2 A55.out).mono ?_); (case side1 => exact is102_ HI0.out); (case side2 => exact hb102_ HB.out); rintro e w108 ⟨rfl, hi, hb, hk⟩; refine ⟨_, rfl, ?_⟩; replace HO_460009 := (rk102_ HI0 HO_460009 hk); replace HO_460010 := (rk102_ HI0 HO_460010 hk); replace BK442 := (bkA_ BK442 hk NB442_0); replace BK459 := (bkA_ BK459 hk NB459_0); replace HK := (kk_ HK hk); replace HB := Aside0.mk (hb); replace HI0 := Aside0.mk (hi); (try clear hb); (try clear hb2); (try clear hk); (try clear hi); have hnb109 := NB459_442.out; have hnc109 := NB442_459.out; have hnb110 := NB459_0.out; have hnc110 := NB0_459.out; have Z111 := zz11 BK459; have hnb112 := NB442_0.out; have hnc112 := NB0_442.out; have Z113 := zz11 BK442; obtain ⟨Ao114, co114, eo114⟩ := Kd.R_slice HO_460009.out; subst eo114; obtain ⟨Ao115, co115, eo115⟩ := Kd.R_slice HO_460010.out; subst eo115))
      refine bodyPost_ret (results_cell_row rfl _ _ gb442 52 #[.int .i64 (wrap64 (1 + t443)), .int .i64 (wrap64 (1 + t445)), .int .i64 t447, .int .i64 x460003_10, .int .i64 x460004_10, .bool x460005_48, .bool x460006_10, .bool x460007_48, .bool x460008_48, .slice Ao114 x460009_10.length co114, .slice Ao115 x460010_48.length co115] (0, 0) _ rfl (by refine kb_ ?_; refine pz11 (cs := #[.int .i64 0, .int .i64 0, .int .i64 0, .int .i64 0, .int .i64 0, .bool false, .bool false, .bool false, .bool false, .slice none 0 0, .slice none 0 0]) ?_; refine kb_ ?_; exact BK442.out) Try.underlying52 rfl (by kernel_rfl)) rfl ?_
      exact ⟨_, _, by first | rfl | (simp [errW_none, errW_some] <;> rfl) | (simp [*, errW_none, errW_some] <;> rfl), by refine kR_ ?_; exact rfm_ ((Kd.R_types HO_460009.out BK442.out (by decide))) (fun _ hk => trivial), by refine kR_ ?_; exact rfm_ ((Kd.R_types HO_460010.out BK442.out (by decide))) (fun _ hk => trivial), is102_ HI0.out, hb102_ HB.out, hkA_ HK.out⟩
def spec_DrawSegmentFrom.f (k : Nat) (l0 : List Int) : Option (List Int × Int × Int) := (spec_l20Open.f l0).bind fun bt490 => ((spec_l20Segment.f k bt490.1 bt490.2 0).bind fun bt493 => ((spec_SegmentBytes.f k bt493.1 bt493.2.1 bt493.2.2.1 bt493.2.2.2.1 bt493.2.2.2.2.1 bt493.2.2.2.2.2.1 bt493.2.2.2.2.2.2.1 bt493.2.2.2.2.2.2.2.1 bt493.2.2.2.2.2.2.2.2.1 bt493.2.2.2.2.2.2.2.2.2.1 bt493.2.2.2.2.2.2.2.2.2.2.1 1 2).bind fun t509 => ((spec_l20Rd_pick.f k bt490.1 bt493.2.2.2.2.2.2.2.2.2.2.2 6).bind fun bt512 => (if bt512.1 = 0 then ((spec_l20Rd_pick.f k bt490.1 bt512.2 (t509.length : Int)).bind fun bt514 => ((spec_l20Rd_pick.f k bt490.1 bt514.2 256).bind fun bt516 => (if 0 ≤ bt514.1 then (if bt514.1 < (t509.length : Int) then (some ((t509.set (bt514.1 : Int).toNat ((bt516.1) % 256)), 1, 2)) else (none)) else (none)))) else (if bt512.1 = 1 then ((spec_l20Rd_pick.f k bt490.1 bt512.2 (t509.length : Int)).bind fun bt519 => (if 0 ≤ bt519.1 then (if bt519.1 ≤ (t509.length : Int) then (some ((t509.take (bt519.1 : Int).toNat), 1, 2)) else (none)) else (none))) else (if bt512.1 = 2 then ((spec_l20Rd_pick.f k bt490.1 bt512.2 3).bind fun bt524 => ((spec_l20Rd_pick.f k bt490.1 bt524.2 3).bind fun bt526 => (some (t509, bt524.1, bt526.1)))) else (some (t509, 1, 2))))))))
theorem spec_DrawSegmentFrom.mono : ∀ a0 k, LeO (spec_DrawSegmentFrom.f k a0) (spec_DrawSegmentFrom.f (k + 1) a0) := by
 intro a0 k
 unfold spec_DrawSegmentFrom.f
 repeat' first | (with_reducible first | apply spec_SegmentBytes.mono | apply spec_l20Rd_pick.mono | apply spec_l20Segment.mono | exact LeO.refl _ | exact LeO.none _ | refine LeO.ite ?_ ?_ | refine LeO.bind ?_ fun _ => ?_) | apply spec_SegmentBytes.mono | apply spec_l20Rd_pick.mono | apply spec_l20Segment.mono | exact LeO.none _ | refine LeO.ite ?_ ?_ | refine LeO.bind ?_ fun _ => ?_
set_option maxHeartbeats 8000000 in
set_option maxRecDepth 100000 in
theorem spec_DrawSegmentFrom.calls (k : Nat) (A0 : Option Addr) (c0 : Nat) (l0 : List Int) (r1 : List Int) (r2 : Int) (r3 : Int) (w : World) (hr0 : Kd.C (Kd.int .u8) w A0 l0.length l0) (hc0 : l0.length ≤ c0) (h : spec_DrawSegmentFrom.f k l0 = some (r1, r2, r3)) :
  Calls Try.prog 33 #[.slice A0 l0.length c0] w fun e w' => ∃ v0_ : Value, e = .returned (.tuple #[v0_, .int .i64 r2, .int .i64 r3]) ∧ Kd.R (Kd.int .u8) 5 w' w.heap.size (fun _ => True) v0_ r1 ∧ Below w.heap.size w w' := by
 have HR0 := Aside0.mk hr0; have HC0 := Aside0.mk hc0; clear hr0 hc0
 have HB := Aside0.mk (Below.refl w.heap.size w)
 have H : ((spec_l20Open.f l0).bind fun bt490 => ((spec_l20Segment.f k bt490.1 bt490.2 0).bind fun bt493 => ((spec_SegmentBytes.f k bt493.1 bt493.2.1 bt493.2.2.1 bt493.2.2.2.1 bt493.2.2.2.2.1 bt493.2.2.2.2.2.1 bt493.2.2.2.2.2.2.1 bt493.2.2.2.2.2.2.2.1 bt493.2.2.2.2.2.2.2.2.1 bt493.2.2.2.2.2.2.2.2.2.1 bt493.2.2.2.2.2.2.2.2.2.2.1 1 2).bind fun t509 => ((spec_l20Rd_pick.f k bt490.1 bt493.2.2.2.2.2.2.2.2.2.2.2 6).bind fun bt512 => (if bt512.1 = 0 then ((spec_l20Rd_pick.f k bt490.1 bt512.2 (t509.length : Int)).bind fun bt514 => ((spec_l20Rd_pick.f k bt490.1 bt514.2 256).bind fun bt516 => (if 0 ≤ bt514.1 then (if bt514.1 < (t509.length : Int) then (some ((t509.set (bt514.1 : Int).toNat ((bt516.1) % 256)), 1, 2)) else (none)) else (none)))) else (if bt512.1 = 1 then ((spec_l20Rd_pick.f k bt490.1 bt512.2 (t509.length : Int)).bind fun bt519 => (if 0 ≤ bt519.1 then (if bt519.1 ≤ (t509.length : Int) then (some ((t509.take (bt519.1 : Int).toNat), 1, 2)) else (none)) else (none))) else (if bt512.1 = 2 then ((spec_l20Rd_pick.f k bt490.1 bt512.2 3).bind fun bt524 => ((spec_l20Rd_pick.f k bt490.1 bt524.2 3).bind fun bt526 => (some (t509, bt524.1, bt526.1)))) else (some (t509, 1, 2))))))))) = some (r1, r2, r3) := h
 clear h
 replace H := Option.bind_eq_some_iff.mp H
 obtain ⟨⟨t490, t491⟩, A20, H⟩ := H
 (try dsimp only at H)
 have A2 := Aside0.mk A20; clear A20
 replace H := Option.bind_eq_some_iff.mp H
 obtain ⟨⟨t493, t494, t495, t496, t497, t498, t499, t500, t501, t502, t505, t508⟩, A30, H⟩ := H
 (try dsimp only at H)
 have A3 := Aside0.mk A30; clear A30
 replace H := Option.bind_eq_some_iff.mp H
 obtain ⟨t509, A40, H⟩ := H
 (try dsimp only at H)
 have A4 := Aside0.mk A40; clear A40
 replace H := Option.bind_eq_some_iff.mp H
 obtain ⟨⟨t512, t513⟩, A50, H⟩ := H
 (try dsimp only at H)
 have A5 := Aside0.mk A50; clear A50
 by_cases c6 : t512 = 0
 ·rw [if_pos c6] at H
  have c6b0 : (t512 == 0) = true := beq_iff_eq.mpr c6
  have c6b1 : (t512 != 0) = false := bne_eq_false_iff_eq.mpr c6
  clear c6
  replace H := Option.bind_eq_some_iff.mp H
  obtain ⟨⟨t514, t515⟩, A70, H⟩ := H
  (try dsimp only at H)
  have A7 := Aside0.mk A70; clear A70
  replace H := Option.bind_eq_some_iff.mp H
  obtain ⟨⟨t516, t517⟩, A80, H⟩ := H
  (try dsimp only at H)
  have A8 := Aside0.mk A80; clear A80
  by_cases c9 : 0 ≤ t514
  ·rw [if_pos c9] at H
   have c9b0 : decide (0 ≤ t514) = true := decide_eq_true c9
   clear c9
   by_cases c10 : t514 < (t509.length : Int)
   ·rw [if_pos c10] at H
    have c10b0 : decide (t514 < (t509.length : Int)) = true := decide_eq_true c10
    clear c10
    obtain ⟨y518, hy518⟩ : ∃ y_ : List Int, y_ = (t509.set (t514 : Int).toNat ((t516) % 256)) := ⟨_, rfl⟩
    (first | replace H := sb_ hy518 H | rw [← hy518] at H)
    have Ny518 := Aside0.mk hy518; clear hy518
    simp only [Option.some.injEq, Prod.mk.injEq] at H
    obtain ⟨rfl, rfl, rfl⟩ := H
    go_enter Try.func33, Try.ntmps33
    go_wp2_with (first | ((with_reducible refine gate_callee (f := 39) rfl ?_); refine goesL_ (some 8) rfl rfl Try.func39 (by kernel_rfl) rfl #[.slice A0 l0.length c0] rfl ar_ ?_; (with_reducible refine (spec_l20Open.calls _ _ l0 t490 t491 w _ ?side1 ?side2 ?side3 A2.out).mono ?_); (case side1 => exact hbA_ HB.out); (case side2 => exact HR0.out); (case side3 => exact HC0.out); rintro e w12 ⟨g492, rfl, hi, hb, hb2⟩; refine ⟨_, rfl, ?_⟩; replace HB := Aside0.mk (hb); have HI492 := Aside0.mk (hi); (try clear hb); (try clear hb2); (try clear hk); (try clear hi)) | ((with_reducible refine gate_callee (f := 67) rfl ?_); refine goesL_ (some 10) rfl rfl Try.func67 (by kernel_rfl) rfl #[.pointer (some ⟨g492, 0, none⟩), .int .i64 0] rfl ar_ ?_; (with_reducible refine (spec_l20Segment.calls k g492 t490 t491 0 t493 t494 t495 t496 t497 t498 t499 t500 t501 t502 t505 t508 w _ ?side1 ?side2 A3.out).mono ?_); (case side1 => exact is102_ HI492.out); (case side2 => exact hb102_ HB.out); rintro e w13 ⟨v503, v506, rfl, ho0, ho1, hi, hb, hk⟩; refine ⟨_, rfl, ?_⟩; have HO504 := Aside0.mk (Kd.R_lower ho0 (below_size (hb102_ HB.out))); have HO507 := Aside0.mk (Kd.R_lower ho1 (below_size (hb102_ HB.out))); replace HB := Aside0.mk (hb); replace HI492 := Aside0.mk (hi); (try clear hb); (try clear hb2); (try clear hk); (try clear hi); (try clear ho0); (try clear ho1); obtain ⟨Ao14, co14, eo14⟩ := Kd.R_slice HO504.out; subst eo14; obtain ⟨Ao15, co15, eo15⟩ := Kd.R_slice HO507.out; subst eo15) | ((with_reducible refine gate_callee (f := 38) rfl ?_); refine goesL_ (some 11) rfl rfl Try.func38 (by kernel_rfl) rfl #[.agg #[.int .i64 t493, .int .i64 t494, .int .i64 t495, .int .i64 t496, .int .i64 t497, .bool t498, .bool t499, .bool t500, .bool t501, .slice Ao14 t502.length co14, .slice Ao15 t505.length co15], .int .i64 1, .int .i64 2] rfl ar_ ?_; (with_reducible refine (spec_SegmentBytes.calls k t493 t494 t495 t496 t497 t498 t499 t500 t501 _ _ t502 _ _ t505 1 2 t509 _ ?side1 ?side2 ?side3 ?side4 A4.out).mono ?_); (case side1 => exact kC_ (Kd.R_reads' HO504.out).2.2); (case side2 => exact (Kd.R_reads' HO504.out).2.1); (case side3 => exact kC_ (Kd.R_reads' HO507.out).2.2); (case side4 => exact (Kd.R_reads' HO507.out).2.1); rintro e w16 ⟨v510, rfl, ho0, hb⟩; refine ⟨_, rfl, ?_⟩; replace HO504 := Aside0.mk (Kd.R_below (kR_ HO504.out) hb); have HO511 := Aside0.mk (Kd.R_lower (Kd.R_new' ho0 (Kd.R_lt (kR_ HO507.out))) (below_size (hb102_ HB.out))); replace HO507 := Aside0.mk (Kd.R_elder' (kR_ HO507.out) (Kd.R_base ho0) hb); replace HI492 := (ib102_ HI492 hb); replace HB := (bs102_ HB hb); (try clear hb); (try clear hb2); (try clear hk); (try clear hi); (try clear ho0)) | ((with_reducible refine gate_callee (f := 40) rfl ?_); refine goesL_ (some 13) rfl rfl Try.func40 (by kernel_rfl) rfl #[.pointer (some ⟨g492, 0, none⟩), .int .i64 6] rfl ar_ ?_; (with_reducible refine (spec_l20Rd_pick.calls k g492 t490 t508 6 t512 t513 w _ ?side1 ?side2 A5.out).mono ?_); (case side1 => exact is102_ HI492.out); (case side2 => exact hb102_ HB.out); rintro e w17 ⟨rfl, hi, hb, hk⟩; refine ⟨_, rfl, ?_⟩; replace HO504 := (rk102_ HI492 HO504 hk); replace HO507 := (rk102_ HI492 HO507 hk); replace HO511 := (rk102_ HI492 HO511 hk); replace HB := Aside0.mk (hb); replace HI492 := Aside0.mk (hi); (try clear hb); (try clear hb2); (try clear hk); (try clear hi); obtain ⟨Ao18, co18, eo18⟩ := Kd.R_slice HO511.out; subst eo18) | ((with_reducible refine gate_callee (f := 40) rfl ?_); refine goesL_ (some 20) rfl rfl Try.func40 (by kernel_rfl) rfl #[.pointer (some ⟨g492, 0, none⟩), .int .i64 (t509.length : Int)] rfl ar_ ?_; (with_reducible refine (spec_l20Rd_pick.calls k g492 t490 t513 (t509.length : Int) t514 t515 w _ ?side1 ?side2 A7.out).mono ?_); (case side1 => exact is102_ HI492.out); (case side2 => exact hb102_ HB.out); rintro e w19 ⟨rfl, hi, hb, hk⟩; refine ⟨_, rfl, ?_⟩; replace HO504 := (rk102_ HI492 HO504 hk); replace HO507 := (rk102_ HI492 HO507 hk); replace HO511 := (rk102_ HI492 HO511 hk); replace HB := Aside0.mk (hb); replace HI492 := Aside0.mk (hi); (try clear hb); (try clear hb2); (try clear hk); (try clear hi)) | ((with_reducible refine gate_callee (f := 40) rfl ?_); refine goesL_ (some 22) rfl rfl Try.func40 (by kernel_rfl) rfl #[.pointer (some ⟨g492, 0, none⟩), .int .i64 256] rfl ar_ ?_; (with_reducible refine (spec_l20Rd_pick.calls k g492 t490 t515 256 t516 t517 w _ ?side1 ?side2 A8.out).mono ?_); (case side1 => exact is102_ HI492.out); (case side2 => exact hb102_ HB.out); rintro e w20 ⟨rfl, hi, hb, hk⟩; refine ⟨_, rfl, ?_⟩; replace HO504 := (rk102_ HI492 HO504 hk); replace HO507 := (rk102_ HI492 HO507 hk); replace HO511 := (rk102_ HI492 HO511 hk); replace HB := Aside0.mk (hb); replace HI492 := Aside0.mk (hi); (try clear hb); (try clear hb2); (try clear hk); (try clear hi); have p11 : 0 ≤ (t514 : Int) := of_decide_eq_true (by first | (with_reducible assumption) | assumption); have q11 : (t514 : Int) < ((t509.length : Int) : Int) := of_decide_eq_true (by first | (with_reducible assumption) | assumption); obtain ⟨go11, co11, eo11, gb11, gl11, cl11, HG11⟩ := Kd.R_form HO511.out (by omega); (first | cases eo11 | (injection eo11 with ea_ en_ ec_; (first | subst ea_ | (injection ea_ with ea_; subst ea_)); subst ec_; clear en_)); have GB11 := Aside0.mk gb11; have GG11 := Aside0.mk HG11; clear gb11 gl11 HG11; obtain ⟨hx11_0, hf11_0⟩ := Kd.R_celln 0 HO511.out (t514 : Int) p11 q11; replace p11 := eq_true p11; replace q11 := eq_true q11; have n_ := Aside0.mk (Kd.R_mono (ok' := (fun k_ => some k_ ≠ (.slice Ao15 t505.length co15 : Value).ownBlock)) HO511.out (fun k_ hk => hk.2)); clear HO511; have HO511 := n_; clear n_; obtain ⟨hy21_, hz21_⟩ := Kd.R_celln 0 HO511.out (t514 : Int) (of_decide_eq_true (by first | (with_reducible assumption) | assumption)) (of_decide_eq_true (by first | (with_reducible assumption) | assumption)); have HP21 := Kd.R_putg HO511.out (t514 : Int) ((t516) % 256)) | ((with_reducible refine gate_store (t := 5) (p := 24) rfl ?_); refine store_event (t := 5) (p := 24) (v := ?vo_w22) (w1 := (w20.setCell ⟨go11, (t514 : Int).toNat, none⟩ (.int .u8 ((t516) % 256)))) ?hg ?ho ?hn ?hr ?_; (case ho => rfl); (case hg => rfl); (case hn => rfl); (case hr => first | (go_simp; done) | (go_simp; rfl)); intro w22 hw; have hg : w20.grownBy w22 (some go11) := (by rw [hw]; exact HP21.2); have hp_ : Kd.R (Kd.int .u8) 5 w22 w.heap.size (fun k_ => some k_ ≠ (.slice Ao15 t505.length co15 : Value).ownBlock) (.slice (some ⟨go11, 0, none⟩) t509.length co18) y518 := (by rw [hw, Ny518.out]; exact HP21.1); clear HP21; replace HI492 := Aside0.mk (IsS102.grown (is102_ HI492.out) hg (IsS102.own_ne HI492.out HO511.out (by decide))); replace HO504 := Aside0.mk (Kd.R_over' (v := (.slice (some ⟨go11, 0, none⟩) t509.length co18)) (kR_ HO504.out) (Kd.R_typed HO511.out) (by decide) hg); replace HO507 := Aside0.mk (Kd.R_after (v := (.slice (some ⟨go11, 0, none⟩) t509.length co18)) (v1 := (.slice (some ⟨go11, 0, none⟩) t509.length co18)) (ok := (fun _ => True)) (kR_ HO507.out) hg (.inl rfl)); replace HO511 := Aside0.mk (hp_); replace HB := Aside0.mk ((by rw [hw]; exact below_set (HB.out) GB11.out : Below w.heap.size w w22)); clear hg hw hp_))
    go_ret3
    exact ⟨_, by first | rfl | (simp [errW_none, errW_some] <;> rfl) | (simp [*, errW_none, errW_some] <;> rfl), by refine kR_ ?_; exact Kd.R_mono HO511.out (fun _ hk => trivial), hb102_ HB.out⟩
   ·rw [if_neg c10] at H
    exact absurd H (by simp)
  ·rw [if_neg c9] at H
   exact absurd H (by simp)
 ·rw [if_neg c6] at H
  have c6b0 : (t512 == 0) = false := beq_eq_false_iff_ne.mpr c6
  have c6b1 : (t512 != 0) = true := bne_iff_ne.mpr c6
  by_cases c23 : t512 = 1
  ·rw [if_pos c23] at H
   have c23b0 : (t512 == 1) = true := beq_iff_eq.mpr c23
   have c23b1 : (t512 != 1) = false := bne_eq_false_iff_eq.mpr c23
   clear c23
   replace H := Option.bind_eq_some_iff.mp H
   obtain ⟨⟨t519, t520⟩, A240, H⟩ := H
   (try dsimp only at H)
   have A24 := Aside0.mk A240; clear A240
   by_cases c25 : 0 ≤ t519
   ·rw [if_pos c25] at H
    have c25b0 := eq_true c25
    have c25b1 : decide (0 ≤ t519) = true := decide_eq_true c25
    clear c25
    by_cases c26 : t519 ≤ (t509.length : Int)
    ·rw [if_pos c26] at H
     have c26b0 := eq_true c26
     have c26b1 : decide (t519 ≤ (t509.length : Int)) = true := decide_eq_true c26
     clear c26
     obtain ⟨y521, hy521⟩ : ∃ y_ : List Int, y_ = (t509.take (t519 : Int).toNat) := ⟨_, rfl⟩
     (first | replace H := sb_ hy521 H | rw [← hy521] at H)
     have Ny521 := Aside0.mk hy521; clear hy521
     simp only [Option.some.injEq, Prod.mk.injEq] at H
     obtain ⟨rfl, rfl, rfl⟩ := H
     go_enter Try.func33, Try.ntmps33
     go_wp2_with (first | ((with_reducible refine gate_callee (f := 39) rfl ?_); refine goesL_ (some 8) rfl rfl Try.func39 (by kernel_rfl) rfl #[.slice A0 l0.length c0] rfl ar_ ?_; (with_reducible refine (spec_l20Open.calls _ _ l0 t490 t491 w _ ?side1 ?side2 ?side3 A2.out).mono ?_); (case side1 => exact hbA_ HB.out); (case side2 => exact HR0.out); (case side3 => exact HC0.out); rintro e w27 ⟨g492, rfl, hi, hb, hb2⟩; refine ⟨_, rfl, ?_⟩; replace HB := Aside0.mk (hb); have HI492 := Aside0.mk (hi); (try clear hb); (try clear hb2); (try clear hk); (try clear hi)) | ((with_reducible refine gate_callee (f := 67) rfl ?_); refine goesL_ (some 10) rfl rfl Try.func67 (by kernel_rfl) rfl #[.pointer (some ⟨g492, 0, none⟩), .int .i64 0] rfl ar_ ?_; (with_reducible refine (spec_l20Segment.calls k g492 t490 t491 0 t493 t494 t495 t496 t497 t498 t499 t500 t501 t502 t505 t508 w _ ?side1 ?side2 A3.out).mono ?_); (case side1 => exact is102_ HI492.out); (case side2 => exact hb102_ HB.out); rintro e w28 ⟨v503, v506, rfl, ho0, ho1, hi, hb, hk⟩; refine ⟨_, rfl, ?_⟩; have HO504 := Aside0.mk (Kd.R_lower ho0 (below_size (hb102_ HB.out))); have HO507 := Aside0.mk (Kd.R_lower ho1 (below_size (hb102_ HB.out))); replace HB := Aside0.mk (hb); replace HI492 := Aside0.mk (hi); (try clear hb); (try clear hb2); (try clear hk); (try clear hi); (try clear ho0); (try clear ho1); obtain ⟨Ao29, co29, eo29⟩ := Kd.R_slice HO504.out; subst eo29; obtain ⟨Ao30, co30, eo30⟩ := Kd.R_slice HO507.out; subst eo30) | ((with_reducible refine gate_callee (f := 38) rfl ?_); refine goesL_ (some 11) rfl rfl Try.func38 (by kernel_rfl) rfl #[.agg #[.int .i64 t493, .int .i64 t494, .int .i64 t495, .int .i64 t496, .int .i64 t497, .bool t498, .bool t499, .bool t500, .bool t501, .slice Ao29 t502.length co29, .slice Ao30 t505.length co30], .int .i64 1, .int .i64 2] rfl ar_ ?_; (with_reducible refine (spec_SegmentBytes.calls k t493 t494 t495 t496 t497 t498 t499 t500 t501 _ _ t502 _ _ t505 1 2 t509 _ ?side1 ?side2 ?side3 ?side4 A4.out).mono ?_); (case side1 => exact kC_ (Kd.R_reads' HO504.out).2.2); (case side2 => exact (Kd.R_reads' HO504.out).2.1); (case side3 => exact kC_ (Kd.R_reads' HO507.out).2.2); (case side4 => exact (Kd.R_reads' HO507.out).2.1); rintro e w31 ⟨v510, rfl, ho0, hb⟩; refine ⟨_, rfl, ?_⟩; replace HO504 := Aside0.mk (Kd.R_below (kR_ HO504.out) hb); have HO511 := Aside0.mk (Kd.R_lower (Kd.R_new' ho0 (Kd.R_lt (kR_ HO507.out))) (below_size (hb102_ HB.out))); replace HO507 := Aside0.mk (Kd.R_elder' (kR_ HO507.out) (Kd.R_base ho0) hb); replace HI492 := (ib102_ HI492 hb); replace HB := (bs102_ HB hb); (try clear hb); (try clear hb2); (try clear hk); (try clear hi); (try clear ho0)) | ((with_reducible refine gate_callee (f := 40) rfl ?_); refine goesL_ (some 13) rfl rfl Try.func40 (by kernel_rfl) rfl #[.pointer (some ⟨g492, 0, none⟩), .int .i64 6] rfl ar_ ?_; (with_reducible refine (spec_l20Rd_pick.calls k g492 t490 t508 6 t512 t513 w _ ?side1 ?side2 A5.out).mono ?_); (case side1 => exact is102_ HI492.out); (case side2 => exact hb102_ HB.out); rintro e w32 ⟨rfl, hi, hb, hk⟩; refine ⟨_, rfl, ?_⟩; replace HO504 := (rk102_ HI492 HO504 hk); replace HO507 := (rk102_ HI492 HO507 hk); replace HO511 := (rk102_ HI492 HO511 hk); replace HB := Aside0.mk (hb); replace HI492 := Aside0.mk (hi); (try clear hb); (try clear hb2); (try clear hk); (try clear hi); obtain ⟨Ao33, co33, eo33⟩ := Kd.R_slice HO511.out; subst eo33) | ((with_reducible refine gate_callee (f := 40) rfl ?_); refine goesL_ (some 31) rfl rfl Try.func40 (by kernel_rfl) rfl #[.pointer (some ⟨g492, 0, none⟩), .int .i64 (t509.length : Int)] rfl ar_ ?_; (with_reducible refine (spec_l20Rd_pick.calls k g492 t490 t513 (t509.length : Int) t519 t520 w _ ?side1 ?side2 A24.out).mono ?_); (case side1 => exact is102_ HI492.out); (case side2 => exact hb102_ HB.out); rintro e w34 ⟨rfl, hi, hb, hk⟩; refine ⟨_, rfl, ?_⟩; replace HO504 := (rk102_ HI492 HO504 hk); replace HO507 := (rk102_ HI492 HO507 hk); replace HO511 := (rk102_ HI492 HO511 hk); replace HB := Aside0.mk (hb); replace HI492 := Aside0.mk (hi); (try clear hb); (try clear hb2); (try clear hk); (try clear hi); have q35 : (t519 : Int) ≤ ((t509.length : Int) : Int) := of_decide_eq_true (by first | (with_reducible assumption) | assumption); obtain ⟨i035, hi035, _, hsz35, _⟩ := info_parts info5; have hcut35 := cut_to (P := Try.prog) 22 5 .i64 Try.underlying22 hi035 Ao33 t509.length co33 t519 (of_decide_eq_true (by first | (with_reducible assumption) | assumption)) q35 (Kd.R_reads' HO511.out).2.1; have hr35 := Kd.R_take (m := (t519 : Int).toNat) HO511.out (by omega); have hy35 : y521.length = (t519 : Int).toNat := (by rw [Ny521.out, List.length_take]; omega); rw [← Ny521.out] at hr35; rw [← hy35] at hr35 hcut35; clear hy35 hi035 hsz35 HO511; have HO523 := Aside0.mk hr35; clear hr35; replace q35 := eq_true q35))
     go_ret3
     exact ⟨_, by first | rfl | (simp [errW_none, errW_some] <;> rfl) | (simp [*, errW_none, errW_some] <;> rfl), by refine kR_ ?_; exact Kd.R_mono HO523.out (fun _ hk => trivial), hb102_ HB.out⟩
    ·rw [if_neg c26] at H
     exact absurd H (by simp)
   ·rw [if_neg c25] at H
    exact absurd H (by simp)
  ·rw [if_neg c23] at H
   have c23b0 : (t512 == 1) = false := beq_eq_false_iff_ne.mpr c23
   have c23b1 : (t512 != 1) = true := bne_iff_ne.mpr c23
   by_cases c36 : t512 = 2
   ·rw [if_pos c36] at H
    have c36b0 : (t512 == 2) = true := beq_iff_eq.mpr c36
    have c36b1 : (t512 != 2) = false := bne_eq_false_iff_eq.mpr c36
    clear c36
    replace H := Option.bind_eq_some_iff.mp H
    obtain ⟨⟨t524, t525⟩, A370, H⟩ := H
    (try dsimp only at H)
    have A37 := Aside0.mk A370; clear A370
    replace H := Option.bind_eq_some_iff.mp H
    obtain ⟨⟨t526, t527⟩, A380, H⟩ := H
    (try dsimp only at H)
    have A38 := Aside0.mk A380; clear A380
    simp only [Option.some.injEq, Prod.mk.injEq] at H
    obtain ⟨rfl, rfl, rfl⟩ := H
    go_enter Try.func33, Try.ntmps33
    go_wp2_with (first | ((with_reducible refine gate_callee (f := 39) rfl ?_); refine goesL_ (some 8) rfl rfl Try.func39 (by kernel_rfl) rfl #[.slice A0 l0.length c0] rfl ar_ ?_; (with_reducible refine (spec_l20Open.calls _ _ l0 t490 t491 w _ ?side1 ?side2 ?side3 A2.out).mono ?_); (case side1 => exact hbA_ HB.out); (case side2 => exact HR0.out); (case side3 => exact HC0.out); rintro e w39 ⟨g492, rfl, hi, hb, hb2⟩; refine ⟨_, rfl, ?_⟩; replace HB := Aside0.mk (hb); have HI492 := Aside0.mk (hi); (try clear hb); (try clear hb2); (try clear hk); (try clear hi)) | ((with_reducible refine gate_callee (f := 67) rfl ?_); refine goesL_ (some 10) rfl rfl Try.func67 (by kernel_rfl) rfl #[.pointer (some ⟨g492, 0, none⟩), .int .i64 0] rfl ar_ ?_; (with_reducible refine (spec_l20Segment.calls k g492 t490 t491 0 t493 t494 t495 t496 t497 t498 t499 t500 t501 t502 t505 t508 w _ ?side1 ?side2 A3.out).mono ?_); (case side1 => exact is102_ HI492.out); (case side2 => exact hb102_ HB.out); rintro e w40 ⟨v503, v506, rfl, ho0, ho1, hi, hb, hk⟩; refine ⟨_, rfl, ?_⟩; have HO504 := Aside0.mk (Kd.R_lower ho0 (below_size (hb102_ HB.out))); have HO507 := Aside0.mk (Kd.R_lower ho1 (below_size (hb102_ HB.out))); replace HB := Aside0.mk (hb); replace HI492 := Aside0.mk (hi); (try clear hb); (try clear hb2); (try clear hk); (try clear hi); (try clear ho0); (try clear ho1); obtain ⟨Ao41, co41, eo41⟩ := Kd.R_slice HO504.out; subst eo41; obtain ⟨Ao42, co42, eo42⟩ := Kd.R_slice HO507.out; subst eo42) | ((with_reducible refine gate_callee (f := 38) rfl ?_); refine goesL_ (some 11) rfl rfl Try.func38 (by kernel_rfl) rfl #[.agg #[.int .i64 t493, .int .i64 t494, .int .i64 t495, .int .i64 t496, .int .i64 t497, .bool t498, .bool t499, .bool t500, .bool t501, .slice Ao41 t502.length co41, .slice Ao42 t505.length co42], .int .i64 1, .int .i64 2] rfl ar_ ?_; (with_reducible refine (spec_SegmentBytes.calls k t493 t494 t495 t496 t497 t498 t499 t500 t501 _ _ t502 _ _ t505 1 2 t509 _ ?side1 ?side2 ?side3 ?side4 A4.out).mono ?_); (case side1 => exact kC_ (Kd.R_reads' HO504.out).2.2); (case side2 => exact (Kd.R_reads' HO504.out).2.1); (case side3 => exact kC_ (Kd.R_reads' HO507.out).2.2); (case side4 => exact (Kd.R_reads' HO507.out).2.1); rintro e w43 ⟨v510, rfl, ho0, hb⟩; refine ⟨_, rfl, ?_⟩; replace HO504 := Aside0.mk (Kd.R_below (kR_ HO504.out) hb); have HO511 := Aside0.mk (Kd.R_lower (Kd.R_new' ho0 (Kd.R_lt (kR_ HO507.out))) (below_size (hb102_ HB.out))); replace HO507 := Aside0.mk (Kd.R_elder' (kR_ HO507.out) (Kd.R_base ho0) hb); replace HI492 := (ib102_ HI492 hb); replace HB := (bs102_ HB hb); (try clear hb); (try clear hb2); (try clear hk); (try clear hi); (try clear ho0)) | ((with_reducible refine gate_callee (f := 40) rfl ?_); refine goesL_ (some 13) rfl rfl Try.func40 (by kernel_rfl) rfl #[.pointer (some ⟨g492, 0, none⟩), .int .i64 6] rfl ar_ ?_; (with_reducible refine (spec_l20Rd_pick.calls k g492 t490 t508 6 t512 t513 w _ ?side1 ?side2 A5.out).mono ?_); (case side1 => exact is102_ HI492.out); (case side2 => exact hb102_ HB.out); rintro e w44 ⟨rfl, hi, hb, hk⟩; refine ⟨_, rfl, ?_⟩; replace HO504 := (rk102_ HI492 HO504 hk); replace HO507 := (rk102_ HI492 HO507 hk); replace HO511 := (rk102_ HI492 HO511 hk); replace HB := Aside0.mk (hb); replace HI492 := Aside0.mk (hi); (try clear hb); (try clear hb2); (try clear hk); (try clear hi)) | ((with_reducible refine gate_callee (f := 40) rfl ?_); refine goesL_ (some 37) rfl rfl Try.func40 (by kernel_rfl) rfl #[.pointer (some ⟨g492, 0, none⟩), .int .i64 3] rfl ar_ ?_; (with_reducible refine (spec_l20Rd_pick.calls k g492 t490 t513 3 t524 t525 w _ ?side1 ?side2 A37.out).mono ?_); (case side1 => exact is102_ HI492.out); (case side2 => exact hb102_ HB.out); rintro e w45 ⟨rfl, hi, hb, hk⟩; refine ⟨_, rfl, ?_⟩; replace HO504 := (rk102_ HI492 HO504 hk); replace HO507 := (rk102_ HI492 HO507 hk); replace HO511 := (rk102_ HI492 HO511 hk); replace HB := Aside0.mk (hb); replace HI492 := Aside0.mk (hi); (try clear hb); (try clear hb2); (try clear hk); (try clear hi)) | ((with_reducible refine gate_callee (f := 40) rfl ?_); refine goesL_ (some 39) rfl rfl Try.func40 (by kernel_rfl) rfl #[.pointer (some ⟨g492, 0, none⟩), .int .i64 3] rfl ar_ ?_; (with_reducible refine (spec_l20Rd_pick.calls k g492 t490 t525 3 t526 t527 w _ ?side1 ?side2 A38.out).mono ?_); (case side1 => exact is102_ HI492.out); (case side2 => exact hb102_ HB.out); rintro e w46 ⟨rfl, hi, hb, hk⟩; refine ⟨_, rfl, ?_⟩; replace HO504 := (rk102_ HI492 HO504 hk); replace HO507 := (rk102_ HI492 HO507 hk); replace HO511 := (rk102_ HI492 HO511 hk); replace HB := Aside0.mk (hb); replace HI492 := Aside0.mk (hi); (try clear hb); (try clear hb2); (try clear hk); (try clear hi)))
    go_ret3
    exact ⟨_, by first | rfl | (simp [errW_none, errW_some] <;> rfl) | (simp [*, errW_none, errW_some] <;> rfl), by refine kR_ ?_; exact Kd.R_mono HO511.out (fun _ hk => trivial), hb102_ HB.out⟩
   ·rw [if_neg c36] at H
    have c36b0 : (t512 == 2) = false := beq_eq_false_iff_ne.mpr c36
    have c36b1 : (t512 != 2) = true := bne_iff_ne.mpr c36
    simp only [Option.some.injEq, Prod.mk.injEq] at H
    obtain ⟨rfl, rfl, rfl⟩ := H
    go_enter Try.func33, Try.ntmps33
    go_wp2_with (first | ((with_reducible refine gate_callee (f := 39) rfl ?_); refine goesL_ (some 8) rfl rfl Try.func39 (by kernel_rfl) rfl #[.slice A0 l0.length c0] rfl ar_ ?_; (with_reducible refine (spec_l20Open.calls _ _ l0 t490 t491 w _ ?side1 ?side2 ?side3 A2.out).mono ?_); (case side1 => exact hbA_ HB.out); (case side2 => exact HR0.out); (case side3 => exact HC0.out); rintro e w47 ⟨g492, rfl, hi, hb, hb2⟩; refine ⟨_, rfl, ?_⟩; replace HB := Aside0.mk (hb); have HI492 := Aside0.mk (hi); (try clear hb); (try clear hb2); (try clear hk); (try clear hi)) | ((with_reducible refine gate_callee (f := 67) rfl ?_); refine goesL_ (some 10) rfl rfl Try.func67 (by kernel_rfl) rfl #[.pointer (some ⟨g492, 0, none⟩), .int .i64 0] rfl ar_ ?_; (with_reducible refine (spec_l20Segment.calls k g492 t490 t491 0 t493 t494 t495 t496 t497 t498 t499 t500 t501 t502 t505 t508 w _ ?side1 ?side2 A3.out).mono ?_); (case side1 => exact is102_ HI492.out); (case side2 => exact hb102_ HB.out); rintro e w48 ⟨v503, v506, rfl, ho0, ho1, hi, hb, hk⟩; refine ⟨_, rfl, ?_⟩; have HO504 := Aside0.mk (Kd.R_lower ho0 (below_size (hb102_ HB.out))); have HO507 := Aside0.mk (Kd.R_lower ho1 (below_size (hb102_ HB.out))); replace HB := Aside0.mk (hb); replace HI492 := Aside0.mk (hi); (try clear hb); (try clear hb2); (try clear hk); (try clear hi); (try clear ho0); (try clear ho1); obtain ⟨Ao49, co49, eo49⟩ := Kd.R_slice HO504.out; subst eo49; obtain ⟨Ao50, co50, eo50⟩ := Kd.R_slice HO507.out; subst eo50) | ((with_reducible refine gate_callee (f := 38) rfl ?_); refine goesL_ (some 11) rfl rfl Try.func38 (by kernel_rfl) rfl #[.agg #[.int .i64 t493, .int .i64 t494, .int .i64 t495, .int .i64 t496, .int .i64 t497, .bool t498, .bool t499, .bool t500, .bool t501, .slice Ao49 t502.length co49, .slice Ao50 t505.length co50], .int .i64 1, .int .i64 2] rfl ar_ ?_; (with_reducible refine (spec_SegmentBytes.calls k t493 t494 t495 t496 t497 t498 t499 t500 t501 _ _ t502 _ _ t505 1 2 t509 _ ?side1 ?side2 ?side3 ?side4 A4.out).mono ?_); (case side1 => exact kC_ (Kd.R_reads' HO504.out).2.2); (case side2 => exact (Kd.R_reads' HO504.out).2.1); (case side3 => exact kC_ (Kd.R_reads' HO507.out).2.2); (case side4 => exact (Kd.R_reads' HO507.out).2.1); rintro e w51 ⟨v510, rfl, ho0, hb⟩; refine ⟨_, rfl, ?_⟩; replace HO504 := Aside0.mk (Kd.R_below (kR_ HO504.out) hb); have HO511 := Aside0.mk (Kd.R_lower (Kd.R_new' ho0 (Kd.R_lt (kR_ HO507.out))) (below_size (hb102_ HB.out))); replace HO507 := Aside0.mk (Kd.R_elder' (kR_ HO507.out) (Kd.R_base ho0) hb); replace HI492 := (ib102_ HI492 hb); replace HB := (bs102_ HB hb); (try clear hb); (try clear hb2); (try clear hk); (try clear hi); (try clear ho0)) | ((with_reducible refine gate_callee (f := 40) rfl ?_); refine goesL_ (some 13) rfl rfl Try.func40 (by kernel_rfl) rfl #[.pointer (some ⟨g492, 0, none⟩), .int .i64 6] rfl ar_ ?_; (with_reducible refine (spec_l20Rd_pick.calls k g492 t490 t508 6 t512 t513 w _ ?side1 ?side2 A5.out).mono ?_); (case side1 => exact is102_ HI492.out); (case side2 => exact hb102_ HB.out); rintro e w52 ⟨rfl, hi, hb, hk⟩; refine ⟨_, rfl, ?_⟩; replace HO504 := (rk102_ HI492 HO504 hk); replace HO507 := (rk102_ HI492 HO507 hk); replace HO511 := (rk102_ HI492 HO511 hk); replace HB := Aside0.mk (hb); replace HI492 := Aside0.mk (hi); (try clear hb); (try clear hb2); (try clear hk); (try clear hi)))
    go_ret3
    exact ⟨_, by first | rfl | (simp [errW_none, errW_some] <;> rfl) | (simp [*, errW_none, errW_some] <;> rfl), by refine kR_ ?_; exact Kd.R_mono HO511.out (fun _ hk => trivial), hb102_ HB.out⟩
def laws_sameBytes.f (l0 : List Int) (l1 : List Int) : Option (Bool) := some ((strOfNums l0).toList == (strOfNums l1).toList)
set_option maxHeartbeats 8000000 in
set_option maxRecDepth 100000 in
theorem laws_sameBytes.calls (A0 : Option Addr) (c0 : Nat) (l0 : List Int) (A1 : Option Addr) (c1 : Nat) (l1 : List Int) (r : Bool) (w : World) (hr0 : Kd.C (Kd.int .u8) w A0 l0.length l0) (hc0 : l0.length ≤ c0) (hr1 : Kd.C (Kd.int .u8) w A1 l1.length l1) (hc1 : l1.length ≤ c1) (h : laws_sameBytes.f l0 l1 = some r) :
  Calls Try.prog 35 #[.slice A0 l0.length c0, .slice A1 l1.length c1] w fun e w' => e = .returned (.bool r) ∧ Drawn0 w w' := by
 have HR0 := Aside0.mk hr0; have HC0 := Aside0.mk hc0; clear hr0 hc0; have HR1 := Aside0.mk hr1; have HC1 := Aside0.mk hc1; clear hr1 hc1
 have H : (some ((strOfNums l0).toList == (strOfNums l1).toList)) = some r := h
 clear h
 obtain rfl := Option.some.inj H
 have hcv3 := Kd.C_string (P := Try.prog) (A := A0) (c := c0) Try.underlying22 Try.underlying5 Try.underlying9 HR0.out
 have hcv4 := Kd.C_string (P := Try.prog) (A := A1) (c := c1) Try.underlying22 Try.underlying5 Try.underlying9 HR1.out
 go_enter Try.func35, Try.ntmps35
 go_wp2
 go_ret
 exact ⟨by first | rfl | (simp; done) | (simp [*]; done), by repeat (first | exact Drawn0.refl _ | apply Drawn0.step)⟩
def laws_sameRanges.l0 : Nat → List (S90) → List (S90) → Int → Option (Bool)
 | 0, _, _, _ => none
 | k + 1, x0, x1, x5 => if x5 < (x0.length : Int) then (if 0 ≤ x5 then (if x5 < (x1.length : Int) then (if (!(((rd_T90 x0 x5).f0) == ((rd_T90 x1 x5).f0)) || (!(((rd_T90 x0 x5).f1) == ((rd_T90 x1 x5).f1)))) = true then (some false) else (laws_sameRanges.l0 k x0 x1 (wrap64 (x5 + 1)))) else (none)) else (none)) else (some true)
def laws_sameRanges.f (k : Nat) (l0 : List (S90)) (l1 : List (S90)) : Option (Bool) := if (l0.length : Int) = (l1.length : Int) then (laws_sameRanges.l0 k l0 l1 0) else (some false)
theorem laws_sameRanges.mono_l : ∀ k, (∀ y0 y1 y2, LeO (laws_sameRanges.l0 k y0 y1 y2) (laws_sameRanges.l0 (k + 1) y0 y1 y2))
 | 0 => fun _ _ _ r h => by simp [laws_sameRanges.l0] at h
 | k + 1 => by
  have ih0 := laws_sameRanges.mono_l k
  ·intro y0 y1 y2
   unfold laws_sameRanges.l0
   repeat' first | (with_reducible first | apply ih0 | exact LeO.refl _ | exact LeO.none _ | refine LeO.ite ?_ ?_ | refine LeO.bind ?_ fun _ => ?_) | apply ih0 | exact LeO.none _ | refine LeO.ite ?_ ?_ | refine LeO.bind ?_ fun _ => ?_
theorem laws_sameRanges.mono : ∀ a0 a1 k, LeO (laws_sameRanges.f k a0 a1) (laws_sameRanges.f (k + 1) a0 a1) := by
 intro a0 a1 k
 have ih0 := laws_sameRanges.mono_l k
 unfold laws_sameRanges.f
 repeat' first | (with_reducible first | apply ih0 | exact LeO.refl _ | exact LeO.none _ | refine LeO.ite ?_ ?_ | refine LeO.bind ?_ fun _ => ?_) | apply ih0 | exact LeO.none _ | refine LeO.ite ?_ ?_ | refine LeO.bind ?_ fun _ => ?_
set_option maxHeartbeats 8000000 in
set_option maxRecDepth 100000 in
theorem laws_sameRanges.calls (k : Nat) (A0 : Option Addr) (c0 : Nat) (l0 : List (S90)) (A1 : Option Addr) (c1 : Nat) (l1 : List (S90)) (r : Bool) (w : World) (hr0 : Kd.C k90 w A0 l0.length l0) (hc0 : l0.length ≤ c0) (hr1 : Kd.C k90 w A1 l1.length l1) (hc1 : l1.length ≤ c1) (h : laws_sameRanges.f k l0 l1 = some r) :
  Calls Try.prog 68 #[.slice A0 l0.length c0, .slice A1 l1.length c1] w fun e w' => e = .returned (.bool r) ∧ Drawn0 w w' := by
 have hu90 := Try.underlying90; have HR0 := Aside0.mk hr0; have HC0 := Aside0.mk hc0; clear hr0 hc0; have HR1 := Aside0.mk hr1; have HC1 := Aside0.mk hc1; clear hr1 hc1
 have H : (if (l0.length : Int) = (l1.length : Int) then (laws_sameRanges.l0 k l0 l1 0) else (some false)) = some r := h
 clear h
 by_cases c3 : (l0.length : Int) = (l1.length : Int)
 ·rw [if_pos c3] at H
  have c3b0 : ((l0.length : Int) == (l1.length : Int)) = true := beq_iff_eq.mpr c3
  have c3b1 : ((l0.length : Int) != (l1.length : Int)) = false := bne_eq_false_iff_eq.mpr c3
  have c3b2 : (l0.length == l1.length) = true := by first | simpa using c3 | (simp at c3 ⊢; omega)
  clear c3
  have H' := Aside0.mk H
  clear H
  go_enter Try.func68, Try.ntmps68
  go_wp2
  repeat (go_quiet (fail); try go_wp2)
  go_loopg [5] k (fun kq v5 w' => ∃ (x5_1 : Int), v5 = .int .i64 x5_1 ∧ Aside0 (laws_sameRanges.l0 kq l0 l1 x5_1 = some r) ∧ Aside0 (kq ≤ k) ∧ Drawn0 w w')
  case atStart => exact ⟨(0), (by first | rfl | (simp; done) | (simp [*]; done)), H', ⟨Nat.le_refl _⟩, by repeat (first | exact Drawn0.refl _ | apply Drawn0.step)⟩
  case round =>
   clear H'; (try clear c1); (try clear p2); (try clear c3); (try clear c3b0); (try clear c3b1); (try clear c3b2)
   obtain ⟨x5_1, rfl, HA, HK1, ⟨m1, rfl⟩⟩ := hrel
   cases gk with
   | zero => exact absurd HA.out (by simp [laws_sameRanges.l0])
   | succ k1 =>
    have H := HA.out; clear HA
    simp only [laws_sameRanges.l0] at H
    by_cases c4 : x5_1 < (l0.length : Int)
    ·rw [if_pos c4] at H
     have c4b0 : decide (x5_1 < (l0.length : Int)) = true := decide_eq_true c4
     clear c4
     by_cases c5 : 0 ≤ x5_1
     ·rw [if_pos c5] at H
      have c5b0 : decide (0 ≤ x5_1) = true := decide_eq_true c5
      clear c5
      by_cases c6 : x5_1 < (l1.length : Int)
      ·rw [if_pos c6] at H
       have c6b0 : decide (x5_1 < (l1.length : Int)) = true := decide_eq_true c6
       clear c6
       by_cases c7 : (!(((rd_T90 l0 x5_1).f0) == ((rd_T90 l1 x5_1).f0)) || (!(((rd_T90 l0 x5_1).f1) == ((rd_T90 l1 x5_1).f1)))) = true
       ·rw [if_pos c7] at H
        have c7b0 : (!(((rd_T90 l0 x5_1).f0) == ((rd_T90 l1 x5_1).f0)) || (!(((rd_T90 l0 x5_1).f1) == ((rd_T90 l1 x5_1).f1)))) = true := c7
        clear c7
        obtain rfl := Option.some.inj H
        have p528 : 0 ≤ (x5_1 : Int) := of_decide_eq_true (by first | (with_reducible assumption) | assumption)
        have q528 : x5_1 < (l0.length : Int) := of_decide_eq_true (by first | (with_reducible assumption) | assumption)
        obtain ⟨ad528, e528, hx528_0, hx528_1⟩ := at_T90 HR0.out x5_1 p528 q528
        cases e528
        replace p528 := eq_true p528
        replace q528 := eq_true q528
        have p529 : 0 ≤ (x5_1 : Int) := of_decide_eq_true (by first | (with_reducible assumption) | assumption)
        have q529 : x5_1 < (l1.length : Int) := of_decide_eq_true (by first | (with_reducible assumption) | assumption)
        obtain ⟨ad529, e529, hx529_0, hx529_1⟩ := at_T90 HR1.out x5_1 p529 q529
        cases e529
        replace p529 := eq_true p529
        replace q529 := eq_true q529
        go_wp2
        repeat (go_quiet (fail); try go_wp2)
        go_ret
        exact ⟨by first | rfl | (simp; done) | (simp [*]; done), by repeat (first | exact Drawn0.refl _ | apply Drawn0.step)⟩
       ·rw [if_neg c7] at H
        have c7b0 : (!(((rd_T90 l0 x5_1).f0) == ((rd_T90 l1 x5_1).f0)) || (!(((rd_T90 l0 x5_1).f1) == ((rd_T90 l1 x5_1).f1)))) = false := by simpa using c7
        clear c7
        have H' := Aside0.mk H
        clear H
        have p528 : 0 ≤ (x5_1 : Int) := of_decide_eq_true (by first | (with_reducible assumption) | assumption)
        have q528 : x5_1 < (l0.length : Int) := of_decide_eq_true (by first | (with_reducible assumption) | assumption)
        obtain ⟨ad528, e528, hx528_0, hx528_1⟩ := at_T90 HR0.out x5_1 p528 q528
        cases e528
        replace p528 := eq_true p528
        replace q528 := eq_true q528
        have p529 : 0 ≤ (x5_1 : Int) := of_decide_eq_true (by first | (with_reducible assumption) | assumption)
        have q529 : x5_1 < (l1.length : Int) := of_decide_eq_true (by first | (with_reducible assumption) | assumption)
        obtain ⟨ad529, e529, hx529_0, hx529_1⟩ := at_T90 HR1.out x5_1 p529 q529
        cases e529
        replace p529 := eq_true p529
        replace q529 := eq_true q529
        go_wp2
        repeat (go_quiet (fail); try go_wp2)
        go_roundg k1
        case measure => have := HK1.out; omega
        case rel => exact ⟨(wrap64 (x5_1 + 1)), (by first | rfl | (simp; done) | (simp [*]; done)), H', ⟨by have := HK1.out; omega⟩, by repeat (first | exact Drawn0.refl _ | apply Drawn0.step)⟩
      ·rw [if_neg c6] at H
       exact absurd H (by simp)
     ·rw [if_neg c5] at H
      exact absurd H (by simp)
    ·rw [if_neg c4] at H
     have c4b0 : decide (x5_1 < (l0.length : Int)) = false := decide_eq_false c4
     clear c4
     obtain rfl := Option.some.inj H
     go_wp2
     repeat (go_quiet (fail); try go_wp2)
     go_ret
     exact ⟨by first | rfl | (simp; done) | (simp [*]; done), by repeat (first | exact Drawn0.refl _ | apply Drawn0.step)⟩
 ·rw [if_neg c3] at H
  have c3b0 : ((l0.length : Int) == (l1.length : Int)) = false := beq_eq_false_iff_ne.mpr c3
  have c3b1 : ((l0.length : Int) != (l1.length : Int)) = true := bne_iff_ne.mpr c3
  have c3b2 : (l0.length == l1.length) = false := by first | simpa using c3 | (simp at c3 ⊢; omega)
  obtain rfl := Option.some.inj H
  go_enter Try.func68, Try.ntmps68
  go_wp2
  repeat (go_quiet (fail); try go_wp2)
  go_ret
  exact ⟨by first | rfl | (simp; done) | (simp [*]; done), by repeat (first | exact Drawn0.refl _ | apply Drawn0.step)⟩
def laws_sameSegment.f (k : Nat) (a0_0 : Int) (a0_1 : Int) (a0_2 : Int) (a0_3 : Int) (a0_4 : Int) (a0_5 : Bool) (a0_6 : Bool) (a0_7 : Bool) (a0_8 : Bool) (l0_9 : List (S90)) (l0_10 : List Int) (a1_0 : Int) (a1_1 : Int) (a1_2 : Int) (a1_3 : Int) (a1_4 : Int) (a1_5 : Bool) (a1_6 : Bool) (a1_7 : Bool) (a1_8 : Bool) (l1_9 : List (S90)) (l1_10 : List Int) : Option (Bool) := if a0_0 = a1_0 then (if a0_1 = a1_1 then (if a0_2 = a1_2 then (if a0_3 = a1_3 then (if a0_4 = a1_4 then (if (a0_5 == a1_5) = true then (if (a0_6 == a1_6) = true then (if (a0_7 == a1_7) = true then (if (a0_8 == a1_8) = true then ((laws_sameRanges.f k l0_9 l1_9).bind fun t532 => (if t532 = true then ((laws_sameBytes.f l0_10 l1_10).bind fun t533 => (some t533)) else (some false))) else (some false)) else (some false)) else (some false)) else (some false)) else (some false)) else (some false)) else (some false)) else (some false)) else (some false)
theorem laws_sameSegment.mono : ∀ a0 a1 a2 a3 a4 a5 a6 a7 a8 a9 a10 a11 a12 a13 a14 a15 a16 a17 a18 a19 a20 a21 k, LeO (laws_sameSegment.f k a0 a1 a2 a3 a4 a5 a6 a7 a8 a9 a10 a11 a12 a13 a14 a15 a16 a17 a18 a19 a20 a21) (laws_sameSegment.f (k + 1) a0 a1 a2 a3 a4 a5 a6 a7 a8 a9 a10 a11 a12 a13 a14 a15 a16 a17 a18 a19 a20 a21) := by
 intro a0 a1 a2 a3 a4 a5 a6 a7 a8 a9 a10 a11 a12 a13 a14 a15 a16 a17 a18 a19 a20 a21 k
 unfold laws_sameSegment.f
 repeat' first | (with_reducible first | apply laws_sameRanges.mono | exact LeO.refl _ | exact LeO.none _ | refine LeO.ite ?_ ?_ | refine LeO.bind ?_ fun _ => ?_) | apply laws_sameRanges.mono | exact LeO.none _ | refine LeO.ite ?_ ?_ | refine LeO.bind ?_ fun _ => ?_
set_option maxHeartbeats 8000000 in
set_option maxRecDepth 100000 in
theorem laws_sameSegment.calls (k : Nat) (a0_0 : Int) (a0_1 : Int) (a0_2 : Int) (a0_3 : Int) (a0_4 : Int) (a0_5 : Bool) (a0_6 : Bool) (a0_7 : Bool) (a0_8 : Bool) (A0_9 : Option Addr) (c0_9 : Nat) (l0_9 : List (S90)) (A0_10 : Option Addr) (c0_10 : Nat) (l0_10 : List Int) (a1_0 : Int) (a1_1 : Int) (a1_2 : Int) (a1_3 : Int) (a1_4 : Int) (a1_5 : Bool) (a1_6 : Bool) (a1_7 : Bool) (a1_8 : Bool) (A1_9 : Option Addr) (c1_9 : Nat) (l1_9 : List (S90)) (A1_10 : Option Addr) (c1_10 : Nat) (l1_10 : List Int) (r : Bool) (w : World) (hr0_9 : Kd.C k90 w A0_9 l0_9.length l0_9) (hc0_9 : l0_9.length ≤ c0_9) (hr0_10 : Kd.C (Kd.int .u8) w A0_10 l0_10.length l0_10) (hc0_10 : l0_10.length ≤ c0_10) (hr1_9 : Kd.C k90 w A1_9 l1_9.length l1_9) (hc1_9 : l1_9.length ≤ c1_9) (hr1_10 : Kd.C (Kd.int .u8) w A1_10 l1_10.length l1_10) (hc1_10 : l1_10.length ≤ c1_10) (h : laws_sameSegment.f k a0_0 a0_1 a0_2 a0_3 a0_4 a0_5 a0_6 a0_7 a0_8 l0_9 l0_10 a1_0 a1_1 a1_2 a1_3 a1_4 a1_5 a1_6 a1_7 a1_8 l1_9 l1_10 = some r) :
  Calls Try.prog 34 #[.agg #[.int .i64 a0_0, .int .i64 a0_1, .int .i64 a0_2, .int .i64 a0_3, .int .i64 a0_4, .bool a0_5, .bool a0_6, .bool a0_7, .bool a0_8, .slice A0_9 l0_9.length c0_9, .slice A0_10 l0_10.length c0_10], .agg #[.int .i64 a1_0, .int .i64 a1_1, .int .i64 a1_2, .int .i64 a1_3, .int .i64 a1_4, .bool a1_5, .bool a1_6, .bool a1_7, .bool a1_8, .slice A1_9 l1_9.length c1_9, .slice A1_10 l1_10.length c1_10]] w fun e w' => e = .returned (.bool r) ∧ Below w.heap.size w w' := by
 have hu52 := Try.underlying52; have HR0_9 := Aside0.mk hr0_9; have HC0_9 := Aside0.mk hc0_9; clear hr0_9 hc0_9; have HR0_10 := Aside0.mk hr0_10; have HC0_10 := Aside0.mk hc0_10; clear hr0_10 hc0_10; have HR1_9 := Aside0.mk hr1_9; have HC1_9 := Aside0.mk hc1_9; clear hr1_9 hc1_9; have HR1_10 := Aside0.mk hr1_10; have HC1_10 := Aside0.mk hc1_10; clear hr1_10 hc1_10
 have HB := Aside0.mk (Below.refl w.heap.size w)
 have H : (if a0_0 = a1_0 then (if a0_1 = a1_1 then (if a0_2 = a1_2 then (if a0_3 = a1_3 then (if a0_4 = a1_4 then (if (a0_5 == a1_5) = true then (if (a0_6 == a1_6) = true then (if (a0_7 == a1_7) = true then (if (a0_8 == a1_8) = true then ((laws_sameRanges.f k l0_9 l1_9).bind fun t532 => (if t532 = true then ((laws_sameBytes.f l0_10 l1_10).bind fun t533 => (some t533)) else (some false))) else (some false)) else (some false)) else (some false)) else (some false)) else (some false)) else (some false)) else (some false)) else (some false)) else (some false)) = some r := h
 clear h
 by_cases c3 : a0_0 = a1_0
 ·rw [if_pos c3] at H
  have c3b0 : (a0_0 == a1_0) = true := beq_iff_eq.mpr c3
  have c3b1 : (a0_0 != a1_0) = false := bne_eq_false_iff_eq.mpr c3
  clear c3
  by_cases c4 : a0_1 = a1_1
  ·rw [if_pos c4] at H
   have c4b0 : (a0_1 == a1_1) = true := beq_iff_eq.mpr c4
   have c4b1 : (a0_1 != a1_1) = false := bne_eq_false_iff_eq.mpr c4
   clear c4
   by_cases c5 : a0_2 = a1_2
   ·rw [if_pos c5] at H
    have c5b0 : (a0_2 == a1_2) = true := beq_iff_eq.mpr c5
    have c5b1 : (a0_2 != a1_2) = false := bne_eq_false_iff_eq.mpr c5
    clear c5
    by_cases c6 : a0_3 = a1_3
    ·rw [if_pos c6] at H
     have c6b0 : (a0_3 == a1_3) = true := beq_iff_eq.mpr c6
     have c6b1 : (a0_3 != a1_3) = false := bne_eq_false_iff_eq.mpr c6
     clear c6
     by_cases c7 : a0_4 = a1_4
     ·rw [if_pos c7] at H
      have c7b0 : (a0_4 == a1_4) = true := beq_iff_eq.mpr c7
      have c7b1 : (a0_4 != a1_4) = false := bne_eq_false_iff_eq.mpr c7
      clear c7
      by_cases c8 : (a0_5 == a1_5) = true
      ·rw [if_pos c8] at H
       have c8b0 : (a0_5 == a1_5) = true := c8
       (try (have c8b1 : decide (a0_5 = a1_5) = true := by simpa using c8))
       (try (have c8b2 : (a0_5 == a1_5) = true := by simpa using c8))
       clear c8
       by_cases c9 : (a0_6 == a1_6) = true
       ·rw [if_pos c9] at H
        have c9b0 : (a0_6 == a1_6) = true := c9
        (try (have c9b1 : decide (a0_6 = a1_6) = true := by simpa using c9))
        (try (have c9b2 : (a0_6 == a1_6) = true := by simpa using c9))
        clear c9
        by_cases c10 : (a0_7 == a1_7) = true
        ·rw [if_pos c10] at H
         have c10b0 : (a0_7 == a1_7) = true := c10
         (try (have c10b1 : decide (a0_7 = a1_7) = true := by simpa using c10))
         (try (have c10b2 : (a0_7 == a1_7) = true := by simpa using c10))
         clear c10
         by_cases c11 : (a0_8 == a1_8) = true
         ·rw [if_pos c11] at H
          have c11b0 : (a0_8 == a1_8) = true := c11
          (try (have c11b1 : decide (a0_8 = a1_8) = true := by simpa using c11))
          (try (have c11b2 : (a0_8 == a1_8) = true := by simpa using c11))
          clear c11
          replace H := Option.bind_eq_some_iff.mp H
          obtain ⟨t532, A120, H⟩ := H
          (try dsimp only at H)
          have A12 := Aside0.mk A120; clear A120
          by_cases c13 : t532 = true
          ·subst c13
           rw [if_pos rfl] at H
           replace H := Option.bind_eq_some_iff.mp H
           obtain ⟨t533, A140, H⟩ := H
           (try dsimp only at H)
           have A14 := Aside0.mk A140; clear A140
           obtain rfl := Option.some.inj H
           go_enter Try.func34, Try.ntmps34
           go_wp2_with (first | ((with_reducible refine gate_dst (N := 2) rfl ?_); refine box_ (N := 2) (cs := #[.int .i64 a0_0, .int .i64 a0_1, .int .i64 a0_2, .int .i64 a0_3, .int .i64 a0_4, .bool a0_5, .bool a0_6, .bool a0_7, .bool a0_8, .slice A0_9 l0_9.length c0_9, .slice A0_10 l0_10.length c0_10]) (t := 52) (fun gb530 hg w15 hbox hb => ?_); have BK530 := Aside0.mk (hbox); have GW530 := ge_ hg HB; have GE530 := ge_ hg HB; replace HB := (bs_ HB hb); clear hb hbox hg) | ((with_reducible refine gate_dst (N := 3) rfl ?_); refine box_ (N := 3) (cs := #[.int .i64 a1_0, .int .i64 a1_1, .int .i64 a1_2, .int .i64 a1_3, .int .i64 a1_4, .bool a1_5, .bool a1_6, .bool a1_7, .bool a1_8, .slice A1_9 l1_9.length c1_9, .slice A1_10 l1_10.length c1_10]) (t := 52) (fun gb531 hg w16 hbox hb => ?_); have BK531 := Aside0.mk (hbox); have GW531 := ge_ hg HB; have GE531 := ge_ hg HB; replace HB := (bs_ HB hb); have NB530_531 := nl_ hg BK530; have NB531_530 := ng_ hg BK530; replace BK530 := (bbA_ BK530 hb); clear hb hbox hg; have hnb17 := NB530_531.out; have hnc17 := NB531_530.out; have Z18 := zz11 BK530; have Z19 := zz11 BK531) | (go_at_call 68; (with_reducible refine (laws_sameRanges.calls k _ _ l0_9 _ _ l1_9 true _ ?side1 ?side2 ?side3 ?side4 A12.out).mono ?_); (case side1 => exact kC_ (Kd.C_below HR0_9.out HB.out)); (case side2 => exact HC0_9.out); (case side3 => exact kC_ (Kd.C_below HR1_9.out HB.out)); (case side4 => exact HC1_9.out); rintro e w' ⟨rfl, ⟨nd, rfl⟩⟩) | (go_at_call 35; (with_reducible refine (laws_sameBytes.calls _ _ l0_10 _ _ l1_10 t533 _ ?side1 ?side2 ?side3 ?side4 A14.out).mono ?_); (case side1 => exact kC_ (Kd.C_below HR0_10.out (hbA_ HB.out))); (case side2 => exact HC0_10.out); (case side3 => exact kC_ (Kd.C_below HR1_10.out (hbA_ HB.out))); (case side4 => exact HC1_10.out); rintro e w' ⟨rfl, ⟨nd, rfl⟩⟩))
           go_ret
           exact ⟨by first | rfl | (simp [errW_none, errW_some] <;> rfl) | (simp [*, errW_none, errW_some] <;> rfl), hbA_ HB.out⟩
          ·replace c13 := Bool.eq_false_iff.mpr c13
           subst c13
           rw [if_neg (show ¬ (false = true) by decide)] at H
           obtain rfl := Option.some.inj H
           go_enter Try.func34, Try.ntmps34
           go_wp2_with (first | ((with_reducible refine gate_dst (N := 2) rfl ?_); refine box_ (N := 2) (cs := #[.int .i64 a0_0, .int .i64 a0_1, .int .i64 a0_2, .int .i64 a0_3, .int .i64 a0_4, .bool a0_5, .bool a0_6, .bool a0_7, .bool a0_8, .slice A0_9 l0_9.length c0_9, .slice A0_10 l0_10.length c0_10]) (t := 52) (fun gb530 hg w20 hbox hb => ?_); have BK530 := Aside0.mk (hbox); have GW530 := ge_ hg HB; have GE530 := ge_ hg HB; replace HB := (bs_ HB hb); clear hb hbox hg) | ((with_reducible refine gate_dst (N := 3) rfl ?_); refine box_ (N := 3) (cs := #[.int .i64 a1_0, .int .i64 a1_1, .int .i64 a1_2, .int .i64 a1_3, .int .i64 a1_4, .bool a1_5, .bool a1_6, .bool a1_7, .bool a1_8, .slice A1_9 l1_9.length c1_9, .slice A1_10 l1_10.length c1_10]) (t := 52) (fun gb531 hg w21 hbox hb => ?_); have BK531 := Aside0.mk (hbox); have GW531 := ge_ hg HB; have GE531 := ge_ hg HB; replace HB := (bs_ HB hb); have NB530_531 := nl_ hg BK530; have NB531_530 := ng_ hg BK530; replace BK530 := (bbA_ BK530 hb); clear hb hbox hg; have hnb22 := NB530_531.out; have hnc22 := NB531_530.out; have Z23 := zz11 BK530; have Z24 := zz11 BK531) | (go_at_call 68; (with_reducible refine (laws_sameRanges.calls k _ _ l0_9 _ _ l1_9 false _ ?side1 ?side2 ?side3 ?side4 A12.out).mono ?_); (case side1 => exact kC_ (Kd.C_below HR0_9.out HB.out)); (case side2 => exact HC0_9.out); (case side3 => exact kC_ (Kd.C_below HR1_9.out HB.out)); (case side4 => exact HC1_9.out); rintro e w' ⟨rfl, ⟨nd, rfl⟩⟩))
           go_ret
           exact ⟨by first | rfl | (simp [errW_none, errW_some] <;> rfl) | (simp [*, errW_none, errW_some] <;> rfl), hbA_ HB.out⟩
         ·rw [if_neg c11] at H
          have c11b0 : (a0_8 == a1_8) = false := by simpa using c11
          (try (have c11b1 : decide (a0_8 = a1_8) = false := by simpa using c11))
          (try (have c11b2 : (a0_8 == a1_8) = false := by simpa using c11))
          (try (have c11b3 : ¬ (a0_8 = a1_8) := by simpa using c11))
          clear c11
          obtain rfl := Option.some.inj H
          go_enter Try.func34, Try.ntmps34
          go_wp2_with (first | ((with_reducible refine gate_dst (N := 2) rfl ?_); refine box_ (N := 2) (cs := #[.int .i64 a0_0, .int .i64 a0_1, .int .i64 a0_2, .int .i64 a0_3, .int .i64 a0_4, .bool a0_5, .bool a0_6, .bool a0_7, .bool a0_8, .slice A0_9 l0_9.length c0_9, .slice A0_10 l0_10.length c0_10]) (t := 52) (fun gb530 hg w25 hbox hb => ?_); have BK530 := Aside0.mk (hbox); have GW530 := ge_ hg HB; have GE530 := ge_ hg HB; replace HB := (bs_ HB hb); clear hb hbox hg) | ((with_reducible refine gate_dst (N := 3) rfl ?_); refine box_ (N := 3) (cs := #[.int .i64 a1_0, .int .i64 a1_1, .int .i64 a1_2, .int .i64 a1_3, .int .i64 a1_4, .bool a1_5, .bool a1_6, .bool a1_7, .bool a1_8, .slice A1_9 l1_9.length c1_9, .slice A1_10 l1_10.length c1_10]) (t := 52) (fun gb531 hg w26 hbox hb => ?_); have BK531 := Aside0.mk (hbox); have GW531 := ge_ hg HB; have GE531 := ge_ hg HB; replace HB := (bs_ HB hb); have NB530_531 := nl_ hg BK530; have NB531_530 := ng_ hg BK530; replace BK530 := (bbA_ BK530 hb); clear hb hbox hg; have hnb27 := NB530_531.out; have hnc27 := NB531_530.out; have Z28 := zz11 BK530; have Z29 := zz11 BK531))
          go_ret
          exact ⟨by first | rfl | (simp [errW_none, errW_some] <;> rfl) | (simp [*, errW_none, errW_some] <;> rfl), hbA_ HB.out⟩
        ·rw [if_neg c10] at H
         have c10b0 : (a0_7 == a1_7) = false := by simpa using c10
         (try (have c10b1 : decide (a0_7 = a1_7) = false := by simpa using c10))
         (try (have c10b2 : (a0_7 == a1_7) = false := by simpa using c10))
         (try (have c10b3 : ¬ (a0_7 = a1_7) := by simpa using c10))
         clear c10
         obtain rfl := Option.some.inj H
         go_enter Try.func34, Try.ntmps34
         go_wp2_with (first | ((with_reducible refine gate_dst (N := 2) rfl ?_); refine box_ (N := 2) (cs := #[.int .i64 a0_0, .int .i64 a0_1, .int .i64 a0_2, .int .i64 a0_3, .int .i64 a0_4, .bool a0_5, .bool a0_6, .bool a0_7, .bool a0_8, .slice A0_9 l0_9.length c0_9, .slice A0_10 l0_10.length c0_10]) (t := 52) (fun gb530 hg w30 hbox hb => ?_); have BK530 := Aside0.mk (hbox); have GW530 := ge_ hg HB; have GE530 := ge_ hg HB; replace HB := (bs_ HB hb); clear hb hbox hg) | ((with_reducible refine gate_dst (N := 3) rfl ?_); refine box_ (N := 3) (cs := #[.int .i64 a1_0, .int .i64 a1_1, .int .i64 a1_2, .int .i64 a1_3, .int .i64 a1_4, .bool a1_5, .bool a1_6, .bool a1_7, .bool a1_8, .slice A1_9 l1_9.length c1_9, .slice A1_10 l1_10.length c1_10]) (t := 52) (fun gb531 hg w31 hbox hb => ?_); have BK531 := Aside0.mk (hbox); have GW531 := ge_ hg HB; have GE531 := ge_ hg HB; replace HB := (bs_ HB hb); have NB530_531 := nl_ hg BK530; have NB531_530 := ng_ hg BK530; replace BK530 := (bbA_ BK530 hb); clear hb hbox hg; have hnb32 := NB530_531.out; have hnc32 := NB531_530.out; have Z33 := zz11 BK530; have Z34 := zz11 BK531))
         go_ret
         exact ⟨by first | rfl | (simp [errW_none, errW_some] <;> rfl) | (simp [*, errW_none, errW_some] <;> rfl), hbA_ HB.out⟩
       ·rw [if_neg c9] at H
        have c9b0 : (a0_6 == a1_6) = false := by simpa using c9
        (try (have c9b1 : decide (a0_6 = a1_6) = false := by simpa using c9))
        (try (have c9b2 : (a0_6 == a1_6) = false := by simpa using c9))
        (try (have c9b3 : ¬ (a0_6 = a1_6) := by simpa using c9))
        clear c9
        obtain rfl := Option.some.inj H
        go_enter Try.func34, Try.ntmps34
        go_wp2_with (first | ((with_reducible refine gate_dst (N := 2) rfl ?_); refine box_ (N := 2) (cs := #[.int .i64 a0_0, .int .i64 a0_1, .int .i64 a0_2, .int .i64 a0_3, .int .i64 a0_4, .bool a0_5, .bool a0_6, .bool a0_7, .bool a0_8, .slice A0_9 l0_9.length c0_9, .slice A0_10 l0_10.length c0_10]) (t := 52) (fun gb530 hg w35 hbox hb => ?_); have BK530 := Aside0.mk (hbox); have GW530 := ge_ hg HB; have GE530 := ge_ hg HB; replace HB := (bs_ HB hb); clear hb hbox hg) | ((with_reducible refine gate_dst (N := 3) rfl ?_); refine box_ (N := 3) (cs := #[.int .i64 a1_0, .int .i64 a1_1, .int .i64 a1_2, .int .i64 a1_3, .int .i64 a1_4, .bool a1_5, .bool a1_6, .bool a1_7, .bool a1_8, .slice A1_9 l1_9.length c1_9, .slice A1_10 l1_10.length c1_10]) (t := 52) (fun gb531 hg w36 hbox hb => ?_); have BK531 := Aside0.mk (hbox); have GW531 := ge_ hg HB; have GE531 := ge_ hg HB; replace HB := (bs_ HB hb); have NB530_531 := nl_ hg BK530; have NB531_530 := ng_ hg BK530; replace BK530 := (bbA_ BK530 hb); clear hb hbox hg; have hnb37 := NB530_531.out; have hnc37 := NB531_530.out; have Z38 := zz11 BK530; have Z39 := zz11 BK531))
        go_ret
        exact ⟨by first | rfl | (simp [errW_none, errW_some] <;> rfl) | (simp [*, errW_none, errW_some] <;> rfl), hbA_ HB.out⟩
      ·rw [if_neg c8] at H
       have c8b0 : (a0_5 == a1_5) = false := by simpa using c8
       (try (have c8b1 : decide (a0_5 = a1_5) = false := by simpa using c8))
       (try (have c8b2 : (a0_5 == a1_5) = false := by simpa using c8))
       (try (have c8b3 : ¬ (a0_5 = a1_5) := by simpa using c8))
       clear c8
       obtain rfl := Option.some.inj H
       go_enter Try.func34, Try.ntmps34
       go_wp2_with (first | ((with_reducible refine gate_dst (N := 2) rfl ?_); refine box_ (N := 2) (cs := #[.int .i64 a0_0, .int .i64 a0_1, .int .i64 a0_2, .int .i64 a0_3, .int .i64 a0_4, .bool a0_5, .bool a0_6, .bool a0_7, .bool a0_8, .slice A0_9 l0_9.length c0_9, .slice A0_10 l0_10.length c0_10]) (t := 52) (fun gb530 hg w40 hbox hb => ?_); have BK530 := Aside0.mk (hbox); have GW530 := ge_ hg HB; have GE530 := ge_ hg HB; replace HB := (bs_ HB hb); clear hb hbox hg) | ((with_reducible refine gate_dst (N := 3) rfl ?_); refine box_ (N := 3) (cs := #[.int .i64 a1_0, .int .i64 a1_1, .int .i64 a1_2, .int .i64 a1_3, .int .i64 a1_4, .bool a1_5, .bool a1_6, .bool a1_7, .bool a1_8, .slice A1_9 l1_9.length c1_9, .slice A1_10 l1_10.length c1_10]) (t := 52) (fun gb531 hg w41 hbox hb => ?_); have BK531 := Aside0.mk (hbox); have GW531 := ge_ hg HB; have GE531 := ge_ hg HB; replace HB := (bs_ HB hb); have NB530_531 := nl_ hg BK530; have NB531_530 := ng_ hg BK530; replace BK530 := (bbA_ BK530 hb); clear hb hbox hg; have hnb42 := NB530_531.out; have hnc42 := NB531_530.out; have Z43 := zz11 BK530; have Z44 := zz11 BK531))
       go_ret
       exact ⟨by first | rfl | (simp [errW_none, errW_some] <;> rfl) | (simp [*, errW_none, errW_some] <;> rfl), hbA_ HB.out⟩
     ·rw [if_neg c7] at H
      have c7b0 : (a0_4 == a1_4) = false := beq_eq_false_iff_ne.mpr c7
      have c7b1 : (a0_4 != a1_4) = true := bne_iff_ne.mpr c7
      obtain rfl := Option.some.inj H
      go_enter Try.func34, Try.ntmps34
      go_wp2_with (first | ((with_reducible refine gate_dst (N := 2) rfl ?_); refine box_ (N := 2) (cs := #[.int .i64 a0_0, .int .i64 a0_1, .int .i64 a0_2, .int .i64 a0_3, .int .i64 a0_4, .bool a0_5, .bool a0_6, .bool a0_7, .bool a0_8, .slice A0_9 l0_9.length c0_9, .slice A0_10 l0_10.length c0_10]) (t := 52) (fun gb530 hg w45 hbox hb => ?_); have BK530 := Aside0.mk (hbox); have GW530 := ge_ hg HB; have GE530 := ge_ hg HB; replace HB := (bs_ HB hb); clear hb hbox hg) | ((with_reducible refine gate_dst (N := 3) rfl ?_); refine box_ (N := 3) (cs := #[.int .i64 a1_0, .int .i64 a1_1, .int .i64 a1_2, .int .i64 a1_3, .int .i64 a1_4, .bool a1_5, .bool a1_6, .bool a1_7, .bool a1_8, .slice A1_9 l1_9.length c1_9, .slice A1_10 l1_10.length c1_10]) (t := 52) (fun gb531 hg w46 hbox hb => ?_); have BK531 := Aside0.mk (hbox); have GW531 := ge_ hg HB; have GE531 := ge_ hg HB; replace HB := (bs_ HB hb); have NB530_531 := nl_ hg BK530; have NB531_530 := ng_ hg BK530; replace BK530 := (bbA_ BK530 hb); clear hb hbox hg; have hnb47 := NB530_531.out; have hnc47 := NB531_530.out; have Z48 := zz11 BK530; have Z49 := zz11 BK531))
      go_ret
      exact ⟨by first | rfl | (simp [errW_none, errW_some] <;> rfl) | (simp [*, errW_none, errW_some] <;> rfl), hbA_ HB.out⟩
    ·rw [if_neg c6] at H
     have c6b0 : (a0_3 == a1_3) = false := beq_eq_false_iff_ne.mpr c6
     have c6b1 : (a0_3 != a1_3) = true := bne_iff_ne.mpr c6
     obtain rfl := Option.some.inj H
     go_enter Try.func34, Try.ntmps34
     go_wp2_with (first | ((with_reducible refine gate_dst (N := 2) rfl ?_); refine box_ (N := 2) (cs := #[.int .i64 a0_0, .int .i64 a0_1, .int .i64 a0_2, .int .i64 a0_3, .int .i64 a0_4, .bool a0_5, .bool a0_6, .bool a0_7, .bool a0_8, .slice A0_9 l0_9.length c0_9, .slice A0_10 l0_10.length c0_10]) (t := 52) (fun gb530 hg w50 hbox hb => ?_); have BK530 := Aside0.mk (hbox); have GW530 := ge_ hg HB; have GE530 := ge_ hg HB; replace HB := (bs_ HB hb); clear hb hbox hg) | ((with_reducible refine gate_dst (N := 3) rfl ?_); refine box_ (N := 3) (cs := #[.int .i64 a1_0, .int .i64 a1_1, .int .i64 a1_2, .int .i64 a1_3, .int .i64 a1_4, .bool a1_5, .bool a1_6, .bool a1_7, .bool a1_8, .slice A1_9 l1_9.length c1_9, .slice A1_10 l1_10.length c1_10]) (t := 52) (fun gb531 hg w51 hbox hb => ?_); have BK531 := Aside0.mk (hbox); have GW531 := ge_ hg HB; have GE531 := ge_ hg HB; replace HB := (bs_ HB hb); have NB530_531 := nl_ hg BK530; have NB531_530 := ng_ hg BK530; replace BK530 := (bbA_ BK530 hb); clear hb hbox hg; have hnb52 := NB530_531.out; have hnc52 := NB531_530.out; have Z53 := zz11 BK530; have Z54 := zz11 BK531))
     go_ret
     exact ⟨by first | rfl | (simp [errW_none, errW_some] <;> rfl) | (simp [*, errW_none, errW_some] <;> rfl), hbA_ HB.out⟩
   ·rw [if_neg c5] at H
    have c5b0 : (a0_2 == a1_2) = false := beq_eq_false_iff_ne.mpr c5
    have c5b1 : (a0_2 != a1_2) = true := bne_iff_ne.mpr c5
    obtain rfl := Option.some.inj H
    go_enter Try.func34, Try.ntmps34
    go_wp2_with (first | ((with_reducible refine gate_dst (N := 2) rfl ?_); refine box_ (N := 2) (cs := #[.int .i64 a0_0, .int .i64 a0_1, .int .i64 a0_2, .int .i64 a0_3, .int .i64 a0_4, .bool a0_5, .bool a0_6, .bool a0_7, .bool a0_8, .slice A0_9 l0_9.length c0_9, .slice A0_10 l0_10.length c0_10]) (t := 52) (fun gb530 hg w55 hbox hb => ?_); have BK530 := Aside0.mk (hbox); have GW530 := ge_ hg HB; have GE530 := ge_ hg HB; replace HB := (bs_ HB hb); clear hb hbox hg) | ((with_reducible refine gate_dst (N := 3) rfl ?_); refine box_ (N := 3) (cs := #[.int .i64 a1_0, .int .i64 a1_1, .int .i64 a1_2, .int .i64 a1_3, .int .i64 a1_4, .bool a1_5, .bool a1_6, .bool a1_7, .bool a1_8, .slice A1_9 l1_9.length c1_9, .slice A1_10 l1_10.length c1_10]) (t := 52) (fun gb531 hg w56 hbox hb => ?_); have BK531 := Aside0.mk (hbox); have GW531 := ge_ hg HB; have GE531 := ge_ hg HB; replace HB := (bs_ HB hb); have NB530_531 := nl_ hg BK530; have NB531_530 := ng_ hg BK530; replace BK530 := (bbA_ BK530 hb); clear hb hbox hg; have hnb57 := NB530_531.out; have hnc57 := NB531_530.out; have Z58 := zz11 BK530; have Z59 := zz11 BK531))
    go_ret
    exact ⟨by first | rfl | (simp [errW_none, errW_some] <;> rfl) | (simp [*, errW_none, errW_some] <;> rfl), hbA_ HB.out⟩
  ·rw [if_neg c4] at H
   have c4b0 : (a0_1 == a1_1) = false := beq_eq_false_iff_ne.mpr c4
   have c4b1 : (a0_1 != a1_1) = true := bne_iff_ne.mpr c4
   obtain rfl := Option.some.inj H
   go_enter Try.func34, Try.ntmps34
   go_wp2_with (first | ((with_reducible refine gate_dst (N := 2) rfl ?_); refine box_ (N := 2) (cs := #[.int .i64 a0_0, .int .i64 a0_1, .int .i64 a0_2, .int .i64 a0_3, .int .i64 a0_4, .bool a0_5, .bool a0_6, .bool a0_7, .bool a0_8, .slice A0_9 l0_9.length c0_9, .slice A0_10 l0_10.length c0_10]) (t := 52) (fun gb530 hg w60 hbox hb => ?_); have BK530 := Aside0.mk (hbox); have GW530 := ge_ hg HB; have GE530 := ge_ hg HB; replace HB := (bs_ HB hb); clear hb hbox hg) | ((with_reducible refine gate_dst (N := 3) rfl ?_); refine box_ (N := 3) (cs := #[.int .i64 a1_0, .int .i64 a1_1, .int .i64 a1_2, .int .i64 a1_3, .int .i64 a1_4, .bool a1_5, .bool a1_6, .bool a1_7, .bool a1_8, .slice A1_9 l1_9.length c1_9, .slice A1_10 l1_10.length c1_10]) (t := 52) (fun gb531 hg w61 hbox hb => ?_); have BK531 := Aside0.mk (hbox); have GW531 := ge_ hg HB; have GE531 := ge_ hg HB; replace HB := (bs_ HB hb); have NB530_531 := nl_ hg BK530; have NB531_530 := ng_ hg BK530; replace BK530 := (bbA_ BK530 hb); clear hb hbox hg; have hnb62 := NB530_531.out; have hnc62 := NB531_530.out; have Z63 := zz11 BK530; have Z64 := zz11 BK531))
   go_ret
   exact ⟨by first | rfl | (simp [errW_none, errW_some] <;> rfl) | (simp [*, errW_none, errW_some] <;> rfl), hbA_ HB.out⟩
 ·rw [if_neg c3] at H
  have c3b0 : (a0_0 == a1_0) = false := beq_eq_false_iff_ne.mpr c3
  have c3b1 : (a0_0 != a1_0) = true := bne_iff_ne.mpr c3
  obtain rfl := Option.some.inj H
  go_enter Try.func34, Try.ntmps34
  go_wp2_with (first | ((with_reducible refine gate_dst (N := 2) rfl ?_); refine box_ (N := 2) (cs := #[.int .i64 a0_0, .int .i64 a0_1, .int .i64 a0_2, .int .i64 a0_3, .int .i64 a0_4, .bool a0_5, .bool a0_6, .bool a0_7, .bool a0_8, .slice A0_9 l0_9.length c0_9, .slice A0_10 l0_10.length c0_10]) (t := 52) (fun gb530 hg w65 hbox hb => ?_); have BK530 := Aside0.mk (hbox); have GW530 := ge_ hg HB; have GE530 := ge_ hg HB; replace HB := (bs_ HB hb); clear hb hbox hg) | ((with_reducible refine gate_dst (N := 3) rfl ?_); refine box_ (N := 3) (cs := #[.int .i64 a1_0, .int .i64 a1_1, .int .i64 a1_2, .int .i64 a1_3, .int .i64 a1_4, .bool a1_5, .bool a1_6, .bool a1_7, .bool a1_8, .slice A1_9 l1_9.length c1_9, .slice A1_10 l1_10.length c1_10]) (t := 52) (fun gb531 hg w66 hbox hb => ?_); have BK531 := Aside0.mk (hbox); have GW531 := ge_ hg HB; have GE531 := ge_ hg HB; replace HB := (bs_ HB hb); have NB530_531 := nl_ hg BK530; have NB531_530 := ng_ hg BK530; replace BK530 := (bbA_ BK530 hb); clear hb hbox hg; have hnb67 := NB530_531.out; have hnc67 := NB531_530.out; have Z68 := zz11 BK530; have Z69 := zz11 BK531))
  go_ret
  exact ⟨by first | rfl | (simp [errW_none, errW_some] <;> rfl) | (simp [*, errW_none, errW_some] <;> rfl), hbA_ HB.out⟩
end Go.Proofs.Ytpbeljcgcdilnaa.PFnSegmentFrom
