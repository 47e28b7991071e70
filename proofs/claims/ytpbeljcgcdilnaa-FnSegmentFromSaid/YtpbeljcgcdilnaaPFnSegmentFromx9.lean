/- Printed by wip/xp/xprint.sh out of the translation, for this claim: what each function answers, as a plain function, and that the machine does just that. No condition. -/
import Derived.Test.YtpbeljcgcdilnaaPFnSegmentFromx0
import Derived.Test.YtpbeljcgcdilnaaPFnSegmentFromx2
import Derived.Test.YtpbeljcgcdilnaaPFnSegmentFromx3
import Derived.Test.YtpbeljcgcdilnaaPFnSegmentFromx8
namespace Go.Proofs.Ytpbeljcgcdilnaa.PFnSegmentFrom
open Go.RowKit Go.Proofs.YtpbeljcgcdilnaaW.PrintWords Go.Proofs.YtpbeljcgcdilnaaW.PrintLast Go.Proofs.YtpbeljcgcdilnaaW.PrintMore
attribute [local go_sem] max2_int min2_int max_two min_two max_three min_three max_four min_four   -- for this text's walks alone
set_option linter.unusedVariables false
set_option linter.unusedSimpArgs false
mutual
def spec_SegmentBytes.j0 : Nat → Int → Int → Bool → Int → Int → Int → Int → Int → Bool → Bool → Bool → Bool → List (S90) → List Int → Option (List Int)
 | 0, _, _, _, _, _, _, _, _, _, _, _, _, _, _ => none
 | k + 1, x1, x2, x21, x348000, x348001, x348002, x348003, x348004, x348005, x348006, x348007, x348008, x348009, x348010 => if x21 = true then (some (([] : List Int))) else ((some (([(x348000) % 256, (x348001) % 256] : List Int) : List Int)).bind fun y354 => ((spec_BytesOf.f k x348002 2).bind fun t357 => (if y354.length + t357.length < 140737488355328 then ((some (y354 ++ t357 : List Int)).bind fun y360 => ((spec_BytesOf.f k x348003 2).bind fun t363 => (if y360.length + t363.length < 140737488355328 then ((some (y360 ++ t363 : List Int)).bind fun y366 => ((spec_l11Marks.f k x348000 x348001 x348002 x348003 x348004 x348005 x348006 x348007 x348008 x348009 x348010).bind fun t369 => ((some (([(x348004) % 256, (t369) % 256, ((x348009.length : Int)) % 256] : List Int) : List Int)).bind fun y370 => (if y366.length + y370.length < 140737488355328 then (spec_SegmentBytes.l0 k x1 x2 (y366 ++ y370) 0 x348000 x348001 x348002 x348003 x348004 x348005 x348006 x348007 x348008 x348009 x348010) else (none))))) else (none)))) else (none))))
def spec_SegmentBytes.l0 : Nat → Int → Int → List Int → Int → Int → Int → Int → Int → Int → Bool → Bool → Bool → Bool → List (S90) → List Int → Option (List Int)
 | 0, _, _, _, _, _, _, _, _, _, _, _, _, _, _, _ => none
 | k + 1, x1, x2, x7, x8, x348000, x348001, x348002, x348003, x348004, x348005, x348006, x348007, x348008, x348009, x348010 => if x8 < (x348009.length : Int) then (if 0 ≤ x8 then ((spec_BytesOf.f k ((rd_T90 x348009 x8).f0) 2).bind fun t377 => (if x7.length + t377.length < 140737488355328 then ((some (x7 ++ t377 : List Int)).bind fun y380 => ((spec_BytesOf.f k ((rd_T90 x348009 x8).f1) 2).bind fun t384 => (if y380.length + t384.length < 140737488355328 then (spec_SegmentBytes.l0 k x1 x2 (y380 ++ t384) (wrap64 (x8 + 1)) x348000 x348001 x348002 x348003 x348004 x348005 x348006 x348007 x348008 x348009 x348010) else (none)))) else (none))) else (none)) else (if x7.length < 140737488355328 then ((some (x7 ++ [((x348010.length : Int)) % 256] : List Int)).bind fun y390 => (if y390.length + x348010.length < 140737488355328 then ((some (y390 ++ x348010 : List Int)).bind fun y393 => ((spec_l9Sum.f k x1 x2 y393).bind fun t396 => ((spec_BytesOf.f k t396 2).bind fun t397 => (if y393.length + t397.length < 140737488355328 then (some (y393 ++ t397)) else (none))))) else (none))) else (none))
end
def spec_SegmentBytes.f (k : Nat) (a0_0 : Int) (a0_1 : Int) (a0_2 : Int) (a0_3 : Int) (a0_4 : Int) (a0_5 : Bool) (a0_6 : Bool) (a0_7 : Bool) (a0_8 : Bool) (l0_9 : List (S90)) (l0_10 : List Int) (a1 : Int) (a2 : Int) : Option (List Int) := (spec_SegmentOk.f k a0_0 a0_1 a0_2 a0_3 a0_4 a0_5 a0_6 a0_7 a0_8 l0_9 l0_10).bind fun t348 => (if t348 = true then ((spec_l1In.f a1 0 65535).bind fun t349 => (if t349 = true then ((spec_l1In.f a2 0 65535).bind fun t350 => (spec_SegmentBytes.j0 k a1 a2 (!t350) a0_0 a0_1 a0_2 a0_3 a0_4 a0_5 a0_6 a0_7 a0_8 l0_9 l0_10)) else (spec_SegmentBytes.j0 k a1 a2 true a0_0 a0_1 a0_2 a0_3 a0_4 a0_5 a0_6 a0_7 a0_8 l0_9 l0_10))) else (spec_SegmentBytes.j0 k a1 a2 true a0_0 a0_1 a0_2 a0_3 a0_4 a0_5 a0_6 a0_7 a0_8 l0_9 l0_10))
theorem spec_SegmentBytes.mono_l : ∀ k, (∀ y0 y1 y2 y3 y4 y5 y6 y7 y8 y9 y10 y11 y12 y13, LeO (spec_SegmentBytes.j0 k y0 y1 y2 y3 y4 y5 y6 y7 y8 y9 y10 y11 y12 y13) (spec_SegmentBytes.j0 (k + 1) y0 y1 y2 y3 y4 y5 y6 y7 y8 y9 y10 y11 y12 y13)) ∧ (∀ y0 y1 y2 y3 y4 y5 y6 y7 y8 y9 y10 y11 y12 y13 y14, LeO (spec_SegmentBytes.l0 k y0 y1 y2 y3 y4 y5 y6 y7 y8 y9 y10 y11 y12 y13 y14) (spec_SegmentBytes.l0 (k + 1) y0 y1 y2 y3 y4 y5 y6 y7 y8 y9 y10 y11 y12 y13 y14))
 | 0 => ⟨fun _ _ _ _ _ _ _ _ _ _ _ _ _ _ r h => by simp [spec_SegmentBytes.j0] at h, fun _ _ _ _ _ _ _ _ _ _ _ _ _ _ _ r h => by simp [spec_SegmentBytes.l0] at h⟩
 | k + 1 => by
  obtain ⟨ih0, ih1⟩ := spec_SegmentBytes.mono_l k
  refine ⟨?_, ?_⟩
  ·intro y0 y1 y2 y3 y4 y5 y6 y7 y8 y9 y10 y11 y12 y13
   unfold spec_SegmentBytes.j0
   repeat' first | (with_reducible first | apply ih0 | apply ih1 | apply spec_BytesOf.mono | apply spec_SegmentOk.mono | apply spec_l11Marks.mono | apply spec_l9Sum.mono | exact LeO.refl _ | exact LeO.none _ | refine LeO.ite ?_ ?_ | refine LeO.bind ?_ fun _ => ?_) | apply ih0 | apply ih1 | apply spec_BytesOf.mono | apply spec_SegmentOk.mono | apply spec_l11Marks.mono | apply spec_l9Sum.mono | exact LeO.none _ | refine LeO.ite ?_ ?_ | refine LeO.bind ?_ fun _ => ?_
  ·intro y0 y1 y2 y3 y4 y5 y6 y7 y8 y9 y10 y11 y12 y13 y14
   unfold spec_SegmentBytes.l0
   repeat' first | (with_reducible first | apply ih0 | apply ih1 | apply spec_BytesOf.mono | apply spec_SegmentOk.mono | apply spec_l11Marks.mono | apply spec_l9Sum.mono | exact LeO.refl _ | exact LeO.none _ | refine LeO.ite ?_ ?_ | refine LeO.bind ?_ fun _ => ?_) | apply ih0 | apply ih1 | apply spec_BytesOf.mono | apply spec_SegmentOk.mono | apply spec_l11Marks.mono | apply spec_l9Sum.mono | exact LeO.none _ | refine LeO.ite ?_ ?_ | refine LeO.bind ?_ fun _ => ?_
theorem spec_SegmentBytes.mono : ∀ a0 a1 a2 a3 a4 a5 a6 a7 a8 a9 a10 a11 a12 k, LeO (spec_SegmentBytes.f k a0 a1 a2 a3 a4 a5 a6 a7 a8 a9 a10 a11 a12) (spec_SegmentBytes.f (k + 1) a0 a1 a2 a3 a4 a5 a6 a7 a8 a9 a10 a11 a12) := by
 intro a0 a1 a2 a3 a4 a5 a6 a7 a8 a9 a10 a11 a12 k
 obtain ⟨ih0, ih1⟩ := spec_SegmentBytes.mono_l k
 unfold spec_SegmentBytes.f
 repeat' first | (with_reducible first | apply ih0 | apply ih1 | apply spec_BytesOf.mono | apply spec_SegmentOk.mono | apply spec_l11Marks.mono | apply spec_l9Sum.mono | exact LeO.refl _ | exact LeO.none _ | refine LeO.ite ?_ ?_ | refine LeO.bind ?_ fun _ => ?_) | apply ih0 | apply ih1 | apply spec_BytesOf.mono | apply spec_SegmentOk.mono | apply spec_l11Marks.mono | apply spec_l9Sum.mono | exact LeO.none _ | refine LeO.ite ?_ ?_ | refine LeO.bind ?_ fun _ => ?_
def spec_SegmentBytes.T3 : Bool × List (List Nat × List Nat) := (true, [([], []), ([0], [0]), ([1], [1]), ([], []), ([3], [3]), ([4], [4]), ([2, 5], [2, 5]), ([], []), ([7], [7]), ([8], [8]), ([6, 9, 9], [6, 9]), ([10, 10, 0, 1, 2, 3, 4, 5, 6, 7, 8, 9, 10], [10])])
def spec_SegmentBytes.B3 : List Nat := [0, 1, 3, 0, 8, 24, 63, 0, 128, 384, 1023, 2047]
theorem spec_SegmentBytes.tab3 : rtab .any (opsOf Try.f38 3) = spec_SegmentBytes.T3 := by kernel_rfl
theorem spec_SegmentBytes.bits3 : waitsOk spec_SegmentBytes.T3.2 spec_SegmentBytes.B3 = true := by kernel_rfl
def spec_SegmentBytes.T4 : Bool × List (List Nat × List Nat) := (true, [([], []), ([], []), ([1], [1]), ([2], [2]), ([0, 3, 3], [0, 3]), ([], []), ([5], [5]), ([6], [6]), ([], []), ([8, 4], [8]), ([9], [9]), ([], []), ([11], [11]), ([12], [12]), ([13], [13]), ([7, 10, 14], [7, 10, 14]), ([4, 15, 9], [4, 15]), ([16, 16, 0, 1, 2, 3, 4, 5, 6, 7, 8, 9, 10, 11, 12, 13, 14, 15, 16], [0, 16])])
def spec_SegmentBytes.B4 : List Nat := [0, 0, 2, 6, 15, 0, 32, 96, 0, 287, 799, 0, 2048, 6144, 14336, 32767, 65535, 131071]
theorem spec_SegmentBytes.tab4 : rtab .any (opsOf Try.f38 4) = spec_SegmentBytes.T4 := by kernel_rfl
theorem spec_SegmentBytes.bits4 : waitsOk spec_SegmentBytes.T4.2 spec_SegmentBytes.B4 = true := by kernel_rfl
def spec_SegmentBytes.T8 : Bool × List (List Nat × List Nat) := (true, [([], []), ([], []), ([1], [1]), ([], []), ([2, 3], [2, 3]), ([4], [4]), ([5], [5]), ([6], [6]), ([0, 7, 7], [0, 7]), ([], []), ([9], [9]), ([], []), ([10, 11], [10, 11]), ([12], [12]), ([13], [13]), ([14, 8], [14]), ([8, 15, 15], [8, 15]), ([16, 16, 0, 1, 2, 3, 4, 5, 6, 7, 8, 9, 10, 11, 12, 13, 14, 15, 16], [0, 16])])
def spec_SegmentBytes.B8 : List Nat := [0, 0, 2, 0, 14, 30, 62, 126, 255, 0, 512, 0, 3584, 7680, 15872, 32767, 65535, 131071]
theorem spec_SegmentBytes.tab8 : rtab .any (opsOf Try.f38 8) = spec_SegmentBytes.T8 := by kernel_rfl
theorem spec_SegmentBytes.bits8 : waitsOk spec_SegmentBytes.T8.2 spec_SegmentBytes.B8 = true := by kernel_rfl
def spec_SegmentBytes.T9 : Bool × List (List Nat × List Nat) := (true, [([], []), ([], []), ([1], [1]), ([2], [2]), ([3], [3]), ([4], [4]), ([0, 5], [0, 5]), ([], []), ([7], [7]), ([6, 8, 6], [6, 8]), ([9, 9, 0, 1, 2, 3, 4, 5, 6, 7, 8, 9], [0, 9])])
def spec_SegmentBytes.B9 : List Nat := [0, 0, 2, 6, 14, 30, 63, 0, 128, 511, 1023]
theorem spec_SegmentBytes.tab9 : rtab .any (opsOf Try.f38 9) = spec_SegmentBytes.T9 := by kernel_rfl
theorem spec_SegmentBytes.bits9 : waitsOk spec_SegmentBytes.T9.2 spec_SegmentBytes.B9 = true := by kernel_rfl
set_option maxHeartbeats 8000000 in
set_option maxRecDepth 100000 in
theorem spec_SegmentBytes.calls (k : Nat) (a0_0 : Int) (a0_1 : Int) (a0_2 : Int) (a0_3 : Int) (a0_4 : Int) (a0_5 : Bool) (a0_6 : Bool) (a0_7 : Bool) (a0_8 : Bool) (A0_9 : Option Addr) (c0_9 : Nat) (l0_9 : List (S90)) (A0_10 : Option Addr) (c0_10 : Nat) (l0_10 : List Int) (a1 : Int) (a2 : Int) (r : List Int) (w : World) (hr0_9 : Kd.C k90 w A0_9 l0_9.length l0_9) (hc0_9 : l0_9.length ≤ c0_9) (hr0_10 : Kd.C (Kd.int .u8) w A0_10 l0_10.length l0_10) (hc0_10 : l0_10.length ≤ c0_10) (h : spec_SegmentBytes.f k a0_0 a0_1 a0_2 a0_3 a0_4 a0_5 a0_6 a0_7 a0_8 l0_9 l0_10 a1 a2 = some r) :
  Calls Try.prog 38 #[.agg #[.int .i64 a0_0, .int .i64 a0_1, .int .i64 a0_2, .int .i64 a0_3, .int .i64 a0_4, .bool a0_5, .bool a0_6, .bool a0_7, .bool a0_8, .slice A0_9 l0_9.length c0_9, .slice A0_10 l0_10.length c0_10], .int .i64 a1, .int .i64 a2] w fun e w' => ∃ v0_ : Value, e = .returned (v0_) ∧ Kd.R (Kd.int .u8) 5 w' w.heap.size (fun _ => True) v0_ r ∧ Below w.heap.size w w' := by
 have hu52 := Try.underlying52; have HR0_9 := Aside0.mk hr0_9; have HC0_9 := Aside0.mk hc0_9; clear hr0_9 hc0_9; have HR0_10 := Aside0.mk hr0_10; have HC0_10 := Aside0.mk hc0_10; clear hr0_10 hc0_10
 have HB := Aside0.mk (Below.refl w.heap.size w)
 have H : ((spec_SegmentOk.f k a0_0 a0_1 a0_2 a0_3 a0_4 a0_5 a0_6 a0_7 a0_8 l0_9 l0_10).bind fun t348 => (if t348 = true then ((spec_l1In.f a1 0 65535).bind fun t349 => (if t349 = true then ((spec_l1In.f a2 0 65535).bind fun t350 => (spec_SegmentBytes.j0 k a1 a2 (!t350) a0_0 a0_1 a0_2 a0_3 a0_4 a0_5 a0_6 a0_7 a0_8 l0_9 l0_10)) else (spec_SegmentBytes.j0 k a1 a2 true a0_0 a0_1 a0_2 a0_3 a0_4 a0_5 a0_6 a0_7 a0_8 l0_9 l0_10))) else (spec_SegmentBytes.j0 k a1 a2 true a0_0 a0_1 a0_2 a0_3 a0_4 a0_5 a0_6 a0_7 a0_8 l0_9 l0_10))) = some r := h
 clear h; have HC4 := Aside0.mk H; clear H
 go_enter Try.func38, Try.ntmps38
 go_upto_region 1 with (first | ((with_reducible refine gate_dst (N := 3) rfl ?_); refine box_ (N := 3) (cs := #[.int .i64 a0_0, .int .i64 a0_1, .int .i64 a0_2, .int .i64 a0_3, .int .i64 a0_4, .bool a0_5, .bool a0_6, .bool a0_7, .bool a0_8, .slice A0_9 l0_9.length c0_9, .slice A0_10 l0_10.length c0_10]) (t := 52) (fun gb347 hg w5 hbox hb => ?_); have BK347 := Aside0.mk (hbox); have GW347 := ge_ hg HB; have GE347 := ge_ hg HB; replace HB := (bs_ HB hb); clear hb hbox hg))
 (try simp only [Act.put, List.setIfInBounds_toArray, List.set_cons_zero, List.set_cons_succ])
 go_cut [21] (fun v21 wc => ∃ (kq : Nat) (x21_3 : Bool), v21 = .bool x21_3 ∧ Aside0 (spec_SegmentBytes.j0 kq a1 a2 x21_3 a0_0 a0_1 a0_2 a0_3 a0_4 a0_5 a0_6 a0_7 a0_8 l0_9 l0_10 = some r) ∧ Aside0 (kq ≤ k) ∧ Aside0 (wc.heap[gb347]? = some (.cells #[.int .i64 a0_0, .int .i64 a0_1, .int .i64 a0_2, .int .i64 a0_3, .int .i64 a0_4, .bool a0_5, .bool a0_6, .bool a0_7, .bool a0_8, (.slice A0_9 l0_9.length c0_9), (.slice A0_10 l0_10.length c0_10)] 52 (0, 0))) ∧ Aside0 (Below w.heap.size w wc))
 case first =>
  have H := HC4.out; clear HC4
  replace H := Option.bind_eq_some_iff.mp H
  obtain ⟨t348, A60, H⟩ := H
  (try dsimp only at H)
  have A6 := Aside0.mk A60; clear A60
  by_cases c7 : t348 = true
  ·subst c7
   rw [if_pos rfl] at H
   replace H := Option.bind_eq_some_iff.mp H
   obtain ⟨t349, A80, H⟩ := H
   (try dsimp only at H)
   have A8 := Aside0.mk A80; clear A80
   by_cases c9 : t349 = true
   ·subst c9
    rw [if_pos rfl] at H
    replace H := Option.bind_eq_some_iff.mp H
    obtain ⟨t350, A100, H⟩ := H
    (try dsimp only at H)
    have A10 := Aside0.mk A100; clear A100
    have H' := Aside0.mk H
    clear H; have Z11 := zz11 BK347
    go_wp2_with (first | ((with_reducible refine gate_callee (f := 59) rfl ?_); refine goesL_ (some 10) rfl rfl Try.func59 (by kernel_rfl) rfl #[.agg #[.int .i64 a0_0, .int .i64 a0_1, .int .i64 a0_2, .int .i64 a0_3, .int .i64 a0_4, .bool a0_5, .bool a0_6, .bool a0_7, .bool a0_8, .slice A0_9 l0_9.length c0_9, .slice A0_10 l0_10.length c0_10]] rfl ar_ ?_; (with_reducible refine (spec_SegmentOk.calls k a0_0 a0_1 a0_2 a0_3 a0_4 a0_5 a0_6 a0_7 a0_8 _ _ l0_9 _ _ l0_10 true _ ?side1 ?side2 ?side3 ?side4 A6.out).mono ?_); (case side1 => exact kC_ (Kd.C_below HR0_9.out HB.out)); (case side2 => exact HC0_9.out); (case side3 => exact kC_ (Kd.C_below HR0_10.out HB.out)); (case side4 => exact HC0_10.out); rintro e w12 ⟨rfl, hb⟩; refine ⟨_, rfl, ?_⟩; replace BK347 := (bbA_ BK347 hb); replace HB := (bs_ HB hb); (try clear hb); (try clear hb2); (try clear hk); (try clear hi)) | (go_at_call 52; (with_reducible refine (spec_l1In.calls a1 0 65535 true _ A8.out).mono ?_); rintro e w' ⟨rfl, ⟨nd, rfl⟩⟩) | (go_at_call 52; (with_reducible refine (spec_l1In.calls a2 0 65535 t350 _ A10.out).mono ?_); rintro e w' ⟨rfl, ⟨nd, rfl⟩⟩))
    go_meet
    case rel => exact ⟨_, (!t350), (by first | rfl | (simp; done) | (simp [*]; done)), H', ⟨by first | omega | exact Nat.le_refl _⟩, ⟨by refine kb_ ?_; exact BK347.out⟩, ⟨hbA_ HB.out⟩⟩
   ·replace c9 := Bool.eq_false_iff.mpr c9
    subst c9
    rw [if_neg (show ¬ (false = true) by decide)] at H
    have H' := Aside0.mk H
    clear H; have Z13 := zz11 BK347
    go_wp2_with (first | ((with_reducible refine gate_callee (f := 59) rfl ?_); refine goesL_ (some 10) rfl rfl Try.func59 (by kernel_rfl) rfl #[.agg #[.int .i64 a0_0, .int .i64 a0_1, .int .i64 a0_2, .int .i64 a0_3, .int .i64 a0_4, .bool a0_5, .bool a0_6, .bool a0_7, .bool a0_8, .slice A0_9 l0_9.length c0_9, .slice A0_10 l0_10.length c0_10]] rfl ar_ ?_; (with_reducible refine (spec_SegmentOk.calls k a0_0 a0_1 a0_2 a0_3 a0_4 a0_5 a0_6 a0_7 a0_8 _ _ l0_9 _ _ l0_10 true _ ?side1 ?side2 ?side3 ?side4 A6.out).mono ?_); (case side1 => exact kC_ (Kd.C_below HR0_9.out HB.out)); (case side2 => exact HC0_9.out); (case side3 => exact kC_ (Kd.C_below HR0_10.out HB.out)); (case side4 => exact HC0_10.out); rintro e w14 ⟨rfl, hb⟩; refine ⟨_, rfl, ?_⟩; replace BK347 := (bbA_ BK347 hb); replace HB := (bs_ HB hb); (try clear hb); (try clear hb2); (try clear hk); (try clear hi)) | (go_at_call 52; (with_reducible refine (spec_l1In.calls a1 0 65535 false _ A8.out).mono ?_); rintro e w' ⟨rfl, ⟨nd, rfl⟩⟩))
    go_meet
    case rel => exact ⟨_, (true), (by first | rfl | (simp; done) | (simp [*]; done)), H', ⟨by first | omega | exact Nat.le_refl _⟩, ⟨by refine kb_ ?_; exact BK347.out⟩, ⟨hbA_ HB.out⟩⟩
  ·replace c7 := Bool.eq_false_iff.mpr c7
   subst c7
   rw [if_neg (show ¬ (false = true) by decide)] at H
   have H' := Aside0.mk H
   clear H; have Z15 := zz11 BK347
   go_wp2_with (first | ((with_reducible refine gate_callee (f := 59) rfl ?_); refine goesL_ (some 10) rfl rfl Try.func59 (by kernel_rfl) rfl #[.agg #[.int .i64 a0_0, .int .i64 a0_1, .int .i64 a0_2, .int .i64 a0_3, .int .i64 a0_4, .bool a0_5, .bool a0_6, .bool a0_7, .bool a0_8, .slice A0_9 l0_9.length c0_9, .slice A0_10 l0_10.length c0_10]] rfl ar_ ?_; (with_reducible refine (spec_SegmentOk.calls k a0_0 a0_1 a0_2 a0_3 a0_4 a0_5 a0_6 a0_7 a0_8 _ _ l0_9 _ _ l0_10 false _ ?side1 ?side2 ?side3 ?side4 A6.out).mono ?_); (case side1 => exact kC_ (Kd.C_below HR0_9.out HB.out)); (case side2 => exact HC0_9.out); (case side3 => exact kC_ (Kd.C_below HR0_10.out HB.out)); (case side4 => exact HC0_10.out); rintro e w16 ⟨rfl, hb⟩; refine ⟨_, rfl, ?_⟩; replace BK347 := (bbA_ BK347 hb); replace HB := (bs_ HB hb); (try clear hb); (try clear hb2); (try clear hk); (try clear hi)))
   go_meet
   case rel => exact ⟨_, (true), (by first | rfl | (simp; done) | (simp [*]; done)), H', ⟨by first | omega | exact Nat.le_refl _⟩, ⟨by refine kb_ ?_; exact BK347.out⟩, ⟨hbA_ HB.out⟩⟩
 case rest =>
  clear HC4; (try clear p2); (try clear c3); (try clear c5); (try clear c7); (try clear c9); (try clear Z11); (try clear Z13); (try clear Z15)
  obtain ⟨kq, x21_3, rfl, HA, HJ3, BK347, HB⟩ := hcut
  cases kq with
  | zero => exact absurd HA.out (by simp [spec_SegmentBytes.j0])
  | succ kj3 =>
   have H := HA.out; clear HA
   simp only [spec_SegmentBytes.j0] at H
   by_cases c17 : x21_3 = true
   ·subst c17
    rw [if_pos rfl] at H
    obtain ⟨y351, hy351⟩ : ∃ y_ : List Int, y_ = (([] : List Int)) := ⟨_, rfl⟩
    (first | replace H := sb_ hy351 H | rw [← hy351] at H)
    have Ny351 := Aside0.mk hy351; clear hy351
    obtain rfl := Option.some.inj H
    go_wp2_with (first | ((with_reducible refine gate_dst (N := 22) rfl ?_); refine Kd.R_lit (Kd.int .u8) _ 5 ?hg (N := 22) ?hd (xs := ([] : List Int)) (inner := []) (ok := fun _ => True) (okp := fun _ => True) ?hr ?hp (fun _ hk => hk) trivial (Below.refl _ _) (Nat.le_refl _) (by simp) ?_; (case hd => rfl); (case hg => rfl); (case hr => first | (go_simp; done) | (go_simp; rfl)); (case hp => exact (Reps.none _ _)); intro v352 w18 ho19 hb hg_ hnew_; clear hg_ hnew_; (first | rw [← Ny351.out] at ho19 | (simp only [Int.reduceToNat] at ho19; rw [← Ny351.out] at ho19)); have HO353 := Aside0.mk (Kd.R_lower ho19 (below_size (hbA_ HB.out))); replace BK347 := (bbA_ BK347 hb); replace HB := (bs_ HB hb); clear hb ho19))
    go_ret
    exact ⟨_, by first | rfl | (simp [errW_none, errW_some] <;> rfl) | (simp [*, errW_none, errW_some] <;> rfl), kR_ HO353.out, hbA_ HB.out⟩
   ·replace c17 := Bool.eq_false_iff.mpr c17
    subst c17
    rw [if_neg (show ¬ (false = true) by decide)] at H
    obtain ⟨y354, hy354⟩ : ∃ y_ : List Int, y_ = (([(a0_0) % 256, (a0_1) % 256] : List Int)) := ⟨_, rfl⟩
    (first | replace H := sb_ hy354 H | rw [← hy354] at H)
    have Ny354 := Aside0.mk hy354; clear hy354
    replace H := Option.bind_eq_some_iff.mp H
    obtain ⟨t357, A200, H⟩ := H
    (try dsimp only at H)
    have A20 := Aside0.mk A200; clear A200
    by_cases c21 : y354.length + t357.length < 140737488355328
    ·rw [if_pos c21] at H
     have LMc21 := Aside0.mk c21; clear c21
     obtain ⟨y360, hy360⟩ : ∃ y_ : List Int, y_ = (y354 ++ t357) := ⟨_, rfl⟩
     (first | replace H := sb_ hy360 H | rw [← hy360] at H)
     have Ny360 := Aside0.mk hy360; clear hy360
     replace H := Option.bind_eq_some_iff.mp H
     obtain ⟨t363, A220, H⟩ := H
     (try dsimp only at H)
     have A22 := Aside0.mk A220; clear A220
     by_cases c23 : y360.length + t363.length < 140737488355328
     ·rw [if_pos c23] at H
      have LMc23 := Aside0.mk c23; clear c23
      obtain ⟨y366, hy366⟩ : ∃ y_ : List Int, y_ = (y360 ++ t363) := ⟨_, rfl⟩
      (first | replace H := sb_ hy366 H | rw [← hy366] at H)
      have Ny366 := Aside0.mk hy366; clear hy366
      replace H := Option.bind_eq_some_iff.mp H
      obtain ⟨t369, A240, H⟩ := H
      (try dsimp only at H)
      have A24 := Aside0.mk A240; clear A240
      obtain ⟨y370, hy370⟩ : ∃ y_ : List Int, y_ = (([(a0_4) % 256, (t369) % 256, ((l0_9.length : Int)) % 256] : List Int)) := ⟨_, rfl⟩
      (first | replace H := sb_ hy370 H | rw [← hy370] at H)
      have Ny370 := Aside0.mk hy370; clear hy370
      by_cases c25 : y366.length + y370.length < 140737488355328
      ·rw [if_pos c25] at H
       have LMc25 := Aside0.mk c25; clear c25
       obtain ⟨y373, hy373⟩ : ∃ y_ : List Int, y_ = (y366 ++ y370) := ⟨_, rfl⟩
       (first | replace H := sb_ hy373 H | rw [← hy373] at H)
       have Ny373 := Aside0.mk hy373; clear hy373
       have H' := Aside0.mk H
       clear H
       try go_wp2
       replace BK347 := Aside0.mk (blk_drew BK347.out); replace HB := (bd_ HB)
       refine start_ (n := 12) (S := fun w' => w'.cell? ⟨gb347, 0, none⟩ = some (.int .i64 a0_0) ∧ w'.cell? ⟨gb347, 1, none⟩ = some (.int .i64 a0_1) ∧ w'.cell? ⟨gb347, 2, none⟩ = some (.int .i64 a0_2) ∧ w'.cell? ⟨gb347, 3, none⟩ = some (.int .i64 a0_3) ∧ w'.cell? ⟨gb347, 4, none⟩ = some (.int .i64 a0_4) ∧ w'.cell? ⟨gb347, 5, none⟩ = some (.bool a0_5) ∧ w'.cell? ⟨gb347, 6, none⟩ = some (.bool a0_6) ∧ w'.cell? ⟨gb347, 7, none⟩ = some (.bool a0_7) ∧ w'.cell? ⟨gb347, 8, none⟩ = some (.bool a0_8) ∧ w'.cell? ⟨gb347, 9, none⟩ = some (.slice A0_9 l0_9.length c0_9) ∧ w'.cell? ⟨gb347, 10, none⟩ = some (.slice A0_10 l0_10.length c0_10)) (ds := []) #[false, false, false, false, false, false, false, false, false, false, false, false] (by kernel_rfl) rfl rfl (cz11 BK347.out) (fun hHeld => ?_); refine with_tabW spec_SegmentBytes.tab3 spec_SegmentBytes.bits3 (fun HT_ HW_ => ?_)
       generalize wc.drew = w26 at BK347 HB hHeld ⊢
       refine pu_ (i := 0) (N := some 23) HT_ ?_; refine pu_ (i := 3) (N := some 26) HT_ ?_; refine pu_ (i := 7) (N := some 30) HT_ ?_; refine tk_ (i := 1) (N := some 24) HT_ HW_ hHeld ?_; refine pu_ (i := 2) (N := some 25) HT_ ?_; refine tk_ (i := 4) (N := some 27) HT_ HW_ hHeld ?_; refine pu_ (i := 5) (N := some 28) HT_ ?_; refine tk_ (i := 8) (N := some 31) HT_ HW_ hHeld ?_
       refine join_ (σ := Value × Value) 2 #[true, true, true, true, true, true, true, true, true, true, false, false] (fun s_ => [(29, s_.1), (32, s_.2)]) (fun s_ w' => (w'.cell? ⟨gb347, 0, none⟩ = some (.int .i64 a0_0) ∧ w'.cell? ⟨gb347, 1, none⟩ = some (.int .i64 a0_1) ∧ w'.cell? ⟨gb347, 2, none⟩ = some (.int .i64 a0_2) ∧ w'.cell? ⟨gb347, 3, none⟩ = some (.int .i64 a0_3) ∧ w'.cell? ⟨gb347, 4, none⟩ = some (.int .i64 a0_4) ∧ w'.cell? ⟨gb347, 5, none⟩ = some (.bool a0_5) ∧ w'.cell? ⟨gb347, 6, none⟩ = some (.bool a0_6) ∧ w'.cell? ⟨gb347, 7, none⟩ = some (.bool a0_7) ∧ w'.cell? ⟨gb347, 8, none⟩ = some (.bool a0_8) ∧ w'.cell? ⟨gb347, 9, none⟩ = some (.slice A0_9 l0_9.length c0_9) ∧ w'.cell? ⟨gb347, 10, none⟩ = some (.slice A0_10 l0_10.length c0_10)) ∧ (Kd.R (Kd.int .u8) 5 w' w.heap.size (fun k_ => some k_ ≠ (s_.2 : Value).ownBlock) s_.1 y354) ∧ (Kd.R (Kd.int .u8) 5 w' w.heap.size (fun k_ => some k_ ≠ (s_.1 : Value).ownBlock) s_.2 t357) ∧ (w'.heap[gb347]? = some (.cells #[.int .i64 a0_0, .int .i64 a0_1, .int .i64 a0_2, .int .i64 a0_3, .int .i64 a0_4, .bool a0_5, .bool a0_6, .bool a0_7, .bool a0_8, .slice A0_9 l0_9.length c0_9, .slice A0_10 l0_10.length c0_10] 52 (0, 0))) ∧ (Below w.heap.size w w')) ?_ ?_
       rotate_left
       ·intro hCont
        refine two_ (i := 6) (j := 9) (Ni := some 29) (Nj := some 32) #[true, true, true, true, true, true, true, true, true, false, false, false] #[true, true, true, true, true, true, false, true, true, true, false, false] rfl rfl rfl rfl (two_of HT_.out (by kernel_rfl)) (by decide) (by decide) (fun K hK => ?_) (fun K hK => ?_)
        ·skip
         refine Kd.R_lit_step (Kd.int .u8) _ 5 ?hg (N := 29) ?hd (xs := ([(a0_0) % 256, (a0_1) % 256] : List Int)) (inner := [.int .u8 ((a0_0) % 256), .int .u8 ((a0_1) % 256)]) (ok := fun _ => True) (okp := fun _ => True) ?hr ?hp (fun _ hk => hk) trivial (Below.refl _ _) (Nat.le_refl _) (by simp) ?_; (case hd => rfl); (case hg => rfl); (case hr => first | (go_simp; done) | (go_simp; rfl)); (case hp => exact (Reps.one (show Kd.M (Kd.int .u8) _ _ _ ((a0_0) % 256) [.int .u8 ((a0_0) % 256)] from rfl) (Reps.one (show Kd.M (Kd.int .u8) _ _ _ ((a0_1) % 256) [.int .u8 ((a0_1) % 256)] from rfl) (Reps.none _ _))))
         intro v355 w27 ho28 hb hg_ hnew_
         clear hg_ hnew_
         (first | rw [← Ny354.out] at ho28 | (simp only [Int.reduceToNat] at ho28; rw [← Ny354.out] at ho28))
         have n0_ := Aside0.mk (Kd.R_lower ho28 (below_size (hbA_ HB.out))); have n1_ := (bbA_ BK347 hb); have n2_ := (bs_ HB hb); clear BK347 HB; have HO356 := n0_; have BK347 := n1_; have HB := n2_; clear n0_ n1_ n2_ hb ho28
         refine hK.out _ _ (cz11 BK347.out) (fun hHeld => ?_)
         clear hK K; refine nm_ 29 ?_
         refine on_ (i := 9) (N := some 32) HT_ (fun K hK => ?_)
         refine goes_ Try.func75 (by kernel_rfl) rfl #[.int .i64 a0_2, .int .i64 2] (by rfl) rfl rfl ar_ ?_
         with_reducible refine (spec_BytesOf.calls kj3 a0_2 2 t357 _ A20.out).mono ?_
         rintro e w29 ⟨v358, rfl, ho0, hb⟩
         refine ⟨_, rfl, ?_⟩
         have HO359 := Aside0.mk (Kd.R_lower (Kd.R_new' ho0 (Kd.R_lt (kR_ HO356.out))) (below_size (hbA_ HB.out))); replace HO356 := Aside0.mk (Kd.R_elder' (kR_ HO356.out) (Kd.R_base ho0) hb); replace BK347 := (bbA_ BK347 hb); replace HB := (bs_ HB hb); (try clear hb); (try clear hb2); (try clear hk); (try clear hi); (try clear ho0)
         refine hK.out _ _ (cz11 BK347.out) (fun hHeld => ?_)
         clear hK K; refine nm_ 32 ?_
         exact norm_ (by simp only [putAll, Act.put, List.setIfInBounds_toArray, List.set_cons_zero, List.set_cons_succ]) (hCont (v355, v358) _ ⟨hHeld, (by refine kR_ ?_; first | exact Kd.R_mono HO356.out (fun _ hk => hk.2) | exact Kd.R_mono HO356.out (fun _ _ => trivial)), (by refine kR_ ?_; first | exact Kd.R_mono HO359.out (fun _ hk => hk.2) | exact Kd.R_mono HO359.out (fun _ _ => trivial)), (kb_ BK347.out), (hbA_ HB.out)⟩)
        ·skip
         refine goes_ Try.func75 (by kernel_rfl) rfl #[.int .i64 a0_2, .int .i64 2] (by rfl) rfl rfl ar_ ?_
         with_reducible refine (spec_BytesOf.calls kj3 a0_2 2 t357 _ A20.out).mono ?_
         rintro e w27 ⟨v358, rfl, ho0, hb⟩
         refine ⟨_, rfl, ?_⟩
         have HO359 := Aside0.mk (Kd.R_lower ho0 (below_size (hbA_ HB.out))); replace BK347 := (bbA_ BK347 hb); replace HB := (bs_ HB hb); (try clear hb); (try clear hb2); (try clear hk); (try clear hi); (try clear ho0)
         refine hK.out _ _ (cz11 BK347.out) (fun hHeld => ?_)
         clear hK K; refine nm_ 32 ?_
         refine on_ (i := 6) (N := some 29) HT_ (fun K hK => ?_)
         refine Kd.R_lit_step (Kd.int .u8) _ 5 ?hg (N := 29) ?hd (xs := ([(a0_0) % 256, (a0_1) % 256] : List Int)) (inner := [.int .u8 ((a0_0) % 256), .int .u8 ((a0_1) % 256)]) (ok := fun _ => True) (okp := fun _ => True) ?hr ?hp (fun _ hk => hk) trivial (Below.refl _ _) (Nat.le_refl _) (by simp) ?_; (case hd => rfl); (case hg => rfl); (case hr => first | (go_simp; done) | (go_simp; rfl)); (case hp => exact (Reps.one (show Kd.M (Kd.int .u8) _ _ _ ((a0_0) % 256) [.int .u8 ((a0_0) % 256)] from rfl) (Reps.one (show Kd.M (Kd.int .u8) _ _ _ ((a0_1) % 256) [.int .u8 ((a0_1) % 256)] from rfl) (Reps.none _ _))))
         intro v355 w28 ho29 hb hg_ hnew_
         clear hg_ hnew_
         (first | rw [← Ny354.out] at ho29 | (simp only [Int.reduceToNat] at ho29; rw [← Ny354.out] at ho29))
         have n0_ := Aside0.mk (Kd.R_elder' (kR_ HO359.out) (Kd.R_base ho29) hb); have n1_ := Aside0.mk (Kd.R_lower (Kd.R_new' ho29 (Kd.R_lt (kR_ HO359.out))) (below_size (hbA_ HB.out))); have n2_ := (bbA_ BK347 hb); have n3_ := (bs_ HB hb); clear HO359 BK347 HB; have HO359 := n0_; have HO356 := n1_; have BK347 := n2_; have HB := n3_; clear n0_ n1_ n2_ n3_ hb ho29
         refine hK.out _ _ (cz11 BK347.out) (fun hHeld => ?_)
         clear hK K; refine nm_ 29 ?_
         exact norm_ (by simp only [putAll, Act.put, List.setIfInBounds_toArray, List.set_cons_zero, List.set_cons_succ]) (hCont (v355, v358) _ ⟨hHeld, (by refine kR_ ?_; first | exact Kd.R_mono HO356.out (fun _ hk => hk.2) | exact Kd.R_mono HO356.out (fun _ _ => trivial)), (by refine kR_ ?_; first | exact Kd.R_mono HO359.out (fun _ hk => hk.2) | exact Kd.R_mono HO359.out (fun _ _ => trivial)), (kb_ BK347.out), (hbA_ HB.out)⟩)
       rintro ⟨v355, v358⟩ w30 ⟨hS_, h0_, h1_, h2_, h3_⟩
       have n0_ : Aside0 (Kd.R (Kd.int .u8) 5 w30 w.heap.size (fun k_ => some k_ ≠ (v358 : Value).ownBlock) v355 y354) := ⟨h0_⟩
       have n1_ : Aside0 (Kd.R (Kd.int .u8) 5 w30 w.heap.size (fun k_ => some k_ ≠ (v355 : Value).ownBlock) v358 t357) := ⟨h1_⟩
       have n2_ : Aside0 (w30.heap[gb347]? = some (.cells #[.int .i64 a0_0, .int .i64 a0_1, .int .i64 a0_2, .int .i64 a0_3, .int .i64 a0_4, .bool a0_5, .bool a0_6, .bool a0_7, .bool a0_8, .slice A0_9 l0_9.length c0_9, .slice A0_10 l0_10.length c0_10] 52 (0, 0))) := ⟨h2_⟩
       have n3_ : Aside0 (Below w.heap.size w w30) := ⟨h3_⟩
       clear BK347 HB h0_ h1_ h2_ h3_; have HO356 := n0_; have HO359 := n1_; have BK347 := n2_; have HB := n3_; clear n0_ n1_ n2_ n3_
       have hHeld : w30.cell? ⟨gb347, 0, none⟩ = some (.int .i64 a0_0) ∧ w30.cell? ⟨gb347, 1, none⟩ = some (.int .i64 a0_1) ∧ w30.cell? ⟨gb347, 2, none⟩ = some (.int .i64 a0_2) ∧ w30.cell? ⟨gb347, 3, none⟩ = some (.int .i64 a0_3) ∧ w30.cell? ⟨gb347, 4, none⟩ = some (.int .i64 a0_4) ∧ w30.cell? ⟨gb347, 5, none⟩ = some (.bool a0_5) ∧ w30.cell? ⟨gb347, 6, none⟩ = some (.bool a0_6) ∧ w30.cell? ⟨gb347, 7, none⟩ = some (.bool a0_7) ∧ w30.cell? ⟨gb347, 8, none⟩ = some (.bool a0_8) ∧ w30.cell? ⟨gb347, 9, none⟩ = some (.slice A0_9 l0_9.length c0_9) ∧ w30.cell? ⟨gb347, 10, none⟩ = some (.slice A0_10 l0_10.length c0_10) := hS_
       obtain ⟨Ao32, co32, eo32⟩ := Kd.R_slice HO359.out
       (first | subst eo32 | (injection eo32 with f1_ f2_ f3_; have f4_ := f1_.symm; have f5_ := f3_.symm; clear f1_ f2_ f3_; subst f4_; subst f5_))
       refine norm_ (a' := ?_) ?_ ?_
       rotate_left
       ·simp only [putAll, Act.put, List.setIfInBounds_toArray, List.set_cons_zero, List.set_cons_succ]
        rfl
       refine on_ (i := 10) (N := some 33) HT_ (fun K hK => ?_)
       refine Kd.R_append_rows_step (Kd.int .u8) (w0 := w) w.heap.size (by rfl) (.tmp 29) (.tmp 32) 22 5 (.int .u8 0) 1 rfl Try.underlying22 info5 rfl (by decide) (by omega) v355 y354 t357 _ _ _ (fun k_ => some k_ ≠ (.slice Ao32 t357.length co32 : Value).ownBlock) (fun _ => False) rfl rfl ?aO ?aR (fun _ _ h => h) (fun _ h => h.elim) ?aF ?aB ?aS ?aL ?_
       (case aR => exact kC_ (Kd.R_reads' HO359.out).2.2)
       (case aB => exact (hbA_ HB.out))
       (case aF => exact (fun k_ hk => Kd.fresh' (Kd.R_lt (kR_ HO359.out)) k_ hk))
       (case aO => exact (kR_ HO356.out))
       (case aS => exact (below_size (hbA_ HB.out)))
       (case aL => have := LMc21.out; omega)
       intro v361 w31 ho hb hg hat
       rw [← Ny360.out] at ho
       have n0_ := (bgA_ BK347 hg (Kd.R_ne HO356.out BK347.out (by decide))); have n1_ := Aside0.mk (Kd.R_after (ok := (fun _ => True)) (by refine kR_ ?_; exact Kd.R_mono HO359.out (fun _ hk => ⟨trivial, hk⟩)) hg hat); have n2_ := Aside0.mk (hb); have n3_ := Aside0.mk (ho); clear BK347 HO359 HB HO356; have BK347 := n0_; have HO359 := n1_; have HB := n2_; have HO362 := n3_; clear n0_ n1_ n2_ n3_ ho hb hg hat
       refine hK.out _ _ (cz11 BK347.out) (fun hHeld => ?_)
       clear hK K; refine nm_ 33 ?_; refine pu_ (i := 11) (N := some 7) HT_ ?_
       refine done_ (done_of HT_.out (by kernel_rfl)) ?_
       try go_wp2
       replace HO359 := Aside0.mk (Kd.R_drew HO359.out); replace HO362 := Aside0.mk (Kd.R_drew HO362.out); replace BK347 := Aside0.mk (blk_drew BK347.out); replace HB := (bd_ HB)
       refine start_ (n := 18) (S := fun w' => w'.cell? ⟨gb347, 0, none⟩ = some (.int .i64 a0_0) ∧ w'.cell? ⟨gb347, 1, none⟩ = some (.int .i64 a0_1) ∧ w'.cell? ⟨gb347, 2, none⟩ = some (.int .i64 a0_2) ∧ w'.cell? ⟨gb347, 3, none⟩ = some (.int .i64 a0_3) ∧ w'.cell? ⟨gb347, 4, none⟩ = some (.int .i64 a0_4) ∧ w'.cell? ⟨gb347, 5, none⟩ = some (.bool a0_5) ∧ w'.cell? ⟨gb347, 6, none⟩ = some (.bool a0_6) ∧ w'.cell? ⟨gb347, 7, none⟩ = some (.bool a0_7) ∧ w'.cell? ⟨gb347, 8, none⟩ = some (.bool a0_8) ∧ w'.cell? ⟨gb347, 9, none⟩ = some (.slice A0_9 l0_9.length c0_9) ∧ w'.cell? ⟨gb347, 10, none⟩ = some (.slice A0_10 l0_10.length c0_10)) (ds := []) #[false, false, false, false, false, false, false, false, false, false, false, false, false, false, false, false, false, false] (by kernel_rfl) rfl rfl (cz11 BK347.out) (fun hHeld => ?_); refine with_tabW spec_SegmentBytes.tab4 spec_SegmentBytes.bits4 (fun HT_ HW_ => ?_)
       generalize w31.drew = w33 at HO359 HO362 BK347 HB hHeld ⊢
       refine pu_ (i := 0) (N := some 34) HT_ ?_; refine pu_ (i := 1) (N := some 35) HT_ ?_; refine pu_ (i := 5) (N := some 39) HT_ ?_; refine pu_ (i := 11) (N := some 45) HT_ ?_; refine tk_ (i := 2) (N := some 36) HT_ HW_ hHeld ?_; refine tk_ (i := 6) (N := some 40) HT_ HW_ hHeld ?_; refine pu_ (i := 7) (N := some 41) HT_ ?_; refine tk_ (i := 8) (N := some 42) HT_ HW_ hHeld ?_; refine tk_ (i := 12) (N := some 46) HT_ HW_ hHeld ?_; refine pu_ (i := 13) (N := some 47) HT_ ?_; refine pu_ (i := 14) (N := some 48) HT_ ?_
       refine on_ (i := 3) (N := some 37) HT_ (fun K hK => ?_)
       refine goes_ Try.func75 (by kernel_rfl) rfl #[.int .i64 a0_3, .int .i64 2] (by rfl) rfl rfl ar_ ?_
       with_reducible refine (spec_BytesOf.calls kj3 a0_3 2 t363 _ A22.out).mono ?_
       rintro e w34 ⟨v364, rfl, ho0, hb⟩
       refine ⟨_, rfl, ?_⟩
       have HO365 := Aside0.mk (Kd.R_lower (Kd.R_new' (Kd.R_new' ho0 (Kd.R_lt (kR_ HO359.out))) (Kd.R_lt (kR_ HO362.out))) (below_size (hbA_ HB.out))); replace HO359 := Aside0.mk (Kd.R_elder' (kR_ HO359.out) (Kd.R_base ho0) hb); replace HO362 := Aside0.mk (Kd.R_elder' (kR_ HO362.out) (Kd.R_base ho0) hb); replace BK347 := (bbA_ BK347 hb); replace HB := (bs_ HB hb); (try clear hb); (try clear hb2); (try clear hk); (try clear hi); (try clear ho0)
       obtain ⟨Ao36, co36, eo36⟩ := Kd.R_slice HO365.out
       (first | subst eo36 | (injection eo36 with f1_ f2_ f3_; have f4_ := f1_.symm; have f5_ := f3_.symm; clear f1_ f2_ f3_; subst f4_; subst f5_))
       refine hK.out _ _ (cz11 BK347.out) (fun hHeld => ?_)
       clear hK K; refine nm_ 37 ?_
       refine on_ (i := 4) (N := some 38) HT_ (fun K hK => ?_)
       refine Kd.R_append_rows_step (Kd.int .u8) (w0 := w) w.heap.size (by rfl) (.tmp 34) (.tmp 37) 22 5 (.int .u8 0) 1 rfl Try.underlying22 info5 rfl (by decide) (by omega) v361 y360 t363 _ _ _ (fun k_ => some k_ ≠ (.slice Ao32 t357.length co32 : Value).ownBlock ∧ some k_ ≠ (.slice Ao36 t363.length co36 : Value).ownBlock) (fun _ => False) rfl rfl ?aO ?aR (fun _ _ h => h) (fun _ h => h.elim) ?aF ?aB ?aS ?aL ?_
       (case aR => exact kC_ (Kd.R_reads' HO365.out).2.2)
       (case aB => exact (hbA_ HB.out))
       (case aF => exact (fun k_ hk => ⟨Kd.fresh' (Kd.R_lt (kR_ HO359.out)) k_ hk, Kd.fresh' (Kd.R_lt (kR_ HO365.out)) k_ hk⟩))
       (case aO => exact (kR_ HO362.out))
       (case aS => exact (below_size (hbA_ HB.out)))
       (case aL => have := LMc23.out; omega)
       intro v367 w35 ho hb hg hat
       rw [← Ny366.out] at ho
       have n0_ := (bgA_ BK347 hg (Kd.R_ne HO362.out BK347.out (by decide))); have n1_ := Aside0.mk (Kd.R_after (ok := (fun k_ => some k_ ≠ (.slice Ao36 t363.length co36 : Value).ownBlock)) (by refine kR_ ?_; exact Kd.R_mono HO359.out (fun _ hk => op2_ hk)) hg hat); have n2_ := Aside0.mk (Kd.R_after (ok := (fun k_ => some k_ ≠ (.slice Ao32 t357.length co32 : Value).ownBlock)) (by refine kR_ ?_; exact Kd.R_mono HO365.out (fun _ hk => op2_ hk)) hg hat); have n3_ := Aside0.mk (hb); have n4_ := Aside0.mk (ho); clear BK347 HO359 HO365 HB HO362; have BK347 := n0_; have HO359 := n1_; have HO365 := n2_; have HB := n3_; have HO368 := n4_; clear n0_ n1_ n2_ n3_ n4_ ho hb hg hat
       refine hK.out _ _ (cz11 BK347.out) (fun hHeld => ?_)
       clear hK K; refine nm_ 38 ?_
       refine on_ (i := 9) (N := some 43) HT_ (fun K hK => ?_)
       refine goes_ Try.func76 (by kernel_rfl) rfl #[.agg #[.int .i64 a0_0, .int .i64 a0_1, .int .i64 a0_2, .int .i64 a0_3, .int .i64 a0_4, .bool a0_5, .bool a0_6, .bool a0_7, .bool a0_8, .slice A0_9 l0_9.length c0_9, .slice A0_10 l0_10.length c0_10]] (by rfl) rfl rfl ar_ ?_
       with_reducible refine (spec_l11Marks.calls kj3 a0_0 a0_1 a0_2 a0_3 a0_4 a0_5 a0_6 a0_7 a0_8 _ _ l0_9 _ _ l0_10 t369 _ ?side1 ?side2 ?side3 ?side4 A24.out).mono ?_
       (case side1 => exact kC_ (Kd.C_below HR0_9.out HB.out))
       (case side2 => exact HC0_9.out)
       (case side3 => exact kC_ (Kd.C_below HR0_10.out HB.out))
       (case side4 => exact HC0_10.out)
       rintro e w37 ⟨rfl, hb⟩
       refine ⟨_, rfl, ?_⟩
       replace HO359 := Aside0.mk (Kd.R_below (kR_ HO359.out) hb); replace HO365 := Aside0.mk (Kd.R_below (kR_ HO365.out) hb); replace HO368 := Aside0.mk (Kd.R_below (kR_ HO368.out) hb); replace BK347 := (bbA_ BK347 hb); replace HB := (bs_ HB hb); (try clear hb); (try clear hb2); (try clear hk); (try clear hi)
       refine hK.out _ _ (cz11 BK347.out) (fun hHeld => ?_)
       clear hK K; refine nm_ 43 ?_; refine pu_ (i := 10) (N := some 44) HT_ ?_
       refine on_ (i := 15) (N := some 49) HT_ (fun K hK => ?_)
       refine Kd.R_lit_step (Kd.int .u8) _ 5 ?hg (N := 49) ?hd (xs := ([(a0_4) % 256, (t369) % 256, ((l0_9.length : Int)) % 256] : List Int)) (inner := [.int .u8 ((a0_4) % 256), .int .u8 ((t369) % 256), .int .u8 (((l0_9.length : Int)) % 256)]) (ok := fun _ => True) (okp := fun _ => True) ?hr ?hp (fun _ hk => hk) trivial (Below.refl _ _) (Nat.le_refl _) (by simp) ?_; (case hd => rfl); (case hg => rfl); (case hr => first | (go_simp; done) | (go_simp; rfl)); (case hp => exact (Reps.one (show Kd.M (Kd.int .u8) _ _ _ ((a0_4) % 256) [.int .u8 ((a0_4) % 256)] from rfl) (Reps.one (show Kd.M (Kd.int .u8) _ _ _ ((t369) % 256) [.int .u8 ((t369) % 256)] from rfl) (Reps.one (show Kd.M (Kd.int .u8) _ _ _ (((l0_9.length : Int)) % 256) [.int .u8 (((l0_9.length : Int)) % 256)] from rfl) (Reps.none _ _)))))
       intro v371 w38 ho39 hb hg_ hnew_
       clear hg_ hnew_
       (first | rw [← Ny370.out] at ho39 | (simp only [Int.reduceToNat] at ho39; rw [← Ny370.out] at ho39))
       have n0_ := Aside0.mk (Kd.R_elder' (kR_ HO359.out) (Kd.R_base ho39) hb); have n1_ := Aside0.mk (Kd.R_elder' (kR_ HO365.out) (Kd.R_base ho39) hb); have n2_ := Aside0.mk (Kd.R_elder' (kR_ HO368.out) (Kd.R_base ho39) hb); have n3_ := Aside0.mk (Kd.R_lower (Kd.R_new' (Kd.R_new' (Kd.R_new' ho39 (Kd.R_lt (kR_ HO359.out))) (Kd.R_lt (kR_ HO365.out))) (Kd.R_lt (kR_ HO368.out))) (below_size (hbA_ HB.out))); have n4_ := (bbA_ BK347 hb); have n5_ := (bs_ HB hb); clear HO359 HO365 HO368 BK347 HB; have HO359 := n0_; have HO365 := n1_; have HO368 := n2_; have HO372 := n3_; have BK347 := n4_; have HB := n5_; clear n0_ n1_ n2_ n3_ n4_ n5_ hb ho39
       obtain ⟨Ao41, co41, eo41⟩ := Kd.R_slice HO372.out
       (first | subst eo41 | (injection eo41 with f1_ f2_ f3_; have f4_ := f1_.symm; have f5_ := f3_.symm; clear f1_ f2_ f3_; subst f4_; subst f5_))
       refine hK.out _ _ (cz11 BK347.out) (fun hHeld => ?_)
       clear hK K; refine nm_ 49 ?_
       refine on_ (i := 16) (N := some 50) HT_ (fun K hK => ?_)
       refine Kd.R_append_rows_step (Kd.int .u8) (w0 := w) w.heap.size (by rfl) (.tmp 38) (.tmp 49) 22 5 (.int .u8 0) 1 rfl Try.underlying22 info5 rfl (by decide) (by omega) v367 y366 y370 _ _ _ (fun k_ => some k_ ≠ (.slice Ao32 t357.length co32 : Value).ownBlock ∧ some k_ ≠ (.slice Ao36 t363.length co36 : Value).ownBlock ∧ some k_ ≠ (.slice Ao41 y370.length co41 : Value).ownBlock) (fun _ => False) rfl rfl ?aO ?aR (fun _ _ h => h) (fun _ h => h.elim) ?aF ?aB ?aS ?aL ?_
       (case aR => exact kC_ (Kd.R_reads' HO372.out).2.2)
       (case aB => exact (hbA_ HB.out))
       (case aF => exact (fun k_ hk => ⟨Kd.fresh' (Kd.R_lt (kR_ HO359.out)) k_ hk, Kd.fresh' (Kd.R_lt (kR_ HO365.out)) k_ hk, Kd.fresh' (Kd.R_lt (kR_ HO372.out)) k_ hk⟩))
       (case aO => exact (by refine kR_ ?_; exact Kd.R_mono HO368.out (fun _ hk => op2_ hk)))
       (case aS => exact (below_size (hbA_ HB.out)))
       (case aL => have := LMc25.out; omega)
       intro v374 w40 ho hb hg hat
       rw [← Ny373.out] at ho
       have n0_ := (bgA_ BK347 hg (Kd.R_ne HO368.out BK347.out (by decide))); have n1_ := Aside0.mk (Kd.R_after (ok := (fun k_ => some k_ ≠ (.slice Ao36 t363.length co36 : Value).ownBlock ∧ some k_ ≠ (.slice Ao41 y370.length co41 : Value).ownBlock)) (by refine kR_ ?_; exact Kd.R_mono HO359.out (fun _ hk => op2_ hk)) hg hat); have n2_ := Aside0.mk (Kd.R_after (ok := (fun k_ => some k_ ≠ (.slice Ao32 t357.length co32 : Value).ownBlock ∧ some k_ ≠ (.slice Ao41 y370.length co41 : Value).ownBlock)) (by refine kR_ ?_; exact Kd.R_mono HO365.out (fun _ hk => op2_ hk)) hg hat); have n3_ := Aside0.mk (Kd.R_after (ok := (fun k_ => some k_ ≠ (.slice Ao32 t357.length co32 : Value).ownBlock ∧ some k_ ≠ (.slice Ao36 t363.length co36 : Value).ownBlock)) (by refine kR_ ?_; exact Kd.R_mono HO372.out (fun _ hk => op2_ hk)) hg hat); have n4_ := Aside0.mk (hb); have n5_ := Aside0.mk (ho); clear BK347 HO359 HO365 HO372 HB HO368; have BK347 := n0_; have HO359 := n1_; have HO365 := n2_; have HO372 := n3_; have HB := n4_; have HO375 := n5_; clear n0_ n1_ n2_ n3_ n4_ n5_ ho hb hg hat
       refine hK.out _ _ (cz11 BK347.out) (fun hHeld => ?_)
       clear hK K; refine nm_ 50 ?_; refine pu_ (i := 17) (N := some 7) HT_ ?_
       refine done_ (done_of HT_.out (by kernel_rfl)) ?_
       try go_wp2
       go_loopg [7, 8] kj3 (fun kq v7 v8 w' => ∃ (x7_2 : List Int) (x8_2 : Int), v8 = .int .i64 x8_2 ∧ Aside0 (spec_SegmentBytes.l0 kq a1 a2 x7_2 x8_2 a0_0 a0_1 a0_2 a0_3 a0_4 a0_5 a0_6 a0_7 a0_8 l0_9 l0_10 = some r) ∧ Aside0 (kq ≤ kj3) ∧ Aside0 (Kd.R (Kd.int .u8) 5 w' w.heap.size (fun _ => True) v7 x7_2) ∧ Aside0 (w'.heap[gb347]? = some (.cells #[.int .i64 a0_0, .int .i64 a0_1, .int .i64 a0_2, .int .i64 a0_3, .int .i64 a0_4, .bool a0_5, .bool a0_6, .bool a0_7, .bool a0_8, (.slice A0_9 l0_9.length c0_9), (.slice A0_10 l0_10.length c0_10)] 52 (0, 0))) ∧ Aside0 (Below w.heap.size w w'))
       case atStart => exact ⟨(y373), (0), (by first | rfl | (simp; done) | (simp [*]; done)), H', ⟨Nat.le_refl _⟩, ⟨by refine kR_ ?_; exact Kd.R_mono HO375.out (fun _ hk => trivial)⟩, ⟨by refine kb_ ?_; exact BK347.out⟩, ⟨hbA_ HB.out⟩⟩
       case round =>
        clear H'; (try clear c1); (try clear c2); (try clear p2); (try clear c7); (try clear c17); (try clear c21); (try clear c23); (try clear c25)
        obtain ⟨x7_2, x8_2, rfl, HA, HK2, HO_7, BK347, HB⟩ := hrel
        cases gk with
        | zero => exact absurd HA.out (by simp [spec_SegmentBytes.l0])
        | succ k2 =>
         have H := HA.out; clear HA
         simp only [spec_SegmentBytes.l0] at H
         by_cases c42 : x8_2 < (l0_9.length : Int)
         ·rw [if_pos c42] at H
          have c42b0 : decide (x8_2 < (l0_9.length : Int)) = true := decide_eq_true c42
          clear c42
          by_cases c43 : 0 ≤ x8_2
          ·rw [if_pos c43] at H
           have c43b0 : decide (0 ≤ x8_2) = true := decide_eq_true c43
           clear c43
           replace H := Option.bind_eq_some_iff.mp H
           obtain ⟨t377, A440, H⟩ := H
           (try dsimp only at H)
           have A44 := Aside0.mk A440; clear A440
           by_cases c45 : x7_2.length + t377.length < 140737488355328
           ·rw [if_pos c45] at H
            have LMc45 := Aside0.mk c45; clear c45
            obtain ⟨y380, hy380⟩ : ∃ y_ : List Int, y_ = (x7_2 ++ t377) := ⟨_, rfl⟩
            (first | replace H := sb_ hy380 H | rw [← hy380] at H)
            have Ny380 := Aside0.mk hy380; clear hy380
            replace H := Option.bind_eq_some_iff.mp H
            obtain ⟨t384, A460, H⟩ := H
            (try dsimp only at H)
            have A46 := Aside0.mk A460; clear A460
            by_cases c47 : y380.length + t384.length < 140737488355328
            ·rw [if_pos c47] at H
             have LMc47 := Aside0.mk c47; clear c47
             obtain ⟨y387, hy387⟩ : ∃ y_ : List Int, y_ = (y380 ++ t384) := ⟨_, rfl⟩
             (first | replace H := sb_ hy387 H | rw [← hy387] at H)
             have Ny387 := Aside0.mk hy387; clear hy387
             have H' := Aside0.mk H
             clear H; have Z48 := zz11 BK347
             try go_wp2
             replace HO_7 := Aside0.mk (Kd.R_drew HO_7.out); replace BK347 := Aside0.mk (blk_drew BK347.out); replace HB := (bd_ HB)
             have p376 : 0 ≤ (x8_2 : Int) := of_decide_eq_true (by first | (with_reducible assumption) | assumption)
             have q376 : x8_2 < (l0_9.length : Int) := of_decide_eq_true (by first | (with_reducible assumption) | assumption)
             obtain ⟨ad376, e376, hx376_0, hx376_1⟩ := at_T90 HR0_9.out x8_2 p376 q376
             have hw376_1 := hx376_1; have hw376_0 := hx376_0
             cases e376
             replace hx376_0 := cc_ HB hx376_0
             replace hx376_1 := cc_ HB hx376_1
             replace p376 := eq_true p376
             replace q376 := eq_true q376
             have p383 : 0 ≤ (x8_2 : Int) := of_decide_eq_true (by first | (with_reducible assumption) | assumption)
             have q383 : x8_2 < (l0_9.length : Int) := of_decide_eq_true (by first | (with_reducible assumption) | assumption)
             obtain ⟨ad383, e383, hx383_0, hx383_1⟩ := at_T90 HR0_9.out x8_2 p383 q383
             have hw383_1 := hx383_1; have hw383_0 := hx383_0
             obtain rfl : ad376 = ad383 := (by injection e383)
             replace hx383_0 := cc_ HB hx383_0
             replace hx383_1 := cc_ HB hx383_1
             replace p383 := eq_true p383
             replace q383 := eq_true q383
             refine start_ (n := 18) (S := fun w' => w'.cell? ⟨gb347, 0, none⟩ = some (.int .i64 a0_0) ∧ w'.cell? ⟨gb347, 1, none⟩ = some (.int .i64 a0_1) ∧ w'.cell? ⟨gb347, 2, none⟩ = some (.int .i64 a0_2) ∧ w'.cell? ⟨gb347, 3, none⟩ = some (.int .i64 a0_3) ∧ w'.cell? ⟨gb347, 4, none⟩ = some (.int .i64 a0_4) ∧ w'.cell? ⟨gb347, 5, none⟩ = some (.bool a0_5) ∧ w'.cell? ⟨gb347, 6, none⟩ = some (.bool a0_6) ∧ w'.cell? ⟨gb347, 7, none⟩ = some (.bool a0_7) ∧ w'.cell? ⟨gb347, 8, none⟩ = some (.bool a0_8) ∧ w'.cell? ⟨gb347, 9, none⟩ = some (.slice (some ad376) l0_9.length c0_9) ∧ w'.cell? ⟨gb347, 10, none⟩ = some (.slice A0_10 l0_10.length c0_10) ∧ w'.cell? (ad376.add ((x8_2).toNat * 2)) = some (.int .i64 ((rd_T90 l0_9 x8_2).f0)) ∧ w'.cell? ⟨(ad376.add ((x8_2).toNat * 2)).block, (ad376.add ((x8_2).toNat * 2)).off + 1, none⟩ = some (.int .i64 ((rd_T90 l0_9 x8_2).f1)) ∧ w'.cell? (ad376.add ((x8_2).toNat * 2)) = some (.int .i64 ((rd_T90 l0_9 x8_2).f0)) ∧ w'.cell? ⟨(ad376.add ((x8_2).toNat * 2)).block, (ad376.add ((x8_2).toNat * 2)).off + 1, none⟩ = some (.int .i64 ((rd_T90 l0_9 x8_2).f1))) (ds := []) #[false, false, false, false, false, false, false, false, false, false, false, false, false, false, false, false, false, false] (by kernel_rfl) rfl rfl ⟨bc_ BK347 0, bc_ BK347 1, bc_ BK347 2, bc_ BK347 3, bc_ BK347 4, bc_ BK347 5, bc_ BK347 6, bc_ BK347 7, bc_ BK347 8, bc_ BK347 9, bc_ BK347 10, (cc_ HB hw376_0), (cc_ HB hw376_1), (cc_ HB hw383_0), (cc_ HB hw383_1)⟩ (fun hHeld => ?_); refine with_tabW spec_SegmentBytes.tab8 spec_SegmentBytes.bits8 (fun HT_ HW_ => ?_)
             generalize wr.drew = w49 at HO_7 BK347 HB hx376_0 hx376_1 hx383_0 hx383_1 hHeld ⊢
             refine pu_ (i := 0) (N := some 58) HT_ ?_; refine pu_ (i := 1) (N := some 59) HT_ ?_; refine pu_ (i := 3) (N := some 61) HT_ ?_; refine pu_ (i := 9) (N := some 67) HT_ ?_; refine pu_ (i := 11) (N := some 69) HT_ ?_; refine tk_ (i := 2) (N := some 60) HT_ HW_ hHeld ?_; refine pu_ (i := 4) (N := some 62) HT_ ?_; refine pu_ (i := 5) (N := some 63) HT_ ?_; refine tk_ (i := 6) (N := some 64) HT_ HW_ hHeld ?_; refine tk_ (i := 10) (N := some 68) HT_ HW_ hHeld ?_; refine pu_ (i := 12) (N := some 70) HT_ ?_; refine pu_ (i := 13) (N := some 71) HT_ ?_; refine tk_ (i := 14) (N := some 72) HT_ HW_ hHeld ?_
             refine on_ (i := 7) (N := some 65) HT_ (fun K hK => ?_)
             refine goes_ Try.func75 (by kernel_rfl) rfl #[.int .i64 ((rd_T90 l0_9 x8_2).f0), .int .i64 2] (by rfl) rfl rfl ar_ ?_
             with_reducible refine (spec_BytesOf.calls k2 ((rd_T90 l0_9 x8_2).f0) 2 t377 _ A44.out).mono ?_
             rintro e w50 ⟨v378, rfl, ho0, hb⟩
             refine ⟨_, rfl, ?_⟩
             have HO379 := Aside0.mk (Kd.R_lower (Kd.R_new' ho0 (Kd.R_lt (kR_ HO_7.out))) (below_size (hbA_ HB.out))); replace HO_7 := Aside0.mk (Kd.R_elder' (kR_ HO_7.out) (Kd.R_base ho0) hb); replace BK347 := (bbA_ BK347 hb); replace HB := (bs_ HB hb); (try clear hb); (try clear hb2); (try clear hk); (try clear hi); (try clear ho0)
             obtain ⟨Ao52, co52, eo52⟩ := Kd.R_slice HO379.out
             (first | subst eo52 | (injection eo52 with f1_ f2_ f3_; have f4_ := f1_.symm; have f5_ := f3_.symm; clear f1_ f2_ f3_; subst f4_; subst f5_))
             refine hK.out _ _ ⟨bc_ BK347 0, bc_ BK347 1, bc_ BK347 2, bc_ BK347 3, bc_ BK347 4, bc_ BK347 5, bc_ BK347 6, bc_ BK347 7, bc_ BK347 8, bc_ BK347 9, bc_ BK347 10, (by first | exact cc_ HB hw376_0 | exact cc_ ⟨hbA_ HB.out⟩ hw376_0), (by first | exact cc_ HB hw376_1 | exact cc_ ⟨hbA_ HB.out⟩ hw376_1), (by first | exact cc_ HB hw383_0 | exact cc_ ⟨hbA_ HB.out⟩ hw383_0), (by first | exact cc_ HB hw383_1 | exact cc_ ⟨hbA_ HB.out⟩ hw383_1)⟩ (fun hHeld => ?_)
             clear hK K; refine nm_ 65 ?_
             refine on_ (i := 8) (N := some 66) HT_ (fun K hK => ?_)
             refine Kd.R_append_rows_step (Kd.int .u8) (w0 := w) w.heap.size (by rfl) (.tmp 58) (.tmp 65) 22 5 (.int .u8 0) 1 rfl Try.underlying22 info5 rfl (by decide) (by omega) u7 x7_2 t377 _ _ _ (fun k_ => some k_ ≠ (.slice Ao52 t377.length co52 : Value).ownBlock) (fun _ => False) rfl rfl ?aO ?aR (fun _ _ h => h) (fun _ h => h.elim) ?aF ?aB ?aS ?aL ?_
             (case aR => exact kC_ (Kd.R_reads' HO379.out).2.2)
             (case aB => exact (hbA_ HB.out))
             (case aF => exact (fun k_ hk => Kd.fresh' (Kd.R_lt (kR_ HO379.out)) k_ hk))
             (case aO => exact (by refine kR_ ?_; first | exact Kd.R_mono HO_7.out (fun _ hk => hk.2) | exact Kd.R_mono HO_7.out (fun _ _ => trivial)))
             (case aS => exact (below_size (hbA_ HB.out)))
             (case aL => have := LMc45.out; omega)
             intro v381 w51 ho hb hg hat
             rw [← Ny380.out] at ho
             have n0_ := (bgA_ BK347 hg (Kd.R_ne HO_7.out BK347.out (by decide))); have n1_ := Aside0.mk (Kd.R_after (ok := (fun _ => True)) (kR_ HO379.out) hg hat); have n2_ := Aside0.mk (hb); have n3_ := Aside0.mk (ho); clear BK347 HO379 HB HO_7; have BK347 := n0_; have HO379 := n1_; have HB := n2_; have HO382 := n3_; clear n0_ n1_ n2_ n3_ ho hb hg hat
             refine hK.out _ _ ⟨bc_ BK347 0, bc_ BK347 1, bc_ BK347 2, bc_ BK347 3, bc_ BK347 4, bc_ BK347 5, bc_ BK347 6, bc_ BK347 7, bc_ BK347 8, bc_ BK347 9, bc_ BK347 10, (by first | exact cc_ HB hw376_0 | exact cc_ ⟨hbA_ HB.out⟩ hw376_0), (by first | exact cc_ HB hw376_1 | exact cc_ ⟨hbA_ HB.out⟩ hw376_1), (by first | exact cc_ HB hw383_0 | exact cc_ ⟨hbA_ HB.out⟩ hw383_0), (by first | exact cc_ HB hw383_1 | exact cc_ ⟨hbA_ HB.out⟩ hw383_1)⟩ (fun hHeld => ?_)
             clear hK K; refine nm_ 66 ?_
             refine on_ (i := 15) (N := some 73) HT_ (fun K hK => ?_)
             refine goes_ Try.func75 (by kernel_rfl) rfl #[.int .i64 ((rd_T90 l0_9 x8_2).f1), .int .i64 2] (by rfl) rfl rfl ar_ ?_
             with_reducible refine (spec_BytesOf.calls k2 ((rd_T90 l0_9 x8_2).f1) 2 t384 _ A46.out).mono ?_
             rintro e w53 ⟨v385, rfl, ho0, hb⟩
             refine ⟨_, rfl, ?_⟩
             have HO386 := Aside0.mk (Kd.R_lower (Kd.R_new' (Kd.R_new' ho0 (Kd.R_lt (kR_ HO379.out))) (Kd.R_lt (kR_ HO382.out))) (below_size (hbA_ HB.out))); replace HO379 := Aside0.mk (Kd.R_elder' (kR_ HO379.out) (Kd.R_base ho0) hb); replace HO382 := Aside0.mk (Kd.R_elder' (kR_ HO382.out) (Kd.R_base ho0) hb); replace BK347 := (bbA_ BK347 hb); replace HB := (bs_ HB hb); (try clear hb); (try clear hb2); (try clear hk); (try clear hi); (try clear ho0)
             obtain ⟨Ao55, co55, eo55⟩ := Kd.R_slice HO386.out
             (first | subst eo55 | (injection eo55 with f1_ f2_ f3_; have f4_ := f1_.symm; have f5_ := f3_.symm; clear f1_ f2_ f3_; subst f4_; subst f5_))
             refine hK.out _ _ ⟨bc_ BK347 0, bc_ BK347 1, bc_ BK347 2, bc_ BK347 3, bc_ BK347 4, bc_ BK347 5, bc_ BK347 6, bc_ BK347 7, bc_ BK347 8, bc_ BK347 9, bc_ BK347 10, (by first | exact cc_ HB hw376_0 | exact cc_ ⟨hbA_ HB.out⟩ hw376_0), (by first | exact cc_ HB hw376_1 | exact cc_ ⟨hbA_ HB.out⟩ hw376_1), (by first | exact cc_ HB hw383_0 | exact cc_ ⟨hbA_ HB.out⟩ hw383_0), (by first | exact cc_ HB hw383_1 | exact cc_ ⟨hbA_ HB.out⟩ hw383_1)⟩ (fun hHeld => ?_)
             clear hK K; refine nm_ 73 ?_
             refine on_ (i := 16) (N := some 74) HT_ (fun K hK => ?_)
             refine Kd.R_append_rows_step (Kd.int .u8) (w0 := w) w.heap.size (by rfl) (.tmp 66) (.tmp 73) 22 5 (.int .u8 0) 1 rfl Try.underlying22 info5 rfl (by decide) (by omega) v381 y380 t384 _ _ _ (fun k_ => some k_ ≠ (.slice Ao52 t377.length co52 : Value).ownBlock ∧ some k_ ≠ (.slice Ao55 t384.length co55 : Value).ownBlock) (fun _ => False) rfl rfl ?aO ?aR (fun _ _ h => h) (fun _ h => h.elim) ?aF ?aB ?aS ?aL ?_
             (case aR => exact kC_ (Kd.R_reads' HO386.out).2.2)
             (case aB => exact (hbA_ HB.out))
             (case aF => exact (fun k_ hk => ⟨Kd.fresh' (Kd.R_lt (kR_ HO379.out)) k_ hk, Kd.fresh' (Kd.R_lt (kR_ HO386.out)) k_ hk⟩))
             (case aO => exact (kR_ HO382.out))
             (case aS => exact (below_size (hbA_ HB.out)))
             (case aL => have := LMc47.out; omega)
             intro v388 w54 ho hb hg hat
             rw [← Ny387.out] at ho
             have n0_ := (bgA_ BK347 hg (Kd.R_ne HO382.out BK347.out (by decide))); have n1_ := Aside0.mk (Kd.R_after (ok := (fun k_ => some k_ ≠ (.slice Ao55 t384.length co55 : Value).ownBlock)) (by refine kR_ ?_; exact Kd.R_mono HO379.out (fun _ hk => op2_ hk)) hg hat); have n2_ := Aside0.mk (Kd.R_after (ok := (fun k_ => some k_ ≠ (.slice Ao52 t377.length co52 : Value).ownBlock)) (by refine kR_ ?_; exact Kd.R_mono HO386.out (fun _ hk => op2_ hk)) hg hat); have n3_ := Aside0.mk (hb); have n4_ := Aside0.mk (ho); clear BK347 HO379 HO386 HB HO382; have BK347 := n0_; have HO379 := n1_; have HO386 := n2_; have HB := n3_; have HO389 := n4_; clear n0_ n1_ n2_ n3_ n4_ ho hb hg hat
             refine hK.out _ _ ⟨bc_ BK347 0, bc_ BK347 1, bc_ BK347 2, bc_ BK347 3, bc_ BK347 4, bc_ BK347 5, bc_ BK347 6, bc_ BK347 7, bc_ BK347 8, bc_ BK347 9, bc_ BK347 10, (by first | exact cc_ HB hw376_0 | exact cc_ ⟨hbA_ HB.out⟩ hw376_0), (by first | exact cc_ HB hw376_1 | exact cc_ ⟨hbA_ HB.out⟩ hw376_1), (by first | exact cc_ HB hw383_0 | exact cc_ ⟨hbA_ HB.out⟩ hw383_0), (by first | exact cc_ HB hw383_1 | exact cc_ ⟨hbA_ HB.out⟩ hw383_1)⟩ (fun hHeld => ?_)
             clear hK K; refine nm_ 74 ?_; refine pu_ (i := 17) (N := some 7) HT_ ?_
             refine done_ (done_of HT_.out (by kernel_rfl)) ?_
             try go_wp2
             go_roundg k2
             case measure => have := HJ3.out; have := HK2.out; omega
             case rel => exact ⟨(y387), (wrap64 (x8_2 + 1)), (by first | rfl | (simp; done) | (simp [*]; done)), H', ⟨by have := HJ3.out; have := HK2.out; omega⟩, ⟨by refine kR_ ?_; exact Kd.R_mono HO389.out (fun _ hk => trivial)⟩, ⟨by refine kb_ ?_; exact BK347.out⟩, ⟨hbA_ HB.out⟩⟩
            ·rw [if_neg c47] at H
             exact absurd H (by simp)
           ·rw [if_neg c45] at H
            exact absurd H (by simp)
          ·rw [if_neg c43] at H
           exact absurd H (by simp)
         ·rw [if_neg c42] at H
          have c42b0 : decide (x8_2 < (l0_9.length : Int)) = false := decide_eq_false c42
          clear c42
          by_cases c56 : x7_2.length < 140737488355328
          ·rw [if_pos c56] at H
           have LMc56 := Aside0.mk c56; clear c56
           obtain ⟨y390, hy390⟩ : ∃ y_ : List Int, y_ = (x7_2 ++ [((l0_10.length : Int)) % 256]) := ⟨_, rfl⟩
           (first | replace H := sb_ hy390 H | rw [← hy390] at H)
           have Ny390 := Aside0.mk hy390; clear hy390
           by_cases c57 : y390.length + l0_10.length < 140737488355328
           ·rw [if_pos c57] at H
            have LMc57 := Aside0.mk c57; clear c57
            obtain ⟨y393, hy393⟩ : ∃ y_ : List Int, y_ = (y390 ++ l0_10) := ⟨_, rfl⟩
            (first | replace H := sb_ hy393 H | rw [← hy393] at H)
            have Ny393 := Aside0.mk hy393; clear hy393
            replace H := Option.bind_eq_some_iff.mp H
            obtain ⟨t396, A580, H⟩ := H
            (try dsimp only at H)
            have A58 := Aside0.mk A580; clear A580
            replace H := Option.bind_eq_some_iff.mp H
            obtain ⟨t397, A590, H⟩ := H
            (try dsimp only at H)
            have A59 := Aside0.mk A590; clear A590
            by_cases c60 : y393.length + t397.length < 140737488355328
            ·rw [if_pos c60] at H
             have LMc60 := Aside0.mk c60; clear c60
             obtain ⟨y400, hy400⟩ : ∃ y_ : List Int, y_ = (y393 ++ t397) := ⟨_, rfl⟩
             (first | replace H := sb_ hy400 H | rw [← hy400] at H)
             have Ny400 := Aside0.mk hy400; clear hy400
             obtain rfl := Option.some.inj H
             have Z61 := zz11 BK347
             try go_wp2
             replace HO_7 := Aside0.mk (Kd.R_drew HO_7.out); replace BK347 := Aside0.mk (blk_drew BK347.out); replace HB := (bd_ HB)
             refine start_ (n := 11) (S := fun w' => w'.cell? ⟨gb347, 0, none⟩ = some (.int .i64 a0_0) ∧ w'.cell? ⟨gb347, 1, none⟩ = some (.int .i64 a0_1) ∧ w'.cell? ⟨gb347, 2, none⟩ = some (.int .i64 a0_2) ∧ w'.cell? ⟨gb347, 3, none⟩ = some (.int .i64 a0_3) ∧ w'.cell? ⟨gb347, 4, none⟩ = some (.int .i64 a0_4) ∧ w'.cell? ⟨gb347, 5, none⟩ = some (.bool a0_5) ∧ w'.cell? ⟨gb347, 6, none⟩ = some (.bool a0_6) ∧ w'.cell? ⟨gb347, 7, none⟩ = some (.bool a0_7) ∧ w'.cell? ⟨gb347, 8, none⟩ = some (.bool a0_8) ∧ w'.cell? ⟨gb347, 9, none⟩ = some (.slice A0_9 l0_9.length c0_9) ∧ w'.cell? ⟨gb347, 10, none⟩ = some (.slice A0_10 l0_10.length c0_10)) (ds := []) #[false, false, false, false, false, false, false, false, false, false, false] (by kernel_rfl) rfl rfl (cz11 BK347.out) (fun hHeld => ?_); refine with_tabW spec_SegmentBytes.tab9 spec_SegmentBytes.bits9 (fun HT_ HW_ => ?_)
             generalize wr.drew = w62 at HO_7 BK347 HB hHeld ⊢
             refine pu_ (i := 0) (N := some 75) HT_ ?_; refine pu_ (i := 1) (N := some 76) HT_ ?_; refine pu_ (i := 7) (N := some 82) HT_ ?_; refine tk_ (i := 2) (N := some 77) HT_ HW_ hHeld ?_; refine pu_ (i := 3) (N := some 78) HT_ ?_; refine pu_ (i := 4) (N := some 79) HT_ ?_; refine tk_ (i := 8) (N := some 83) HT_ HW_ hHeld ?_
             refine on_ (i := 5) (N := some 80) HT_ (fun K hK => ?_)
             refine value_ (w1 := ?_) (v := ?_) (by rfl) rfl ?_ ?_
             rotate_left 2
             ·go_simp
              constructor
              ·rfl
              ·rfl
             refine hK.out _ _ ⟨(blk_cell (blk_alloc BK347.out _) 0).trans rfl, (blk_cell (blk_alloc BK347.out _) 1).trans rfl, (blk_cell (blk_alloc BK347.out _) 2).trans rfl, (blk_cell (blk_alloc BK347.out _) 3).trans rfl, (blk_cell (blk_alloc BK347.out _) 4).trans rfl, (blk_cell (blk_alloc BK347.out _) 5).trans rfl, (blk_cell (blk_alloc BK347.out _) 6).trans rfl, (blk_cell (blk_alloc BK347.out _) 7).trans rfl, (blk_cell (blk_alloc BK347.out _) 8).trans rfl, (blk_cell (blk_alloc BK347.out _) 9).trans rfl, (blk_cell (blk_alloc BK347.out _) 10).trans rfl⟩ (fun hHeld => ?_)
             clear hK K; refine nm_ 80 ?_
             refine on_ (i := 6) (N := some 81) HT_ (fun K hK => ?_)
             refine Kd.R_append_step (Kd.int .u8) (w0 := w) w.heap.size (by rfl) (.tmp 75) (.tmp 80) 22 5 (.int .u8 0) 1 rfl Try.underlying22 info5 rfl (by decide) (by omega) u7 x7_2 (((l0_10.length : Int)) % 256) [.int .u8 (((l0_10.length : Int)) % 256)] (fun _ => True) (fun _ => False) rfl rfl ?aP (fun _ hk => hk.elim) ?aF ?aO ?aB ?aS ?aL ?_
             (case aP => exact rfl)
             (case aB => exact (hbA_ HB.out))
             (case aF => exact (fun _ _ => trivial))
             (case aO => exact (kR_ HO_7.out))
             (case aS => exact (below_size (hbA_ HB.out)))
             (case aL => have := LMc56.out; omega)
             intro v391 w63 ho hb hg hat
             rw [← Ny390.out] at ho
             have n0_ := (bgA_ BK347 hg (Kd.R_ne HO_7.out BK347.out (by decide))); have n1_ := Aside0.mk (hb); have n2_ := Aside0.mk (ho); clear BK347 HB HO_7; have BK347 := n0_; have HB := n1_; have HO392 := n2_; clear n0_ n1_ n2_ ho hb hg hat
             refine hK.out _ _ (cz11 BK347.out) (fun hHeld => ?_)
             clear hK K; refine nm_ 81 ?_
             refine on_ (i := 9) (N := some 84) HT_ (fun K hK => ?_)
             refine Kd.R_append_rows_step (Kd.int .u8) (w0 := w) w.heap.size (by rfl) (.tmp 81) (.tmp 83) 22 5 (.int .u8 0) 1 rfl Try.underlying22 info5 rfl (by decide) (by omega) v391 y390 l0_10 _ _ _ (fun _ => True) (fun _ => False) rfl rfl ?aO ?aR (fun _ _ h => h) (fun _ h => h.elim) ?aF ?aB ?aS ?aL ?_
             (case aR => exact kC_ (Kd.C_below HR0_10.out HB.out))
             (case aB => exact (hbA_ HB.out))
             (case aF => exact (fun _ _ => trivial))
             (case aO => exact (kR_ HO392.out))
             (case aS => exact (below_size (hbA_ HB.out)))
             (case aL => have := LMc57.out; omega)
             intro v394 w64 ho hb hg hat
             rw [← Ny393.out] at ho
             have n0_ := (bgA_ BK347 hg (Kd.R_ne HO392.out BK347.out (by decide))); have n1_ := Aside0.mk (hb); have n2_ := Aside0.mk (ho); clear BK347 HB HO392; have BK347 := n0_; have HB := n1_; have HO395 := n2_; clear n0_ n1_ n2_ ho hb hg hat
             refine hK.out _ _ (cz11 BK347.out) (fun hHeld => ?_)
             clear hK K; refine nm_ 84 ?_; refine pu_ (i := 10) (N := some 7) HT_ ?_
             refine done_ (done_of HT_.out (by kernel_rfl)) ?_
             obtain ⟨Ao65, co65, eo65⟩ := Kd.R_slice HO395.out
             subst eo65
             try go_wp2_with (first | ((with_reducible refine gate_callee (f := 60) rfl ?_); refine goesL_ (some 89) rfl rfl Try.func60 (by kernel_rfl) rfl #[.int .i64 a1, .int .i64 a2, .slice Ao65 y393.length co65] rfl ar_ ?_; (with_reducible refine (spec_l9Sum.calls k2 a1 a2 _ _ y393 t396 _ ?side1 ?side2 A58.out).mono ?_); (case side1 => exact kC_ (Kd.R_reads' HO395.out).2.2); (case side2 => exact (Kd.R_reads' HO395.out).2.1); rintro e w66 ⟨rfl, hb⟩; refine ⟨_, rfl, ?_⟩; replace HO395 := Aside0.mk (Kd.R_below (kR_ HO395.out) hb); replace BK347 := (bbA_ BK347 hb); replace HB := (bs_ HB hb); (try clear hb); (try clear hb2); (try clear hk); (try clear hi)) | ((with_reducible refine gate_callee (f := 75) rfl ?_); refine goesL_ (some 90) rfl rfl Try.func75 (by kernel_rfl) rfl #[.int .i64 t396, .int .i64 2] rfl ar_ ?_; (with_reducible refine (spec_BytesOf.calls k2 t396 2 t397 _ A59.out).mono ?_); rintro e w67 ⟨v398, rfl, ho0, hb⟩; refine ⟨_, rfl, ?_⟩; have HO399 := Aside0.mk (Kd.R_lower (Kd.R_new' ho0 (Kd.R_lt (kR_ HO395.out))) (below_size (hbA_ HB.out))); replace HO395 := Aside0.mk (Kd.R_elder' (kR_ HO395.out) (Kd.R_base ho0) hb); replace BK347 := (bbA_ BK347 hb); replace HB := (bs_ HB hb); (try clear hb); (try clear hb2); (try clear hk); (try clear hi); (try clear ho0); obtain ⟨Ao69, co69, eo69⟩ := Kd.R_slice HO399.out; subst eo69) | ((with_reducible refine gate_builtin (b := .append) (xs := #[.tmp 85, .tmp 90]) rfl ?_); at_builtin; refine Kd.R_append_rows (Kd.int .u8) (w0 := w) w.heap.size rfl (.tmp 85) (.tmp 90) 22 5 (.int .u8 0) 1 rfl Try.underlying22 info5 rfl (by decide) (by omega) (.slice Ao65 y393.length co65) y393 t397 _ _ _ (fun k_ => some k_ ≠ (.slice Ao69 t397.length co69 : Value).ownBlock) (fun _ => False) rfl rfl ?aO ?aR (fun _ _ h => h) (fun _ h => h.elim) ?aF ?aB ?aS ?aL ?_; (case aR => exact kC_ (Kd.R_reads' HO399.out).2.2); (case aB => exact (hbA_ HB.out)); (case aF => exact (fun k_ hk => Kd.fresh' (Kd.R_lt (kR_ HO399.out)) k_ hk)); (case aO => exact (by refine kR_ ?_; first | exact Kd.R_mono HO395.out (fun _ hk => hk.2) | exact Kd.R_mono HO395.out (fun _ _ => trivial))); (case aS => exact (below_size (hbA_ HB.out))); (case aL => have := LMc60.out; omega); intro v401 w68 ho hb hg hat; rw [← Ny400.out] at ho; replace BK347 := (bgA_ BK347 hg (Kd.R_ne HO395.out BK347.out (by decide))); replace HO399 := Aside0.mk (Kd.R_after (ok := (fun _ => True)) (kR_ HO399.out) hg hat); replace HB := Aside0.mk (hb); have HO402 := Aside0.mk (ho); clear HO395; clear ho hb hg hat))
             go_ret
             exact ⟨_, by first | rfl | (simp [errW_none, errW_some] <;> rfl) | (simp [*, errW_none, errW_some] <;> rfl), by refine kR_ ?_; exact Kd.R_mono HO402.out (fun _ hk => trivial), hbA_ HB.out⟩
            ·rw [if_neg c60] at H
             exact absurd H (by simp)
           ·rw [if_neg c57] at H
            exact absurd H (by simp)
          ·rw [if_neg c56] at H
           exact absurd H (by simp)
      ·rw [if_neg c25] at H
       exact absurd H (by simp)
     ·rw [if_neg c23] at H
      exact absurd H (by simp)
    ·rw [if_neg c21] at H
     exact absurd H (by simp)
def IsS102 (w0 W : World) (g : Nat) (f0 : List Int) (f1 : Int) : Prop := ∃ A0 c0, W.heap[g]? = some (.cells #[.slice A0 f0.length c0, .int .i64 f1] 102 (0, 0)) ∧ w0.heap.size ≤ g ∧ Kd.C (Kd.int .u8) w0 A0 f0.length f0
theorem IsS102.grown {w0 W : World} {g : Nat} {f0 : List Int} {f1 : Int} {W1 : World} {row : Option Nat} (h : IsS102 w0 W g f0 f1) (hw : W.grownBy W1 row) (hne : some g ≠ row) : IsS102 w0 W1 g f0 f1 := by
 obtain ⟨A0, c0, hb, hg, hr0⟩ := h
 exact ⟨A0, c0, blk_grown hb hw hne, hg, hr0⟩
theorem IsS102.kept {w0 W : World} {g : Nat} {f0 : List Int} {f1 : Int} {W1 : World} {S : Nat → Prop} (h : IsS102 w0 W g f0 f1) (hk : Kept W W1 S) (hne : ¬ S g) : IsS102 w0 W1 g f0 f1 := by
 obtain ⟨A0, c0, hb, hg, hr0⟩ := h
 exact ⟨A0, c0, blk_kept hb hk hne, hg, hr0⟩
theorem IsS102.below {w0 W : World} {g : Nat} {f0 : List Int} {f1 : Int} {W1 : World} (h : IsS102 w0 W g f0 f1) (hw : Below W.heap.size W W1) : IsS102 w0 W1 g f0 f1 := h.grown (grown_of_below hw none) (by simp)
theorem IsS102.alloc {w0 W : World} {g : Nat} {f0 : List Int} {f1 : Int} (h : IsS102 w0 W g f0 f1) (o : Obj) : IsS102 w0 (W.alloc o) g f0 f1 := h.below (below_alloc (Below.refl _ _) o)
theorem IsS102.drewN {w0 W : World} {g : Nat} {f0 : List Int} {f1 : Int} (h : IsS102 w0 W g f0 f1) (m : Nat) : IsS102 w0 (W.drewN m) g f0 f1 := h
theorem IsS102.drew {w0 W : World} {g : Nat} {f0 : List Int} {f1 : Int} (h : IsS102 w0 W g f0 f1) : IsS102 w0 W.drew g f0 f1 := h
theorem IsS102.at_ {w0 W : World} {g : Nat} {f0 : List Int} {f1 : Int} {w' : World} {m : Nat} (hq : W.drewN m = w') (h : IsS102 w0 W g f0 f1) : IsS102 w0 w' g f0 f1 := by subst hq; exact IsS102.drewN h m
theorem IsS102.apart {w0 W : World} {g : Nat} {f0 : List Int} {f1 : Int} {α : Type} {d : Kd α} {e : Nat} {base : Nat} {ok : Nat → Prop} {v : Value} {xs : List α} (h : IsS102 w0 W g f0 f1) (ho : d.R e W base ok v xs) (ht : ∀ q, q ∈ e :: d.E → q ≠ 102) : d.R e W base (fun k => ok k ∧ k ≠ g) v xs := by
 obtain ⟨A0, c0, hb, hg, hr0⟩ := h
 exact Kd.R_types ho hb ht
theorem IsS102.own_ne {w0 W : World} {g : Nat} {f0 : List Int} {f1 : Int} {α : Type} {d : Kd α} {e : Nat} {base : Nat} {ok : Nat → Prop} {v : Value} {xs : List α} (h : IsS102 w0 W g f0 f1) (ho : d.R e W base ok v xs) (ht : e ≠ 102) : some g ≠ v.ownBlock := by
 obtain ⟨A0, c0, hb, hg, hr0⟩ := h
 exact Kd.R_ne ho hb ht
theorem IsS102.lt {w0 W : World} {g : Nat} {f0 : List Int} {f1 : Int} (h : IsS102 w0 W g f0 f1) : g < W.heap.size := by
 obtain ⟨A0, c0, hb, hg, hr0⟩ := h
 exact blk_lt hb
theorem IsS102.ge {w0 W : World} {g : Nat} {f0 : List Int} {f1 : Int} (h : IsS102 w0 W g f0 f1) : w0.heap.size ≤ g := by
 obtain ⟨A0, c0, hb, hg, hr0⟩ := h
 exact hg
theorem IsS102.far {w0 W : World} {g : Nat} {f0 : List Int} {f1 : Int} {p : Addr} (h : IsS102 w0 W g f0 f1) (hne : g ≠ p.block) (u : Value) : IsS102 w0 (W.setCell p u) g f0 f1 := by
 obtain ⟨A0, c0, hb, hg, hr0⟩ := h
 exact ⟨A0, c0, blk_far hb hne u, hg, hr0⟩
theorem cellS102_0 {W : World} {g : Nat} {A0 : Option Addr} {c0 : Nat} {f0 : List Int} {f1 : Int} (h : W.heap[g]? = some (.cells #[.slice A0 f0.length c0, .int .i64 f1] 102 (0, 0))) : W.cell? ⟨g, 0, none⟩ = some (.slice A0 f0.length c0) := (blk_cell h 0).trans rfl
theorem cellS102_1 {W : World} {g : Nat} {A0 : Option Addr} {c0 : Nat} {f0 : List Int} {f1 : Int} (h : W.heap[g]? = some (.cells #[.slice A0 f0.length c0, .int .i64 f1] 102 (0, 0))) : W.cell? ⟨g, 1, none⟩ = some (.int .i64 f1) := (blk_cell h 1).trans rfl
theorem IsS102.set_1 {w0 W : World} {g : Nat} {f0 : List Int} {f1 : Int} (h : IsS102 w0 W g f0 f1) (x : Int) : IsS102 w0 (W.setCell ⟨g, 1, none⟩ (.int .i64 x)) g f0 x := by
 obtain ⟨A0, c0, hb, hg, hr0⟩ := h
 exact ⟨A0, c0, by simpa using blk_set hb 1 (.int .i64 x), hg, hr0⟩
theorem IsS102.new (w0 W : World) (A0 : Option Addr) (c0 : Nat) (f0 : List Int) (f1 : Int) (hB : Below w0.heap.size w0 W) (hr0 : Kd.C (Kd.int .u8) w0 A0 f0.length f0) : IsS102 w0 (W.alloc (.cells #[.slice A0 f0.length c0, .int .i64 f1] 102)) W.heap.size f0 f1 := ⟨A0, c0, by simpa using heap_alloc_new W _, hB.size, hr0⟩
theorem is102_ {P Q : Prop} (q : Q) (h : Q → P := by intro q_; repeat (first | (with_reducible first | exact q_ | apply IsS102.alloc | apply IsS102.drewN | apply IsS102.drew | apply IsS102.set_1 | refine IsS102.far ?_ (Aside0.out (by assumption)) _) | exact q_)) : P := h q
theorem hb102_ {P Q : Prop} (q : Q) (h : Q → P := by intro q_; repeat (first | (with_reducible first | exact q_ | apply below_alloc | apply pw_below_drewN | apply below_drew1 | refine below_set ?_ (Aside0.out (by assumption)) | refine below_set ?_ (IsS102.ge (Aside0.out (by assumption)))) | exact q_)) : P := h q
theorem bs102_ {w W W0 W2 : World} (HB : Aside0 (Below w.heap.size w W0)) (hb : Below W.heap.size W W2) (t : Below w.heap.size w W0 → Below w.heap.size w W := by intro q_; repeat (first | (with_reducible first | exact q_ | apply below_alloc | apply pw_below_drewN | apply below_drew1 | refine below_set ?_ (Aside0.out (by assumption)) | refine below_set ?_ (IsS102.ge (Aside0.out (by assumption)))) | exact q_)) : Aside0 (Below w.heap.size w W2) := ⟨below_step (t HB.out) hb⟩
theorem nl102_ {w0 W W0 : World} {g g2 : Nat} {f0 : List Int} {f1 : Int} {g0 : List Int} {g1 : Int} (hg : g2 = W.heap.size) (h : Aside0 (IsS102 w0 W0 g f0 f1)) (t : IsS102 w0 W0 g f0 f1 → IsS102 w0 W g g0 g1 := by intro q_; repeat (first | (with_reducible first | exact q_ | apply IsS102.alloc | apply IsS102.drewN | apply IsS102.drew | apply IsS102.set_1 | refine IsS102.far ?_ (Aside0.out (by assumption)) _) | exact q_)) : Aside0 (g ≠ g2) := ⟨hg ▸ Nat.ne_of_lt (IsS102.lt (t h.out))⟩
theorem ng102_ {w0 W W0 : World} {g g2 : Nat} {f0 : List Int} {f1 : Int} {g0 : List Int} {g1 : Int} (hg : g2 = W.heap.size) (h : Aside0 (IsS102 w0 W0 g f0 f1)) (t : IsS102 w0 W0 g f0 f1 → IsS102 w0 W g g0 g1 := by intro q_; repeat (first | (with_reducible first | exact q_ | apply IsS102.alloc | apply IsS102.drewN | apply IsS102.drew | apply IsS102.set_1 | refine IsS102.far ?_ (Aside0.out (by assumption)) _) | exact q_)) : Aside0 (g2 ≠ g) := ⟨hg ▸ Nat.ne_of_gt (IsS102.lt (t h.out))⟩
theorem ib102_ {w0 W W0 W2 : World} {g : Nat} {f0 : List Int} {f1 : Int} {g0 : List Int} {g1 : Int} (h : Aside0 (IsS102 w0 W0 g f0 f1)) (hb : Below W.heap.size W W2) (t : IsS102 w0 W0 g f0 f1 → IsS102 w0 W g g0 g1 := by intro q_; repeat (first | (with_reducible first | exact q_ | apply IsS102.alloc | apply IsS102.drewN | apply IsS102.drew | apply IsS102.set_1 | refine IsS102.far ?_ (Aside0.out (by assumption)) _) | exact q_)) : Aside0 (IsS102 w0 W2 g g0 g1) := ⟨IsS102.below (t h.out) hb⟩
theorem rk102_ {w0 W0 W1 W W2 : World} {g : Nat} {f0 : List Int} {f1 : Int} {g0 : List Int} {g1 : Int} {α : Type} {d : Kd α} {e : Nat} {base : Nat} {ok : Nat → Prop} {v : Value} {xs : List α} (h : Aside0 (IsS102 w0 W0 g f0 f1)) (ho : Aside0 (d.R e W1 base ok v xs)) (hk : KeepBut W W2 g none) (t : IsS102 w0 W0 g f0 f1 → IsS102 w0 W g g0 g1 := by intro q_; repeat (first | (with_reducible first | exact q_ | apply IsS102.alloc | apply IsS102.drewN | apply IsS102.drew | apply IsS102.set_1 | refine IsS102.far ?_ (Aside0.out (by assumption)) _) | exact q_)) (s : d.R e W1 base ok v xs → d.R e W base ok v xs := by intro q_; (with_reducible repeat (first | apply Kd.R_alloc | apply Kd.R_drewN | apply Kd.R_drew)); exact q_) (ht : ∀ q, q ∈ e :: d.E → q ≠ 102 := by decide) : Aside0 (d.R e W2 base ok v xs) := ⟨Kd.R_mono (Kd.R_keep (IsS102.apart (t h.out) (s ho.out) ht) hk (fun _ h => h.2)) (fun _ h => h.1)⟩
def spec_l20Open.f (l0 : List Int) : Option (List Int × Int) := if (l0.length : Int) > 2000 then (if 2000 ≤ (l0.length : Int) then (some (l0.take 2000, 0)) else (none)) else (some (l0, 0))
set_option maxHeartbeats 8000000 in
set_option maxRecDepth 100000 in
theorem spec_l20Open.calls (A0 : Option Addr) (c0 : Nat) (l0 : List Int) (r1 : List Int) (r2 : Int) (w0 w : World) (hB : Below w0.heap.size w0 w) (hr0 : Kd.C (Kd.int .u8) w0 A0 l0.length l0) (hc0 : l0.length ≤ c0) (h : spec_l20Open.f l0 = some (r1, r2)) :
  Calls Try.prog 39 #[.slice A0 l0.length c0] w fun e w' => ∃ g_ : Nat, e = .returned (.pointer (some ⟨g_, 0, none⟩)) ∧ IsS102 w0 w' g_ r1 r2 ∧ Below w0.heap.size w0 w' ∧ Below w.heap.size w w' := by
 have hu102 := Try.underlying102; have HR0 := Aside0.mk hr0; have HC0 := Aside0.mk hc0; clear hr0 hc0
 have HBW := Aside0.mk (Below.refl w.heap.size w)
 have HW0 := Aside0.mk hB.size; have HB := Aside0.mk hB; clear hB
 have H : (if (l0.length : Int) > 2000 then (if 2000 ≤ (l0.length : Int) then (some (l0.take 2000, 0)) else (none)) else (some (l0, 0))) = some (r1, r2) := h
 clear h
 by_cases c2 : (l0.length : Int) > 2000
 ·rw [if_pos c2] at H
  have c2b0 : decide (2000 < (l0.length : Int)) = true := decide_eq_true c2
  have c2b1 : decide (2000 < l0.length) = true := decide_eq_true (by omega)
  clear c2
  by_cases c3 : 2000 ≤ (l0.length : Int)
  ·rw [if_pos c3] at H
   have c3b0 := eq_true c3
   have c3b1 : decide (2000 ≤ (l0.length : Int)) = true := decide_eq_true c3
   clear c3
   simp only [Option.some.injEq, Prod.mk.injEq] at H
   obtain ⟨rfl, rfl⟩ := H
   obtain ⟨i04, hi04, _, hsz4, _⟩ := info_parts info5
   obtain ⟨hcut4, hA4, hC4⟩ := print_take_of (P := Try.prog) (Value.int .u8) 0 22 5 .i64 Try.underlying22 hi04 hsz4 A0 c0 l0 2000 (by omega) (of_decide_eq_true (by first | (with_reducible assumption) | assumption)) HC0.out
   have HR403 := Aside0.mk (Kd.C_of_reads (h1 := fun _ => rfl) (hA4 _ (Kd.reads_of_C HR0.out)))
   have HC403 := Aside0.mk hC4; clear hA4 hC4 hi04 hsz4
   go_enter Try.func39, Try.ntmps39
   go_wp2_with (first | ((with_reducible refine gate_dst (N := 10) rfl ?_); refine box_ (N := 10) (cs := #[.slice A0 (l0.take 2000).length c0, .int .i64 0]) (t := 102) (fun gb404 hg w5 hbox hb => ?_); replace HB := (bs_ HB hb); have BK404 := Aside0.mk (hbox); have GW404 := Aside0.mk ((by rw [hg]; exact (below_size (hb0_ HBW.out)) : w.heap.size ≤ gb404)); have GE404 := Aside0.mk ((Nat.le_trans HW0.out (by rw [hg]; exact (below_size (hb0_ HBW.out)) : w.heap.size ≤ gb404) : w0.heap.size ≤ gb404)); replace HBW := Aside0.mk (below_step HBW.out hb); clear hb hbox hg))
   go_ret
   exact ⟨_, rfl, (show IsS102 w0 _ gb404 (l0.take 2000) 0 from ⟨_, _, by refine kb_ ?_; exact BK404.out, GE404.out, HR403.out⟩), hbA_ HB.out, by repeat (first | (with_reducible first | exact HBW.out | apply below_alloc | apply pw_below_drewN | apply below_drew1 | refine below_set ?_ GW404.out) | exact HBW.out)⟩
  ·rw [if_neg c3] at H
   exact absurd H (by simp)
 ·rw [if_neg c2] at H
  have c2b0 : decide (2000 < (l0.length : Int)) = false := decide_eq_false c2
  have c2b1 : decide (2000 < l0.length) = false := decide_eq_false (by omega)
  clear c2
  simp only [Option.some.injEq, Prod.mk.injEq] at H
  obtain ⟨rfl, rfl⟩ := H
  go_enter Try.func39, Try.ntmps39
  go_wp2_with (first | ((with_reducible refine gate_dst (N := 10) rfl ?_); refine box_ (N := 10) (cs := #[.slice A0 l0.length c0, .int .i64 0]) (t := 102) (fun gb405 hg w6 hbox hb => ?_); replace HB := (bs_ HB hb); have BK405 := Aside0.mk (hbox); have GW405 := Aside0.mk ((by rw [hg]; exact (below_size (hb0_ HBW.out)) : w.heap.size ≤ gb405)); have GE405 := Aside0.mk ((Nat.le_trans HW0.out (by rw [hg]; exact (below_size (hb0_ HBW.out)) : w.heap.size ≤ gb405) : w0.heap.size ≤ gb405)); replace HBW := Aside0.mk (below_step HBW.out hb); clear hb hbox hg))
  go_ret
  exact ⟨_, rfl, (show IsS102 w0 _ gb405 l0 0 from ⟨_, _, by refine kb_ ?_; exact BK405.out, GE405.out, HR0.out⟩), hbA_ HB.out, by repeat (first | (with_reducible first | exact HBW.out | apply below_alloc | apply pw_below_drewN | apply below_drew1 | refine below_set ?_ GW405.out) | exact HBW.out)⟩
def spec_l20Rd_pick.j0 : Nat → Int → Bool → List Int → Int → Option (Int × Int)
 | 0, _, _, _, _ => none
 | k + 1, x1, x24, x1000, x1001 => if x24 = true then (some (0, x1001)) else (if (wrap64 (x1001 - 1)) < (x1000.length : Int) then (if 0 ≤ (wrap64 (x1001 - 1)) then (if x1 = 0 then (none) else (some (Int.tmod (wrap64 (rd x1000 (wrap64 (x1001 - 1)))) x1, x1001))) else (none)) else (if (x1000.length : Int) = 0 then (none) else (if 0 ≤ (Int.tmod (wrap64 (x1001 - 1)) (x1000.length : Int)) then (if (Int.tmod (wrap64 (x1001 - 1)) (x1000.length : Int)) < (x1000.length : Int) then (if 0 ≤ (Int.tmod (wrap64 ((wrap64 ((wrap64 (x1001 - 1)) * 7)) + 3)) (x1000.length : Int)) then (if (Int.tmod (wrap64 ((wrap64 ((wrap64 (x1001 - 1)) * 7)) + 3)) (x1000.length : Int)) < (x1000.length : Int) then (if x1 = 0 then (none) else (some (Int.tmod (Go.bits .xor .i64 (wrap64 ((wrap64 ((wrap64 ((wrap64 ((wrap64 (rd x1000 (Int.tmod (wrap64 (x1001 - 1)) (x1000.length : Int)))) * 131)) + (wrap64 ((wrap64 (rd x1000 (Int.tmod (wrap64 ((wrap64 ((wrap64 (x1001 - 1)) * 7)) + 3)) (x1000.length : Int)))) * 1117)))) + (wrap64 ((wrap64 (x1001 - 1)) * 29)))) + (wrap64 ((wrap64 (Int.tdiv (wrap64 (x1001 - 1)) (x1000.length : Int))) * 53)))) (wrap64 (Int.tdiv (wrap64 ((wrap64 ((wrap64 ((wrap64 ((wrap64 (rd x1000 (Int.tmod (wrap64 (x1001 - 1)) (x1000.length : Int)))) * 131)) + (wrap64 ((wrap64 (rd x1000 (Int.tmod (wrap64 ((wrap64 ((wrap64 (x1001 - 1)) * 7)) + 3)) (x1000.length : Int)))) * 1117)))) + (wrap64 ((wrap64 (x1001 - 1)) * 29)))) + (wrap64 ((wrap64 (Int.tdiv (wrap64 (x1001 - 1)) (x1000.length : Int))) * 53)))) 64))) x1, x1001))) else (none)) else (none)) else (none)) else (none))))
def spec_l20Rd_pick.f (k : Nat) (s0_0 : List Int) (s0_1 : Int) (a1 : Int) : Option (Int × Int) := if a1 < 1 then (spec_l20Rd_pick.j0 k a1 true s0_0 (wrap64 (s0_1 + 1))) else (spec_l20Rd_pick.j0 k a1 ((s0_0.length : Int) == 0) s0_0 (wrap64 (s0_1 + 1)))
theorem spec_l20Rd_pick.mono_l : ∀ k, (∀ y0 y1 y2 y3, LeO (spec_l20Rd_pick.j0 k y0 y1 y2 y3) (spec_l20Rd_pick.j0 (k + 1) y0 y1 y2 y3))
 | 0 => fun _ _ _ _ r h => by simp [spec_l20Rd_pick.j0] at h
 | k + 1 => by
  have ih0 := spec_l20Rd_pick.mono_l k
  ·intro y0 y1 y2 y3
   unfold spec_l20Rd_pick.j0
   repeat' first | (with_reducible first | apply ih0 | exact LeO.refl _ | exact LeO.none _ | refine LeO.ite ?_ ?_ | refine LeO.bind ?_ fun _ => ?_) | apply ih0 | exact LeO.none _ | refine LeO.ite ?_ ?_ | refine LeO.bind ?_ fun _ => ?_
theorem spec_l20Rd_pick.mono : ∀ a0 a1 a2 k, LeO (spec_l20Rd_pick.f k a0 a1 a2) (spec_l20Rd_pick.f (k + 1) a0 a1 a2) := by
 intro a0 a1 a2 k
 have ih0 := spec_l20Rd_pick.mono_l k
 unfold spec_l20Rd_pick.f
 repeat' first | (with_reducible first | apply ih0 | exact LeO.refl _ | exact LeO.none _ | refine LeO.ite ?_ ?_ | refine LeO.bind ?_ fun _ => ?_) | apply ih0 | exact LeO.none _ | refine LeO.ite ?_ ?_ | refine LeO.bind ?_ fun _ => ?_
set_option maxHeartbeats 8000000 in
set_option maxRecDepth 100000 in
theorem spec_l20Rd_pick.calls (k : Nat) (g : Nat) (s0_0 : List Int) (s0_1 : Int) (a1 : Int) (r1 : Int) (r2 : Int) (w0 w : World) (hI : IsS102 w0 w g s0_0 s0_1) (hB : Below w0.heap.size w0 w) (h : spec_l20Rd_pick.f k s0_0 s0_1 a1 = some (r1, r2)) :
  Calls Try.prog 40 #[.pointer (some ⟨g, 0, none⟩), .int .i64 a1] w fun e w' => e = .returned (.int .i64 r1) ∧ IsS102 w0 w' g s0_0 r2 ∧ Below w0.heap.size w0 w' ∧ KeepBut w w' g none := by
 have HI0 := Aside0.mk hI
 have HK := Aside0.mk (KeepBut.refl w g none)
 have HL := Aside0.mk hB.size; clear hI; have HW0 := Aside0.mk hB.size; have HB := Aside0.mk hB; clear hB
 have H : (if a1 < 1 then (spec_l20Rd_pick.j0 k a1 true s0_0 (wrap64 (s0_1 + 1))) else (spec_l20Rd_pick.j0 k a1 ((s0_0.length : Int) == 0) s0_0 (wrap64 (s0_1 + 1)))) = some (r1, r2) := h
 clear h; have HC3 := Aside0.mk H; clear H
 obtain ⟨ASz4_0, cSz4_0, HGz4, hgz4, HSz4_0⟩ := HI0.out
 have hcz4_0 := cellS102_0 HGz4
 have hcz4_1 := cellS102_1 HGz4
 have hfz4_1 := blk_frozen HGz4 1; clear HGz4 hgz4
 go_enter Try.func40, Try.ntmps40
 go_upto_region 2 with (fail)
 repeat (go_quiet (fail); go_upto_region 2 with (fail))
 go_cut [24] (fun v24 wc => ∃ (kq : Nat) (x24_2 : Bool), v24 = .bool x24_2 ∧ Aside0 (spec_l20Rd_pick.j0 kq a1 x24_2 s0_0 (wrap64 (s0_1 + 1)) = some (r1, r2)) ∧ Aside0 (kq ≤ k) ∧ Aside0 (IsS102 w0 wc g s0_0 (wrap64 (s0_1 + 1))) ∧ Aside0 (KeepBut w wc g none) ∧ Aside0 (Below w0.heap.size w0 wc))
 case first =>
  have H := HC3.out; clear HC3
  by_cases c5 : a1 < 1
  ·rw [if_pos c5] at H
   have c5b0 : decide (a1 < 1) = true := decide_eq_true c5
   clear c5
   (first | rw [c5b0] | (simp only [i64_w, i32_w]; rw [c5b0]) | skip)
   have H' := Aside0.mk H
   clear H
   go_wp2
   repeat (go_quiet (fail); try go_wp2)
   go_meet
   case rel => exact ⟨_, (true), (by first | rfl | (simp; done) | (simp [*]; done)), H', ⟨by first | omega | exact Nat.le_refl _⟩, ⟨is102_ HI0.out⟩, ⟨hkA_ HK.out⟩, ⟨hb102_ HB.out⟩⟩
  ·rw [if_neg c5] at H
   have c5b0 : decide (a1 < 1) = false := decide_eq_false c5
   clear c5
   (first | rw [c5b0] | (simp only [i64_w, i32_w]; rw [c5b0]) | skip)
   have H' := Aside0.mk H
   clear H
   obtain ⟨ASz6_0, cSz6_0, HGz6, hgz6, HSz6_0⟩ := HI0.out
   have hcz6_0 := cellS102_0 HGz6
   have hcz6_1 := cellS102_1 HGz6
   have hfz6_1 := blk_frozen HGz6 1; clear HGz6 hgz6
   go_wp2
   repeat (go_quiet (fail); try go_wp2)
   go_meet
   case rel => exact ⟨_, (((s0_0.length : Int) == 0)), (by first | rfl | (simp; done) | (simp [*]; done)), H', ⟨by first | omega | exact Nat.le_refl _⟩, ⟨is102_ HI0.out⟩, ⟨hkA_ HK.out⟩, ⟨hb102_ HB.out⟩⟩
 case rest =>
  clear HC3; (try clear p2); (try clear c4); (try clear c5); (try clear c5b0); (try clear p6); (try clear hcz4_0); (try clear hcz4_1); (try clear hcz6_0); (try clear hcz6_1); (try clear hfz4_1); (try clear hfz6_1)
  obtain ⟨kq, x24_2, rfl, HA, HJ2, HI0, HK, HB⟩ := hcut
  cases kq with
  | zero => exact absurd HA.out (by simp [spec_l20Rd_pick.j0])
  | succ kj2 =>
   have H := HA.out; clear HA
   simp only [spec_l20Rd_pick.j0] at H
   by_cases c7 : x24_2 = true
   ·subst c7
    rw [if_pos rfl] at H
    simp only [Option.some.injEq, Prod.mk.injEq] at H
    obtain ⟨rfl, rfl⟩ := H
    go_wp2
    repeat (go_quiet (fail); try go_wp2)
    go_ret
    exact ⟨by first | rfl | (simp [errW_none, errW_some] <;> rfl) | (simp [*, errW_none, errW_some] <;> rfl), is102_ HI0.out, hb102_ HB.out, hkA_ HK.out⟩
   ·replace c7 := Bool.eq_false_iff.mpr c7
    subst c7
    rw [if_neg (show ¬ (false = true) by decide)] at H
    by_cases c8 : (wrap64 ((wrap64 (s0_1 + 1)) - 1)) < (s0_0.length : Int)
    ·rw [if_pos c8] at H
     have c8b0 : decide ((wrap64 ((wrap64 (s0_1 + 1)) - 1)) < (s0_0.length : Int)) = true := decide_eq_true c8
     clear c8
     obtain ⟨ji9, hji9⟩ : ∃ j_ : Int, (wrap64 ((wrap64 (s0_1 + 1)) - 1)) = j_ := ⟨_, rfl⟩
     (first | rw [hji9] at H | simp only [hji9] at H)
     (try rw [hji9] at c8b0)
     have hji9w : (IntKind.i64.wrap ((wrap64 (s0_1 + 1)) - 1)) = ji9 := (i64_w _).trans hji9
     by_cases c10 : 0 ≤ (ji9)
     ·rw [if_pos c10] at H
      have c10b0 : decide (0 ≤ (ji9)) = true := decide_eq_true c10
      clear c10
      by_cases c11 : a1 = 0
      ·rw [if_pos c11] at H
       exact absurd H (by simp)
      ·rw [if_neg c11] at H
       have c11b0 : (a1 == 0) = false := beq_eq_false_iff_ne.mpr c11
       have c11b1 : (a1 != 0) = true := bne_iff_ne.mpr c11
       simp only [Option.some.injEq, Prod.mk.injEq] at H
       obtain ⟨rfl, rfl⟩ := H
       obtain ⟨ASz12_0, cSz12_0, HGz12, hgz12, HSz12_0⟩ := HI0.out
       have hcz12_0 := cellS102_0 HGz12
       have hcz12_1 := cellS102_1 HGz12
       have hfz12_1 := blk_frozen HGz12 1; clear HGz12 hgz12
       have p406 : 0 ≤ ((ji9) : Int) := of_decide_eq_true (by first | (with_reducible assumption) | assumption)
       have q406 : (ji9) < (s0_0.length : Int) := of_decide_eq_true (by first | (with_reducible assumption) | assumption)
       obtain ⟨ad406, e406, hx406_0⟩ := Kd.at_int HSz12_0 (ji9) p406 q406
       cases e406
       replace hx406_0 := pw_cell_below HB.out hx406_0
       replace p406 := eq_true p406
       replace q406 := eq_true q406
       go_wp2
       repeat (go_quiet (fail); try go_wp2)
       go_ret
       exact ⟨by first | rfl | (simp [errW_none, errW_some] <;> rfl) | (simp only [← hji9]; first | rfl | (simp [errW_none, errW_some] <;> rfl)) | (simp [*, errW_none, errW_some] <;> rfl), is102_ HI0.out, hb102_ HB.out, hkA_ HK.out⟩
     ·rw [if_neg c10] at H
      exact absurd H (by simp)
    ·rw [if_neg c8] at H
     have c8b0 : decide ((wrap64 ((wrap64 (s0_1 + 1)) - 1)) < (s0_0.length : Int)) = false := decide_eq_false c8
     clear c8
     by_cases c13 : (s0_0.length : Int) = 0
     ·rw [if_pos c13] at H
      exact absurd H (by simp)
     ·rw [if_neg c13] at H
      have c13b0 : ((s0_0.length : Int) == 0) = false := beq_eq_false_iff_ne.mpr c13
      have c13b1 : ((s0_0.length : Int) != 0) = true := bne_iff_ne.mpr c13
      have c13b2 : ¬ (s0_0 = []) := fun h_ => c13 (by rw [h_]; rfl)
      obtain ⟨ji14, hji14⟩ : ∃ j_ : Int, (Int.tmod (wrap64 ((wrap64 (s0_1 + 1)) - 1)) (s0_0.length : Int)) = j_ := ⟨_, rfl⟩
      (first | rw [hji14] at H | simp only [hji14] at H)
      by_cases c15 : 0 ≤ (ji14)
      ·rw [if_pos c15] at H
       have c15b0 : decide (0 ≤ (ji14)) = true := decide_eq_true c15
       clear c15
       by_cases c16 : (ji14) < (s0_0.length : Int)
       ·rw [if_pos c16] at H
        have c16b0 : decide ((ji14) < (s0_0.length : Int)) = true := decide_eq_true c16
        clear c16
        obtain ⟨ji17, hji17⟩ : ∃ j_ : Int, (Int.tmod (wrap64 ((wrap64 ((wrap64 ((wrap64 (s0_1 + 1)) - 1)) * 7)) + 3)) (s0_0.length : Int)) = j_ := ⟨_, rfl⟩
        (first | rw [hji17] at H | simp only [hji17] at H)
        by_cases c18 : 0 ≤ (ji17)
        ·rw [if_pos c18] at H
         have c18b0 : decide (0 ≤ (ji17)) = true := decide_eq_true c18
         clear c18
         by_cases c19 : (ji17) < (s0_0.length : Int)
         ·rw [if_pos c19] at H
          have c19b0 : decide ((ji17) < (s0_0.length : Int)) = true := decide_eq_true c19
          clear c19
          by_cases c20 : a1 = 0
          ·rw [if_pos c20] at H
           exact absurd H (by simp)
          ·rw [if_neg c20] at H
           have c20b0 : (a1 == 0) = false := beq_eq_false_iff_ne.mpr c20
           have c20b1 : (a1 != 0) = true := bne_iff_ne.mpr c20
           simp only [Option.some.injEq, Prod.mk.injEq] at H
           obtain ⟨rfl, rfl⟩ := H
           obtain ⟨ASz21_0, cSz21_0, HGz21, hgz21, HSz21_0⟩ := HI0.out
           have hcz21_0 := cellS102_0 HGz21
           have hcz21_1 := cellS102_1 HGz21
           have hfz21_1 := blk_frozen HGz21 1; clear HGz21 hgz21
           have p407 : 0 ≤ ((ji14) : Int) := of_decide_eq_true (by first | (with_reducible assumption) | assumption)
           have q407 : (ji14) < (s0_0.length : Int) := of_decide_eq_true (by first | (with_reducible assumption) | assumption)
           obtain ⟨ad407, e407, hx407_0⟩ := Kd.at_int HSz21_0 (ji14) p407 q407
           cases e407
           replace hx407_0 := pw_cell_below HB.out hx407_0
           replace p407 := eq_true p407
           replace q407 := eq_true q407
           have p408 : 0 ≤ ((ji17) : Int) := of_decide_eq_true (by first | (with_reducible assumption) | assumption)
           have q408 : (ji17) < (s0_0.length : Int) := of_decide_eq_true (by first | (with_reducible assumption) | assumption)
           obtain ⟨ad408, e408, hx408_0⟩ := Kd.at_int HSz21_0 (ji17) p408 q408
           obtain rfl : ad407 = ad408 := (by injection e408)
           replace hx408_0 := pw_cell_below HB.out hx408_0
           replace p408 := eq_true p408
           replace q408 := eq_true q408
           go_wp2
           repeat (go_quiet (fail); try go_wp2)
           go_ret
           exact ⟨by first | rfl | (simp [errW_none, errW_some] <;> rfl) | (simp only [← hji14, ← hji17]; first | rfl | (simp [errW_none, errW_some] <;> rfl)) | (simp [*, errW_none, errW_some] <;> rfl), is102_ HI0.out, hb102_ HB.out, hkA_ HK.out⟩
         ·rw [if_neg c19] at H
          exact absurd H (by simp)
        ·rw [if_neg c18] at H
         exact absurd H (by simp)
       ·rw [if_neg c16] at H
        exact absurd H (by simp)
      ·rw [if_neg c15] at H
       exact absurd H (by simp)
def spec_l20Rd_bytes.l0 : Nat → Int → List Int → List Int → Int → Option (List Int × Int)
 | 0, _, _, _, _ => none
 | k + 1, x1, x5, x1000, x1001 => if x1 > 0 then ((spec_l20Rd_pick.f k x1000 x1001 3).bind fun bt412 => (if bt412.1 = 0 then ((spec_l20Rd_pick.f k x1000 bt412.2 256).bind fun bt414 => (if x5.length < 140737488355328 then (spec_l20Rd_bytes.l0 k (wrap64 (x1 - 1)) (x5 ++ [(bt414.1) % 256]) x1000 bt414.2) else (none))) else ((spec_l20Rd_pick.f k x1000 bt412.2 3).bind fun bt419 => (if x5.length < 140737488355328 then (spec_l20Rd_bytes.l0 k (wrap64 (x1 - 1)) (x5 ++ [(wrap64 (bt419.1 + 97)) % 256]) x1000 bt419.2) else (none))))) else (some (x5, x1001))
def spec_l20Rd_bytes.f (k : Nat) (s0_0 : List Int) (s0_1 : Int) (a1 : Int) : Option (List Int × Int) := spec_l20Rd_bytes.l0 k a1 (([] : List Int)) s0_0 s0_1
theorem spec_l20Rd_bytes.mono_l : ∀ k, (∀ y0 y1 y2 y3, LeO (spec_l20Rd_bytes.l0 k y0 y1 y2 y3) (spec_l20Rd_bytes.l0 (k + 1) y0 y1 y2 y3))
 | 0 => fun _ _ _ _ r h => by simp [spec_l20Rd_bytes.l0] at h
 | k + 1 => by
  have ih0 := spec_l20Rd_bytes.mono_l k
  ·intro y0 y1 y2 y3
   unfold spec_l20Rd_bytes.l0
   repeat' first | (with_reducible first | apply ih0 | apply spec_l20Rd_pick.mono | exact LeO.refl _ | exact LeO.none _ | refine LeO.ite ?_ ?_ | refine LeO.bind ?_ fun _ => ?_) | apply ih0 | apply spec_l20Rd_pick.mono | exact LeO.none _ | refine LeO.ite ?_ ?_ | refine LeO.bind ?_ fun _ => ?_
theorem spec_l20Rd_bytes.mono : ∀ a0 a1 a2 k, LeO (spec_l20Rd_bytes.f k a0 a1 a2) (spec_l20Rd_bytes.f (k + 1) a0 a1 a2) := by
 intro a0 a1 a2 k
 have ih0 := spec_l20Rd_bytes.mono_l k
 unfold spec_l20Rd_bytes.f
 repeat' first | (with_reducible first | apply ih0 | apply spec_l20Rd_pick.mono | exact LeO.refl _ | exact LeO.none _ | refine LeO.ite ?_ ?_ | refine LeO.bind ?_ fun _ => ?_) | apply ih0 | apply spec_l20Rd_pick.mono | exact LeO.none _ | refine LeO.ite ?_ ?_ | refine LeO.bind ?_ fun _ => ?_
set_option maxHeartbeats 8000000 in
set_option maxRecDepth 100000 in
theorem spec_l20Rd_bytes.calls (k : Nat) (g : Nat) (s0_0 : List Int) (s0_1 : Int) (a1 : Int) (r1 : List Int) (r2 : Int) (w0 w : World) (hI : IsS102 w0 w g s0_0 s0_1) (hB : Below w0.heap.size w0 w) (h : spec_l20Rd_bytes.f k s0_0 s0_1 a1 = some (r1, r2)) :
  Calls Try.prog 79 #[.pointer (some ⟨g, 0, none⟩), .int .i64 a1] w fun e w' => ∃ v0_ : Value, e = .returned (v0_) ∧ Kd.R (Kd.int .u8) 5 w' w.heap.size (fun _ => True) v0_ r1 ∧ IsS102 w0 w' g s0_0 r2 ∧ Below w0.heap.size w0 w' ∧ KeepBut w w' g none := by
 have HI0 := Aside0.mk hI
 have HK := Aside0.mk (KeepBut.refl w g none)
 have HL := Aside0.mk hB.size; clear hI; have HW0 := Aside0.mk hB.size; have HB := Aside0.mk hB; clear hB
 have H : (spec_l20Rd_bytes.l0 k a1 (([] : List Int)) s0_0 s0_1) = some (r1, r2) := h
 clear h
 obtain ⟨y409, hy409⟩ : ∃ y_ : List Int, y_ = (([] : List Int)) := ⟨_, rfl⟩
 (first | replace H := sb_ hy409 H | rw [← hy409] at H)
 have Ny409 := Aside0.mk hy409; clear hy409
 have H' := Aside0.mk H
 clear H
 go_enter Try.func79, Try.ntmps79
 go_wp2_with (first | ((with_reducible refine gate_dst (N := 6) rfl ?_); refine Kd.R_lit (Kd.int .u8) _ 5 ?hg (N := 6) ?hd (xs := ([] : List Int)) (inner := []) (ok := fun _ => True) (okp := fun _ => True) ?hr ?hp (fun _ hk => hk) trivial (Below.refl _ _) (Nat.le_refl _) (by simp) ?_; (case hd => rfl); (case hg => rfl); (case hr => first | (go_simp; done) | (go_simp; rfl)); (case hp => exact (Reps.none _ _)); intro v410 w3 ho4 hb hg_ hnew_; clear hg_ hnew_; (first | rw [← Ny409.out] at ho4 | (simp only [Int.reduceToNat] at ho4; rw [← Ny409.out] at ho4)); have HO411 := Aside0.mk (Kd.R_lower ho4 (keep_size (w := w) (g := g) (row := none) (hkA_ HK.out))); replace HI0 := (ib102_ HI0 hb); replace HK := (kw_ HK hb); replace HB := (bs102_ HB hb); clear hb ho4))
 go_loopg [1, 5] k (fun kq v1 v5 w' => ∃ (x1_1 : Int) (x5_1 : List Int) (x1001_1 : Int), v1 = .int .i64 x1_1 ∧ Aside0 (spec_l20Rd_bytes.l0 kq x1_1 x5_1 s0_0 x1001_1 = some (r1, r2)) ∧ Aside0 (kq ≤ k) ∧ Aside0 (Kd.R (Kd.int .u8) 5 w' w.heap.size (fun _ => True) v5 x5_1) ∧ Aside0 (IsS102 w0 w' g s0_0 x1001_1) ∧ Aside0 (KeepBut w w' g none) ∧ Aside0 (Below w0.heap.size w0 w'))
 case atStart => exact ⟨(a1), (y409), (s0_1), (by first | rfl | (simp; done) | (simp [*]; done)), H', ⟨Nat.le_refl _⟩, ⟨kR_ HO411.out⟩, ⟨is102_ HI0.out⟩, ⟨hkA_ HK.out⟩, ⟨hb102_ HB.out⟩⟩
 case round =>
  clear H'; (try clear p2)
  obtain ⟨x1_1, x5_1, x1001_1, rfl, HA, HK1, HO_5, HI0, HK, HB⟩ := hrel
  cases gk with
  | zero => exact absurd HA.out (by simp [spec_l20Rd_bytes.l0])
  | succ k1 =>
   have H := HA.out; clear HA
   simp only [spec_l20Rd_bytes.l0] at H
   by_cases c5 : x1_1 > 0
   ·rw [if_pos c5] at H
    have c5b0 : decide (0 < x1_1) = true := decide_eq_true c5
    clear c5
    replace H := Option.bind_eq_some_iff.mp H
    obtain ⟨⟨t412, t413⟩, A60, H⟩ := H
    (try dsimp only at H)
    have A6 := Aside0.mk A60; clear A60
    by_cases c7 : t412 = 0
    ·rw [if_pos c7] at H
     have c7b0 : (t412 == 0) = true := beq_iff_eq.mpr c7
     have c7b1 : (t412 != 0) = false := bne_eq_false_iff_eq.mpr c7
     clear c7
     replace H := Option.bind_eq_some_iff.mp H
     obtain ⟨⟨t414, t415⟩, A80, H⟩ := H
     (try dsimp only at H)
     have A8 := Aside0.mk A80; clear A80
     by_cases c9 : x5_1.length < 140737488355328
     ·rw [if_pos c9] at H
      have LMc9 := Aside0.mk c9; clear c9
      obtain ⟨y416, hy416⟩ : ∃ y_ : List Int, y_ = (x5_1 ++ [(t414) % 256]) := ⟨_, rfl⟩
      (first | replace H := sb_ hy416 H | rw [← hy416] at H)
      have Ny416 := Aside0.mk hy416; clear hy416
      have H' := Aside0.mk H
      clear H
      go_wp2_with (first | ((with_reducible refine gate_callee (f := 40) rfl ?_); refine goesL_ (some 12) rfl rfl Try.func40 (by kernel_rfl) rfl #[.pointer (some ⟨g, 0, none⟩), .int .i64 3] rfl ar_ ?_; (with_reducible refine (spec_l20Rd_pick.calls k1 g s0_0 x1001_1 3 t412 t413 w0 _ ?side1 ?side2 A6.out).mono ?_); (case side1 => exact is102_ HI0.out); (case side2 => exact hb102_ HB.out); rintro e w10 ⟨rfl, hi, hb, hk⟩; refine ⟨_, rfl, ?_⟩; replace HO_5 := (rk102_ HI0 HO_5 hk); replace HK := (kk_ HK hk); replace HB := Aside0.mk (hb); replace HI0 := Aside0.mk (hi); (try clear hb); (try clear hb2); (try clear hk); (try clear hi)) | ((with_reducible refine gate_callee (f := 40) rfl ?_); refine goesL_ (some 16) rfl rfl Try.func40 (by kernel_rfl) rfl #[.pointer (some ⟨g, 0, none⟩), .int .i64 256] rfl ar_ ?_; (with_reducible refine (spec_l20Rd_pick.calls k1 g s0_0 t413 256 t414 t415 w0 _ ?side1 ?side2 A8.out).mono ?_); (case side1 => exact is102_ HI0.out); (case side2 => exact hb102_ HB.out); rintro e w11 ⟨rfl, hi, hb, hk⟩; refine ⟨_, rfl, ?_⟩; replace HO_5 := (rk102_ HI0 HO_5 hk); replace HK := (kk_ HK hk); replace HB := Aside0.mk (hb); replace HI0 := Aside0.mk (hi); (try clear hb); (try clear hb2); (try clear hk); (try clear hi)) | ((with_reducible refine gate_builtin (b := .append) (xs := #[.tmp 14, .tmp 18]) rfl ?_); at_builtin; refine Kd.R_append (Kd.int .u8) w.heap.size rfl (.tmp 14) (.tmp 18) 22 5 (.int .u8 0) 1 rfl Try.underlying22 info5 rfl (by decide) (by omega) u5 x5_1 ((t414) % 256) [.int .u8 ((t414) % 256)] (fun _ => True) (fun _ => False) rfl rfl ?aP (fun _ hk => hk.elim) ?aF ?aO (Below.refl _ _) ?aS ?aL ?_; (case aP => exact rfl); (case aF => exact (fun _ _ => trivial)); (case aO => exact (kR_ HO_5.out)); (case aS => exact (keep_size (w := w) (g := g) (row := none) (hkA_ HK.out))); (case aL => have := LMc9.out; omega); intro v417 w12 ho hb hg hat; rw [← Ny416.out] at ho; replace HI0 := Aside0.mk (IsS102.grown (is102_ HI0.out) hg (IsS102.own_ne HI0.out HO_5.out (by decide))); replace HB := Aside0.mk (below_weaken (hb102_ HB.out) HL.out hb); replace HK := Aside0.mk (KeepBut.trans (hkA_ HK.out) (KeepBut.of_grown hg g) (Kd.R_base2 HO_5.out)); have HO418 := Aside0.mk (ho); clear HO_5; clear ho hb hg hat))
      go_roundg k1
      case measure => have := HK1.out; omega
      case rel => exact ⟨(wrap64 (x1_1 - 1)), (y416), (t415), (by first | rfl | (simp; done) | (simp [*]; done)), H', ⟨by have := HK1.out; omega⟩, ⟨kR_ HO418.out⟩, ⟨is102_ HI0.out⟩, ⟨hkA_ HK.out⟩, ⟨hb102_ HB.out⟩⟩
     ·rw [if_neg c9] at H
      exact absurd H (by simp)
    ·rw [if_neg c7] at H
     have c7b0 : (t412 == 0) = false := beq_eq_false_iff_ne.mpr c7
     have c7b1 : (t412 != 0) = true := bne_iff_ne.mpr c7
     replace H := Option.bind_eq_some_iff.mp H
     obtain ⟨⟨t419, t420⟩, A130, H⟩ := H
     (try dsimp only at H)
     have A13 := Aside0.mk A130; clear A130
     by_cases c14 : x5_1.length < 140737488355328
     ·rw [if_pos c14] at H
      have LMc14 := Aside0.mk c14; clear c14
      obtain ⟨y421, hy421⟩ : ∃ y_ : List Int, y_ = (x5_1 ++ [(wrap64 (t419 + 97)) % 256]) := ⟨_, rfl⟩
      (first | replace H := sb_ hy421 H | rw [← hy421] at H)
      have Ny421 := Aside0.mk hy421; clear hy421
      have H' := Aside0.mk H
      clear H
      go_wp2_with (first | ((with_reducible refine gate_callee (f := 40) rfl ?_); refine goesL_ (some 12) rfl rfl Try.func40 (by kernel_rfl) rfl #[.pointer (some ⟨g, 0, none⟩), .int .i64 3] rfl ar_ ?_; (with_reducible refine (spec_l20Rd_pick.calls k1 g s0_0 x1001_1 3 t412 t413 w0 _ ?side1 ?side2 A6.out).mono ?_); (case side1 => exact is102_ HI0.out); (case side2 => exact hb102_ HB.out); rintro e w15 ⟨rfl, hi, hb, hk⟩; refine ⟨_, rfl, ?_⟩; replace HO_5 := (rk102_ HI0 HO_5 hk); replace HK := (kk_ HK hk); replace HB := Aside0.mk (hb); replace HI0 := Aside0.mk (hi); (try clear hb); (try clear hb2); (try clear hk); (try clear hi)) | ((with_reducible refine gate_callee (f := 40) rfl ?_); refine goesL_ (some 22) rfl rfl Try.func40 (by kernel_rfl) rfl #[.pointer (some ⟨g, 0, none⟩), .int .i64 3] rfl ar_ ?_; (with_reducible refine (spec_l20Rd_pick.calls k1 g s0_0 t413 3 t419 t420 w0 _ ?side1 ?side2 A13.out).mono ?_); (case side1 => exact is102_ HI0.out); (case side2 => exact hb102_ HB.out); rintro e w16 ⟨rfl, hi, hb, hk⟩; refine ⟨_, rfl, ?_⟩; replace HO_5 := (rk102_ HI0 HO_5 hk); replace HK := (kk_ HK hk); replace HB := Aside0.mk (hb); replace HI0 := Aside0.mk (hi); (try clear hb); (try clear hb2); (try clear hk); (try clear hi)) | ((with_reducible refine gate_builtin (b := .append) (xs := #[.tmp 20, .tmp 25]) rfl ?_); at_builtin; refine Kd.R_append (Kd.int .u8) w.heap.size rfl (.tmp 20) (.tmp 25) 22 5 (.int .u8 0) 1 rfl Try.underlying22 info5 rfl (by decide) (by omega) u5 x5_1 ((wrap64 (t419 + 97)) % 256) [.int .u8 ((wrap64 (t419 + 97)) % 256)] (fun _ => True) (fun _ => False) rfl rfl ?aP (fun _ hk => hk.elim) ?aF ?aO (Below.refl _ _) ?aS ?aL ?_; (case aP => exact rfl); (case aF => exact (fun _ _ => trivial)); (case aO => exact (kR_ HO_5.out)); (case aS => exact (keep_size (w := w) (g := g) (row := none) (hkA_ HK.out))); (case aL => have := LMc14.out; omega); intro v422 w17 ho hb hg hat; rw [← Ny421.out] at ho; replace HI0 := Aside0.mk (IsS102.grown (is102_ HI0.out) hg (IsS102.own_ne HI0.out HO_5.out (by decide))); replace HB := Aside0.mk (below_weaken (hb102_ HB.out) HL.out hb); replace HK := Aside0.mk (KeepBut.trans (hkA_ HK.out) (KeepBut.of_grown hg g) (Kd.R_base2 HO_5.out)); have HO423 := Aside0.mk (ho); clear HO_5; clear ho hb hg hat))
      go_roundg k1
      case measure => have := HK1.out; omega
      case rel => exact ⟨(wrap64 (x1_1 - 1)), (y421), (t420), (by first | rfl | (simp; done) | (simp [*]; done)), H', ⟨by have := HK1.out; omega⟩, ⟨kR_ HO423.out⟩, ⟨is102_ HI0.out⟩, ⟨hkA_ HK.out⟩, ⟨hb102_ HB.out⟩⟩
     ·rw [if_neg c14] at H
      exact absurd H (by simp)
   ·rw [if_neg c5] at H
    have c5b0 : decide (0 < x1_1) = false := decide_eq_false c5
    clear c5
    simp only [Option.some.injEq, Prod.mk.injEq] at H
    obtain ⟨rfl, rfl⟩ := H
    go_wp2
    go_ret
    exact ⟨_, by first | rfl | (simp [errW_none, errW_some] <;> rfl) | (simp [*, errW_none, errW_some] <;> rfl), kR_ HO_5.out, is102_ HI0.out, hb102_ HB.out, hkA_ HK.out⟩
end Go.Proofs.Ytpbeljcgcdilnaa.PFnSegmentFrom
