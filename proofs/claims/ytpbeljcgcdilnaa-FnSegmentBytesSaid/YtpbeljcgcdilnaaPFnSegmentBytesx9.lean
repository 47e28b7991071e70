/- Printed by wip/xp/xprint.sh out of the translation, for this claim: what each function answers, as a plain function, and that the machine does just that. No condition. -/
import Derived.Test.YtpbeljcgcdilnaaPFnSegmentBytesx0
import Derived.Test.YtpbeljcgcdilnaaPFnSegmentBytesx2
import Derived.Test.YtpbeljcgcdilnaaPFnSegmentBytesx4
import Derived.Test.YtpbeljcgcdilnaaPFnSegmentBytesx5
import Derived.Test.YtpbeljcgcdilnaaPFnSegmentBytesx6
import Derived.Test.YtpbeljcgcdilnaaPFnSegmentBytesx7
import Derived.Test.YtpbeljcgcdilnaaPFnSegmentBytesx8
namespace Go.Proofs.Ytpbeljcgcdilnaa.PFnSegmentBytes
open Go.RowKit Go.Proofs.YtpbeljcgcdilnaaW.PrintWords Go.Proofs.YtpbeljcgcdilnaaW.PrintLast Go.Proofs.YtpbeljcgcdilnaaW.PrintMore
attribute [local go_sem] max2_int min2_int max_two min_two max_three min_three max_four min_four   -- for this text's walks alone
set_option linter.unusedVariables false
set_option linter.unusedSimpArgs false
mutual
def spec_SegmentBytes.j0 : Nat → Int → Int → Bool → Int → Int → Int → Int → Int → Bool → Bool → Bool → Bool → List (S90) → List Int → Option (List Int)
 | 0, _, _, _, _, _, _, _, _, _, _, _, _, _, _ => none
 | k + 1, x1, x2, x21, x430000, x430001, x430002, x430003, x430004, x430005, x430006, x430007, x430008, x430009, x430010 => if x21 = true then (some (([] : List Int))) else ((some (([(x430000) % 256, (x430001) % 256] : List Int) : List Int)).bind fun y436 => ((spec_BytesOf.f k x430002 2).bind fun t439 => (if y436.length + t439.length < 140737488355328 then ((some (y436 ++ t439 : List Int)).bind fun y442 => ((spec_BytesOf.f k x430003 2).bind fun t445 => (if y442.length + t445.length < 140737488355328 then ((some (y442 ++ t445 : List Int)).bind fun y448 => ((spec_l11Marks.f k x430000 x430001 x430002 x430003 x430004 x430005 x430006 x430007 x430008 x430009 x430010).bind fun t451 => ((some (([(x430004) % 256, (t451) % 256, ((x430009.length : Int)) % 256] : List Int) : List Int)).bind fun y452 => (if y448.length + y452.length < 140737488355328 then (spec_SegmentBytes.l0 k x1 x2 (y448 ++ y452) 0 x430000 x430001 x430002 x430003 x430004 x430005 x430006 x430007 x430008 x430009 x430010) else (none))))) else (none)))) else (none))))
def spec_SegmentBytes.l0 : Nat → Int → Int → List Int → Int → Int → Int → Int → Int → Int → Bool → Bool → Bool → Bool → List (S90) → List Int → Option (List Int)
 | 0, _, _, _, _, _, _, _, _, _, _, _, _, _, _, _ => none
 | k + 1, x1, x2, x7, x8, x430000, x430001, x430002, x430003, x430004, x430005, x430006, x430007, x430008, x430009, x430010 => if x8 < (x430009.length : Int) then (if 0 ≤ x8 then ((spec_BytesOf.f k ((rd_T90 x430009 x8).f0) 2).bind fun t459 => (if x7.length + t459.length < 140737488355328 then ((some (x7 ++ t459 : List Int)).bind fun y462 => ((spec_BytesOf.f k ((rd_T90 x430009 x8).f1) 2).bind fun t466 => (if y462.length + t466.length < 140737488355328 then (spec_SegmentBytes.l0 k x1 x2 (y462 ++ t466) (wrap64 (x8 + 1)) x430000 x430001 x430002 x430003 x430004 x430005 x430006 x430007 x430008 x430009 x430010) else (none)))) else (none))) else (none)) else (if x7.length < 140737488355328 then ((some (x7 ++ [((x430010.length : Int)) % 256] : List Int)).bind fun y472 => (if y472.length + x430010.length < 140737488355328 then ((some (y472 ++ x430010 : List Int)).bind fun y475 => ((spec_l9Sum.f k x1 x2 y475).bind fun t478 => ((spec_BytesOf.f k t478 2).bind fun t479 => (if y475.length + t479.length < 140737488355328 then (some (y475 ++ t479)) else (none))))) else (none))) else (none))
end
def spec_SegmentBytes.f (k : Nat) (a0_0 : Int) (a0_1 : Int) (a0_2 : Int) (a0_3 : Int) (a0_4 : Int) (a0_5 : Bool) (a0_6 : Bool) (a0_7 : Bool) (a0_8 : Bool) (l0_9 : List (S90)) (l0_10 : List Int) (a1 : Int) (a2 : Int) : Option (List Int) := (spec_SegmentOk.f k a0_0 a0_1 a0_2 a0_3 a0_4 a0_5 a0_6 a0_7 a0_8 l0_9 l0_10).bind fun t430 => (if t430 = true then ((spec_l1In.f a1 0 65535).bind fun t431 => (if t431 = true then ((spec_l1In.f a2 0 65535).bind fun t432 => (spec_SegmentBytes.j0 k a1 a2 (!t432) a0_0 a0_1 a0_2 a0_3 a0_4 a0_5 a0_6 a0_7 a0_8 l0_9 l0_10)) else (spec_SegmentBytes.j0 k a1 a2 true a0_0 a0_1 a0_2 a0_3 a0_4 a0_5 a0_6 a0_7 a0_8 l0_9 l0_10))) else (spec_SegmentBytes.j0 k a1 a2 true a0_0 a0_1 a0_2 a0_3 a0_4 a0_5 a0_6 a0_7 a0_8 l0_9 l0_10))
theorem spec_SegmentBytes.mono_l : ∀ k, (∀ y0 y1 y2 y3 y4 y5 y6 y7 y8 y9 y10 y11 y12 y13, LeO (spec_SegmentBytes.j0 k y0 y1 y2 y3 y4 y5 y6 y7 y8 y9 y10 y11 y12 y13) (spec_SegmentBytes.j0 (k + 1) y0 y1 y2 y3 y4 y5 y6 y7 y8 y9 y10 y11 y12 y13)) ∧ (∀ y0 y1 y2 y3 y4 y5 y6 y7 y8 y9 y10 y11 y12 y13 y14, LeO (spec_SegmentBytes.l0 k y0 y1 y2 y3 y4 y5 y6 y7 y8 y9 y10 y11 y12 y13 y14) (spec_SegmentBytes.l0 (k + 1) y0 y1 y2 y3 y4 y5 y6 y7 y8 y9 y10 y11 y12 y13 y14))
 | 0 => ⟨fun _ _ _ _ _ _ _ _ _ _ _ _ _ _ r h => by simp [spec_SegmentBytes.j0] at h, fun _ _ _ _ _ _ _ _ _ _ _ _ _ _ _ r h => by simp [spec_SegmentBytes.l0] at h⟩
 | k + 1 => by
  obtain ⟨ih0, ih1⟩ := spec_SegmentBytes.mono_l k
  refine ⟨?_, ?_⟩
  ·intro y0 y1 y2 y3 y4 y5 y6 y7 y8 y9 y10 y11 y12 y13
   unfold spec_SegmentBytes.j0
   repeat' first | (with_reducible first | apply ih0 | apply ih1 | apply spec_BytesOf.mono | apply spec_SegmentOk.mono | apply spec_l11Marks.mono | apply spec_l9Sum.mono | exact LeO.refl _ | exact LeO.none _ | refine LeO.ite ?_ ?_ | refine LeO.bind ?_ fun _ => ?_) | apply ih0 | apply ih1 | apply spec_BytesOf.mono | apply spec_SegmentOk.mono | apply spec_l11Marks.mono | apply spec_l9Sum.mono | exact LeO.none _ | refine LeO.ite ?_ ?_ | refine LeO.bind ?_ fun _ => ?_
  ·intro y0 y1 y2 y3 y4 y5 y6 y7 y8 y9 y10 y11 y12 y13 y14
   unfold spec_SegmentBytes.l0
   repeat' first | (with_reducible first | apply ih0 | apply ih1 | apply spec_BytesOf.mono | apply spec_SegmentOk.mono | apply spec_l11Marks.mono | apply spec_l9Sum.mono | exact LeO.refl _ | exact LeO.none _ | refine LeO.ite ?_ ?_ | refine LeO.bind ?_ fun _ => ?_) | apply ih0 | apply ih1 | apply spec_BytesOf.mono | apply spec_SegmentOk.mono | apply spec_l11Marks.mono | apply spec_l9Sum.mono | exact LeO.none _ | refine LeO.ite ?_ ?_ | refine LeO.bind ?_ fun _ => ?_
theorem spec_SegmentBytes.mono : ∀ a0 a1 a2 a3 a4 a5 a6 a7 a8 a9 a10 a11 a12 k, LeO (spec_SegmentBytes.f k a0 a1 a2 a3 a4 a5 a6 a7 a8 a9 a10 a11 a12) (spec_SegmentBytes.f (k + 1) a0 a1 a2 a3 a4 a5 a6 a7 a8 a9 a10 a11 a12) := by
 intro a0 a1 a2 a3 a4 a5 a6 a7 a8 a9 a10 a11 a12 k
 obtain ⟨ih0, ih1⟩ := spec_SegmentBytes.mono_l k
 unfold spec_SegmentBytes.f
 repeat' first | (with_reducible first | apply ih0 | apply ih1 | apply spec_BytesOf.mono | apply spec_SegmentOk.mono | apply spec_l11Marks.mono | apply spec_l9Sum.mono | exact LeO.refl _ | exact LeO.none _ | refine LeO.ite ?_ ?_ | refine LeO.bind ?_ fun _ => ?_) | apply ih0 | apply ih1 | apply spec_BytesOf.mono | apply spec_SegmentOk.mono | apply spec_l11Marks.mono | apply spec_l9Sum.mono | exact LeO.none _ | refine LeO.ite ?_ ?_ | refine LeO.bind ?_ fun _ => ?_
def spec_SegmentBytes.T3 : Bool × List (List Nat × List Nat) := (true, [([], []), ([0], [0]), ([1], [1]), ([], []), ([3], [3]), ([4], [4]), ([2, 5], [2, 5]), ([], []), ([7], [7]), ([8], [8]), ([6, 9, 9], [6, 9]), ([10, 10, 0, 1, 2, 3, 4, 5, 6, 7, 8, 9, 10], [10])])
def spec_SegmentBytes.B3 : List Nat := [0, 1, 3, 0, 8, 24, 63, 0, 128, 384, 1023, 2047]
theorem spec_SegmentBytes.tab3 : rtab .any (opsOf Try.f38 3) = spec_SegmentBytes.T3 := by kernel_rfl
theorem spec_SegmentBytes.bits3 : waitsOk spec_SegmentBytes.T3.2 spec_SegmentBytes.B3 = true := by kernel_rfl
def spec_SegmentBytes.T4 : Bool × List (List Nat × List Nat) := (true, [([], []), ([], []), ([1], [1]), ([2], [2]), ([0, 3, 3], [0, 3]), ([], []), ([5], [5]), ([6], [6]), ([], []), ([8, 4], [8]), ([9], [9]), ([], []), ([11], [11]), ([12], [12]), ([13], [13]), ([7, 10, 14], [7, 10, 14]), ([4, 15, 9], [4, 15]), ([16, 16, 0, 1, 2, 3, 4, 5, 6, 7, 8, 9, 10, 11, 12, 13, 14, 15, 16], [0, 16])])
def spec_SegmentBytes.B4 : List Nat := [0, 0, 2, 6, 15, 0, 32, 96, 0, 287, 799, 0, 2048, 6144, 14336, 32767, 65535, 131071]
theorem spec_SegmentBytes.tab4 : rtab .any (opsOf Try.f38 4) = spec_SegmentBytes.T4 := by kernel_rfl
theorem spec_SegmentBytes.bits4 : waitsOk spec_SegmentBytes.T4.2 spec_SegmentBytes.B4 = true := by kernel_rfl
def spec_SegmentBytes.T8 : Bool × List (List Nat × List Nat) := (true, [([], []), ([], []), ([1], [1]), ([], []), ([2, 3], [2, 3]), ([4], [4]), ([5], [5]), ([6], [6]), ([0, 7, 7], [0, 7]), ([], []), ([9], [9]), ([], []), ([10, 11], [10, 11]), ([12], [12]), ([13], [13]), ([14, 8], [14]), ([8, 15, 15], [8, 15]), ([16, 16, 0, 1, 2, 3, 4, 5, 6, 7, 8, 9, 10, 11, 12, 13, 14, 15, 16], [0, 16])])
def spec_SegmentBytes.B8 : List Nat := [0, 0, 2, 0, 14, 30, 62, 126, 255, 0, 512, 0, 3584, 7680, 15872, 32767, 65535, 131071]
theorem spec_SegmentBytes.tab8 : rtab .any (opsOf Try.f38 8) = spec_SegmentBytes.T8 := by kernel_rfl
theorem spec_SegmentBytes.bits8 : waitsOk spec_SegmentBytes.T8.2 spec_SegmentBytes.B8 = true := by kernel_rfl
def spec_SegmentBytes.T9 : Bool × List (List Nat × List Nat) := (true, [([], []), ([], []), ([1], [1]), ([2], [2]), ([3], [3]), ([4], [4]), ([0, 5], [0, 5]), ([], []), ([7], [7]), ([6, 8, 6], [6, 8]), ([9, 9, 0, 1, 2, 3, 4, 5, 6, 7, 8, 9], [0, 9])])
def spec_SegmentBytes.B9 : List Nat := [0, 0, 2, 6, 14, 30, 63, 0, 128, 511, 1023]
theorem spec_SegmentBytes.tab9 : rtab .any (opsOf Try.f38 9) = spec_SegmentBytes.T9 := by kernel_rfl
theorem spec_SegmentBytes.bits9 : waitsOk spec_SegmentBytes.T9.2 spec_SegmentBytes.B9 = true := by kernel_rfl
set_option maxHeartbeats 8000000 in
set_option maxRecDepth 100000 in
theorem spec_SegmentBytes.calls (k : Nat) (a0_0 : Int) (a0_1 : Int) (a0_2 : Int) (a0_3 : Int) (a0_4 : Int) (a0_5 : Bool) (a0_6 : Bool) (a0_7 : Bool) (a0_8 : Bool) (A0_9 : Option Addr) (c0_9 : Nat) (l0_9 : List (S90)) (A0_10 : Option Addr) (c0_10 : Nat) (l0_10 : List Int) (a1 : Int) (a2 : Int) (r : List Int) (w : World) (hr0_9 : Kd.C k90 w A0_9 l0_9.length l0_9) (hc0_9 : l0_9.length ≤ c0_9) (hr0_10 : Kd.C (Kd.int .u8) w A0_10 l0_10.length l0_10) (hc0_10 : l0_10.length ≤ c0_10) (h : spec_SegmentBytes.f k a0_0 a0_1 a0_2 a0_3 a0_4 a0_5 a0_6 a0_7 a0_8 l0_9 l0_10 a1 a2 = some r) :
  Calls Try.prog 38 #[.agg #[.int .i64 a0_0, .int .i64 a0_1, .int .i64 a0_2, .int .i64 a0_3, .int .i64 a0_4, .bool a0_5, .bool a0_6, .bool a0_7, .bool a0_8, .slice A0_9 l0_9.length c0_9, .slice A0_10 l0_10.length c0_10], .int .i64 a1, .int .i64 a2] w fun e w' => ∃ v0_ : Value, e = .returned (v0_) ∧ Kd.R (Kd.int .u8) 5 w' w.heap.size (fun _ => True) v0_ r ∧ Below w.heap.size w w' := by
 have hu52 := Try.underlying52; have HR0_9 := Aside0.mk hr0_9; have HC0_9 := Aside0.mk hc0_9; clear hr0_9 hc0_9; have HR0_10 := Aside0.mk hr0_10; have HC0_10 := Aside0.mk hc0_10; clear hr0_10 hc0_10
 have HB := Aside0.mk (Below.refl w.heap.size w)
 have H : ((spec_SegmentOk.f k a0_0 a0_1 a0_2 a0_3 a0_4 a0_5 a0_6 a0_7 a0_8 l0_9 l0_10).bind fun t430 => (if t430 = true then ((spec_l1In.f a1 0 65535).bind fun t431 => (if t431 = true then ((spec_l1In.f a2 0 65535).bind fun t432 => (spec_SegmentBytes.j0 k a1 a2 (!t432) a0_0 a0_1 a0_2 a0_3 a0_4 a0_5 a0_6 a0_7 a0_8 l0_9 l0_10)) else (spec_SegmentBytes.j0 k a1 a2 true a0_0 a0_1 a0_2 a0_3 a0_4 a0_5 a0_6 a0_7 a0_8 l0_9 l0_10))) else (spec_SegmentBytes.j0 k a1 a2 true a0_0 a0_1 a0_2 a0_3 a0_4 a0_5 a0_6 a0_7 a0_8 l0_9 l0_10))) = some r := h
 clear h; have HC4 := Aside0.mk H; clear H
 go_enter Try.func38, Try.ntmps38
 go_upto_region 1 with (first | ((with_reducible refine gate_dst (N := 3) rfl ?_); refine box_ (N := 3) (cs := #[.int .i64 a0_0, .int .i64 a0_1, .int .i64 a0_2, .int .i64 a0_3, .int .i64 a0_4, .bool a0_5, .bool a0_6, .bool a0_7, .bool a0_8, .slice A0_9 l0_9.length c0_9, .slice A0_10 l0_10.length c0_10]) (t := 52) (fun gb429 hg w5 hbox hb => ?_); have BK429 := Aside0.mk (hbox); have GW429 := ge_ hg HB; have GE429 := ge_ hg HB; replace HB := (bs_ HB hb); clear hb hbox hg))
 (try simp only [Act.put, List.setIfInBounds_toArray, List.set_cons_zero, List.set_cons_succ])
 go_cut [21] (fun v21 wc => ∃ (kq : Nat) (x21_3 : Bool), v21 = .bool x21_3 ∧ Aside0 (spec_SegmentBytes.j0 kq a1 a2 x21_3 a0_0 a0_1 a0_2 a0_3 a0_4 a0_5 a0_6 a0_7 a0_8 l0_9 l0_10 = some r) ∧ Aside0 (kq ≤ k) ∧ Aside0 (wc.heap[gb429]? = some (.cells #[.int .i64 a0_0, .int .i64 a0_1, .int .i64 a0_2, .int .i64 a0_3, .int .i64 a0_4, .bool a0_5, .bool a0_6, .bool a0_7, .bool a0_8, (.slice A0_9 l0_9.length c0_9), (.slice A0_10 l0_10.length c0_10)] 52 (0, 0))) ∧ Aside0 (Below w.heap.size w wc))
 case first =>
  have H := HC4.out; clear HC4
  replace H := Option.bind_eq_some_iff.mp H
  obtain ⟨t430, A60, H⟩ := H
  (try dsimp only at H)
  have A6 := Aside0.mk A60; clear A60
  by_cases c7 : t430 = true
  ·subst c7
   rw [if_pos rfl] at H
   replace H := Option.bind_eq_some_iff.mp H
   obtain ⟨t431, A80, H⟩ := H
   (try dsimp only at H)
   have A8 := Aside0.mk A80; clear A80
   by_cases c9 : t431 = true
   ·subst c9
    rw [if_pos rfl] at H
    replace H := Option.bind_eq_some_iff.mp H
    obtain ⟨t432, A100, H⟩ := H
    (try dsimp only at H)
    have A10 := Aside0.mk A100; clear A100
    have H' := Aside0.mk H
    clear H; have Z11 := zz11 BK429
    go_wp2_with (first | ((with_reducible refine gate_callee (f := 59) rfl ?_); refine goesL_ (some 10) rfl rfl Try.func59 (by kernel_rfl) rfl #[.agg #[.int .i64 a0_0, .int .i64 a0_1, .int .i64 a0_2, .int .i64 a0_3, .int .i64 a0_4, .bool a0_5, .bool a0_6, .bool a0_7, .bool a0_8, .slice A0_9 l0_9.length c0_9, .slice A0_10 l0_10.length c0_10]] rfl ar_ ?_; (with_reducible refine (spec_SegmentOk.calls k a0_0 a0_1 a0_2 a0_3 a0_4 a0_5 a0_6 a0_7 a0_8 _ _ l0_9 _ _ l0_10 true _ ?side1 ?side2 ?side3 ?side4 A6.out).mono ?_); (case side1 => exact kC_ (Kd.C_below HR0_9.out HB.out)); (case side2 => exact HC0_9.out); (case side3 => exact kC_ (Kd.C_below HR0_10.out HB.out)); (case side4 => exact HC0_10.out); rintro e w12 ⟨rfl, hb⟩; refine ⟨_, rfl, ?_⟩; replace BK429 := (bbA_ BK429 hb); replace HB := (bs_ HB hb); (try clear hb); (try clear hb2); (try clear hk); (try clear hi)) | (go_at_call 52; (with_reducible refine (spec_l1In.calls a1 0 65535 true _ A8.out).mono ?_); rintro e w' ⟨rfl, ⟨nd, rfl⟩⟩) | (go_at_call 52; (with_reducible refine (spec_l1In.calls a2 0 65535 t432 _ A10.out).mono ?_); rintro e w' ⟨rfl, ⟨nd, rfl⟩⟩))
    go_meet
    case rel => exact ⟨_, (!t432), (by first | rfl | (simp; done) | (simp [*]; done)), H', ⟨by first | omega | exact Nat.le_refl _⟩, ⟨by refine kb_ ?_; exact BK429.out⟩, ⟨hbA_ HB.out⟩⟩
   ·replace c9 := Bool.eq_false_iff.mpr c9
    subst c9
    rw [if_neg (show ¬ (false = true) by decide)] at H
    have H' := Aside0.mk H
    clear H; have Z13 := zz11 BK429
    go_wp2_with (first | ((with_reducible refine gate_callee (f := 59) rfl ?_); refine goesL_ (some 10) rfl rfl Try.func59 (by kernel_rfl) rfl #[.agg #[.int .i64 a0_0, .int .i64 a0_1, .int .i64 a0_2, .int .i64 a0_3, .int .i64 a0_4, .bool a0_5, .bool a0_6, .bool a0_7, .bool a0_8, .slice A0_9 l0_9.length c0_9, .slice A0_10 l0_10.length c0_10]] rfl ar_ ?_; (with_reducible refine (spec_SegmentOk.calls k a0_0 a0_1 a0_2 a0_3 a0_4 a0_5 a0_6 a0_7 a0_8 _ _ l0_9 _ _ l0_10 true _ ?side1 ?side2 ?side3 ?side4 A6.out).mono ?_); (case side1 => exact kC_ (Kd.C_below HR0_9.out HB.out)); (case side2 => exact HC0_9.out); (case side3 => exact kC_ (Kd.C_below HR0_10.out HB.out)); (case side4 => exact HC0_10.out); rintro e w14 ⟨rfl, hb⟩; refine ⟨_, rfl, ?_⟩; replace BK429 := (bbA_ BK429 hb); replace HB := (bs_ HB hb); (try clear hb); (try clear hb2); (try clear hk); (try clear hi)) | (go_at_call 52; (with_reducible refine (spec_l1In.calls a1 0 65535 false _ A8.out).mono ?_); rintro e w' ⟨rfl, ⟨nd, rfl⟩⟩))
    go_meet
    case rel => exact ⟨_, (true), (by first | rfl | (simp; done) | (simp [*]; done)), H', ⟨by first | omega | exact Nat.le_refl _⟩, ⟨by refine kb_ ?_; exact BK429.out⟩, ⟨hbA_ HB.out⟩⟩
  ·replace c7 := Bool.eq_false_iff.mpr c7
   subst c7
   rw [if_neg (show ¬ (false = true) by decide)] at H
   have H' := Aside0.mk H
   clear H; have Z15 := zz11 BK429
   go_wp2_with (first | ((with_reducible refine gate_callee (f := 59) rfl ?_); refine goesL_ (some 10) rfl rfl Try.func59 (by kernel_rfl) rfl #[.agg #[.int .i64 a0_0, .int .i64 a0_1, .int .i64 a0_2, .int .i64 a0_3, .int .i64 a0_4, .bool a0_5, .bool a0_6, .bool a0_7, .bool a0_8, .slice A0_9 l0_9.length c0_9, .slice A0_10 l0_10.length c0_10]] rfl ar_ ?_; (with_reducible refine (spec_SegmentOk.calls k a0_0 a0_1 a0_2 a0_3 a0_4 a0_5 a0_6 a0_7 a0_8 _ _ l0_9 _ _ l0_10 false _ ?side1 ?side2 ?side3 ?side4 A6.out).mono ?_); (case side1 => exact kC_ (Kd.C_below HR0_9.out HB.out)); (case side2 => exact HC0_9.out); (case side3 => exact kC_ (Kd.C_below HR0_10.out HB.out)); (case side4 => exact HC0_10.out); rintro e w16 ⟨rfl, hb⟩; refine ⟨_, rfl, ?_⟩; replace BK429 := (bbA_ BK429 hb); replace HB := (bs_ HB hb); (try clear hb); (try clear hb2); (try clear hk); (try clear hi)))
   go_meet
   case rel => exact ⟨_, (true), (by first | rfl | (simp; done) | (simp [*]; done)), H', ⟨by first | omega | exact Nat.le_refl _⟩, ⟨by refine kb_ ?_; exact BK429.out⟩, ⟨hbA_ HB.out⟩⟩
 case rest =>
  clear HC4; (try clear p2); (try clear c3); (try clear c5); (try clear c7); (try clear c9); (try clear Z11); (try clear Z13); (try clear Z15)
  obtain ⟨kq, x21_3, rfl, HA, HJ3, BK429, HB⟩ := hcut
  cases kq with
  | zero => exact absurd HA.out (by simp [spec_SegmentBytes.j0])
  | succ kj3 =>
   have H := HA.out; clear HA
   simp only [spec_SegmentBytes.j0] at H
   by_cases c17 : x21_3 = true
   ·subst c17
    rw [if_pos rfl] at H
    obtain ⟨y433, hy433⟩ : ∃ y_ : List Int, y_ = (([] : List Int)) := ⟨_, rfl⟩
    (first | replace H := sb_ hy433 H | rw [← hy433] at H)
    have Ny433 := Aside0.mk hy433; clear hy433
    obtain rfl := Option.some.inj H
    go_wp2_with (first | ((with_reducible refine gate_dst (N := 22) rfl ?_); refine Kd.R_lit (Kd.int .u8) _ 5 ?hg (N := 22) ?hd (xs := ([] : List Int)) (inner := []) (ok := fun _ => True) (okp := fun _ => True) ?hr ?hp (fun _ hk => hk) trivial (Below.refl _ _) (Nat.le_refl _) (by simp) ?_; (case hd => rfl); (case hg => rfl); (case hr => first | (go_simp; done) | (go_simp; rfl)); (case hp => exact (Reps.none _ _)); intro v434 w18 ho19 hb hg_ hnew_; clear hg_ hnew_; (first | rw [← Ny433.out] at ho19 | (simp only [Int.reduceToNat] at ho19; rw [← Ny433.out] at ho19)); have HO435 := Aside0.mk (Kd.R_lower ho19 (below_size (hbA_ HB.out))); replace BK429 := (bbA_ BK429 hb); replace HB := (bs_ HB hb); clear hb ho19))
    go_ret
    exact ⟨_, by first | rfl | (simp [errW_none, errW_some] <;> rfl) | (simp [*, errW_none, errW_some] <;> rfl), kR_ HO435.out, hbA_ HB.out⟩
   ·replace c17 := Bool.eq_false_iff.mpr c17
    subst c17
    rw [if_neg (show ¬ (false = true) by decide)] at H
    obtain ⟨y436, hy436⟩ : ∃ y_ : List Int, y_ = (([(a0_0) % 256, (a0_1) % 256] : List Int)) := ⟨_, rfl⟩
    (first | replace H := sb_ hy436 H | rw [← hy436] at H)
    have Ny436 := Aside0.mk hy436; clear hy436
    replace H := Option.bind_eq_some_iff.mp H
    obtain ⟨t439, A200, H⟩ := H
    (try dsimp only at H)
    have A20 := Aside0.mk A200; clear A200
    by_cases c21 : y436.length + t439.length < 140737488355328
    ·rw [if_pos c21] at H
     have LMc21 := Aside0.mk c21; clear c21
     obtain ⟨y442, hy442⟩ : ∃ y_ : List Int, y_ = (y436 ++ t439) := ⟨_, rfl⟩
     (first | replace H := sb_ hy442 H | rw [← hy442] at H)
     have Ny442 := Aside0.mk hy442; clear hy442
     replace H := Option.bind_eq_some_iff.mp H
     obtain ⟨t445, A220, H⟩ := H
     (try dsimp only at H)
     have A22 := Aside0.mk A220; clear A220
     by_cases c23 : y442.length + t445.length < 140737488355328
     ·rw [if_pos c23] at H
      have LMc23 := Aside0.mk c23; clear c23
      obtain ⟨y448, hy448⟩ : ∃ y_ : List Int, y_ = (y442 ++ t445) := ⟨_, rfl⟩
      (first | replace H := sb_ hy448 H | rw [← hy448] at H)
      have Ny448 := Aside0.mk hy448; clear hy448
      replace H := Option.bind_eq_some_iff.mp H
      obtain ⟨t451, A240, H⟩ := H
      (try dsimp only at H)
      have A24 := Aside0.mk A240; clear A240
      obtain ⟨y452, hy452⟩ : ∃ y_ : List Int, y_ = (([(a0_4) % 256, (t451) % 256, ((l0_9.length : Int)) % 256] : List Int)) := ⟨_, rfl⟩
      (first | replace H := sb_ hy452 H | rw [← hy452] at H)
      have Ny452 := Aside0.mk hy452; clear hy452
      by_cases c25 : y448.length + y452.length < 140737488355328
      ·rw [if_pos c25] at H
       have LMc25 := Aside0.mk c25; clear c25
       obtain ⟨y455, hy455⟩ : ∃ y_ : List Int, y_ = (y448 ++ y452) := ⟨_, rfl⟩
       (first | replace H := sb_ hy455 H | rw [← hy455] at H)
       have Ny455 := Aside0.mk hy455; clear hy455
       have H' := Aside0.mk H
       clear H
       try go_wp2
       replace BK429 := Aside0.mk (blk_drew BK429.out); replace HB := (bd_ HB)
       refine start_ (n := 12) (S := fun w' => w'.cell? ⟨gb429, 0, none⟩ = some (.int .i64 a0_0) ∧ w'.cell? ⟨gb429, 1, none⟩ = some (.int .i64 a0_1) ∧ w'.cell? ⟨gb429, 2, none⟩ = some (.int .i64 a0_2) ∧ w'.cell? ⟨gb429, 3, none⟩ = some (.int .i64 a0_3) ∧ w'.cell? ⟨gb429, 4, none⟩ = some (.int .i64 a0_4) ∧ w'.cell? ⟨gb429, 5, none⟩ = some (.bool a0_5) ∧ w'.cell? ⟨gb429, 6, none⟩ = some (.bool a0_6) ∧ w'.cell? ⟨gb429, 7, none⟩ = some (.bool a0_7) ∧ w'.cell? ⟨gb429, 8, none⟩ = some (.bool a0_8) ∧ w'.cell? ⟨gb429, 9, none⟩ = some (.slice A0_9 l0_9.length c0_9) ∧ w'.cell? ⟨gb429, 10, none⟩ = some (.slice A0_10 l0_10.length c0_10)) (ds := []) #[false, false, false, false, false, false, false, false, false, false, false, false] (by kernel_rfl) rfl rfl (cz11 BK429.out) (fun hHeld => ?_); refine with_tabW spec_SegmentBytes.tab3 spec_SegmentBytes.bits3 (fun HT_ HW_ => ?_)
       generalize wc.drew = w26 at BK429 HB hHeld ⊢
       refine pu_ (i := 0) (N := some 23) HT_ ?_; refine pu_ (i := 3) (N := some 26) HT_ ?_; refine pu_ (i := 7) (N := some 30) HT_ ?_; refine tk_ (i := 1) (N := some 24) HT_ HW_ hHeld ?_; refine pu_ (i := 2) (N := some 25) HT_ ?_; refine tk_ (i := 4) (N := some 27) HT_ HW_ hHeld ?_; refine pu_ (i := 5) (N := some 28) HT_ ?_; refine tk_ (i := 8) (N := some 31) HT_ HW_ hHeld ?_
       refine join_ (σ := Value × Value) 2 #[true, true, true, true, true, true, true, true, true, true, false, false] (fun s_ => [(29, s_.1), (32, s_.2)]) (fun s_ w' => (w'.cell? ⟨gb429, 0, none⟩ = some (.int .i64 a0_0) ∧ w'.cell? ⟨gb429, 1, none⟩ = some (.int .i64 a0_1) ∧ w'.cell? ⟨gb429, 2, none⟩ = some (.int .i64 a0_2) ∧ w'.cell? ⟨gb429, 3, none⟩ = some (.int .i64 a0_3) ∧ w'.cell? ⟨gb429, 4, none⟩ = some (.int .i64 a0_4) ∧ w'.cell? ⟨gb429, 5, none⟩ = some (.bool a0_5) ∧ w'.cell? ⟨gb429, 6, none⟩ = some (.bool a0_6) ∧ w'.cell? ⟨gb429, 7, none⟩ = some (.bool a0_7) ∧ w'.cell? ⟨gb429, 8, none⟩ = some (.bool a0_8) ∧ w'.cell? ⟨gb429, 9, none⟩ = some (.slice A0_9 l0_9.length c0_9) ∧ w'.cell? ⟨gb429, 10, none⟩ = some (.slice A0_10 l0_10.length c0_10)) ∧ (Kd.R (Kd.int .u8) 5 w' w.heap.size (fun k_ => some k_ ≠ (s_.2 : Value).ownBlock) s_.1 y436) ∧ (Kd.R (Kd.int .u8) 5 w' w.heap.size (fun k_ => some k_ ≠ (s_.1 : Value).ownBlock) s_.2 t439) ∧ (w'.heap[gb429]? = some (.cells #[.int .i64 a0_0, .int .i64 a0_1, .int .i64 a0_2, .int .i64 a0_3, .int .i64 a0_4, .bool a0_5, .bool a0_6, .bool a0_7, .bool a0_8, .slice A0_9 l0_9.length c0_9, .slice A0_10 l0_10.length c0_10] 52 (0, 0))) ∧ (Below w.heap.size w w')) ?_ ?_
       rotate_left
       ·intro hCont
        refine two_ (i := 6) (j := 9) (Ni := some 29) (Nj := some 32) #[true, true, true, true, true, true, true, true, true, false, false, false] #[true, true, true, true, true, true, false, true, true, true, false, false] rfl rfl rfl rfl (two_of HT_.out (by kernel_rfl)) (by decide) (by decide) (fun K hK => ?_) (fun K hK => ?_)
        ·skip
         refine Kd.R_lit_step (Kd.int .u8) _ 5 ?hg (N := 29) ?hd (xs := ([(a0_0) % 256, (a0_1) % 256] : List Int)) (inner := [.int .u8 ((a0_0) % 256), .int .u8 ((a0_1) % 256)]) (ok := fun _ => True) (okp := fun _ => True) ?hr ?hp (fun _ hk => hk) trivial (Below.refl _ _) (Nat.le_refl _) (by simp) ?_; (case hd => rfl); (case hg => rfl); (case hr => first | (go_simp; done) | (go_simp; rfl)); (case hp => exact (Reps.one (show Kd.M (Kd.int .u8) _ _ _ ((a0_0) % 256) [.int .u8 ((a0_0) % 256)] from rfl) (Reps.one (show Kd.M (Kd.int .u8) _ _ _ ((a0_1) % 256) [.int .u8 ((a0_1) % 256)] from rfl) (Reps.none _ _))))
         intro v437 w27 ho28 hb hg_ hnew_
         clear hg_ hnew_
         (first | rw [← Ny436.out] at ho28 | (simp only [Int.reduceToNat] at ho28; rw [← Ny436.out] at ho28))
         have n0_ := Aside0.mk (Kd.R_lower ho28 (below_size (hbA_ HB.out))); have n1_ := (bbA_ BK429 hb); have n2_ := (bs_ HB hb); clear BK429 HB; have HO438 := n0_; have BK429 := n1_; have HB := n2_; clear n0_ n1_ n2_ hb ho28
         refine hK.out _ _ (cz11 BK429.out) (fun hHeld => ?_)
         clear hK K; refine nm_ 29 ?_
         refine on_ (i := 9) (N := some 32) HT_ (fun K hK => ?_)
         refine goes_ Try.func75 (by kernel_rfl) rfl #[.int .i64 a0_2, .int .i64 2] (by rfl) rfl rfl ar_ ?_
         with_reducible refine (spec_BytesOf.calls kj3 a0_2 2 t439 _ A20.out).mono ?_
         rintro e w29 ⟨v440, rfl, ho0, hb⟩
         refine ⟨_, rfl, ?_⟩
         have HO441 := Aside0.mk (Kd.R_lower (Kd.R_new' ho0 (Kd.R_lt (kR_ HO438.out))) (below_size (hbA_ HB.out))); replace HO438 := Aside0.mk (Kd.R_elder' (kR_ HO438.out) (Kd.R_base ho0) hb); replace BK429 := (bbA_ BK429 hb); replace HB := (bs_ HB hb); (try clear hb); (try clear hb2); (try clear hk); (try clear hi); (try clear ho0)
         refine hK.out _ _ (cz11 BK429.out) (fun hHeld => ?_)
         clear hK K; refine nm_ 32 ?_
         exact norm_ (by simp only [putAll, Act.put, List.setIfInBounds_toArray, List.set_cons_zero, List.set_cons_succ]) (hCont (v437, v440) _ ⟨hHeld, (by refine kR_ ?_; first | exact Kd.R_mono HO438.out (fun _ hk => hk.2) | exact Kd.R_mono HO438.out (fun _ _ => trivial)), (by refine kR_ ?_; first | exact Kd.R_mono HO441.out (fun _ hk => hk.2) | exact Kd.R_mono HO441.out (fun _ _ => trivial)), (kb_ BK429.out), (hbA_ HB.out)⟩)
        ·skip
         refine goes_ Try.func75 (by kernel_rfl) rfl #[.int .i64 a0_2, .int .i64 2] (by rfl) rfl rfl ar_ ?_
         with_reducible refine (spec_BytesOf.calls kj3 a0_2 2 t439 _ A20.out).mono ?_
         rintro e w27 ⟨v440, rfl, ho0, hb⟩
         refine ⟨_, rfl, ?_⟩
         have HO441 := Aside0.mk (Kd.R_lower ho0 (below_size (hbA_ HB.out))); replace BK429 := (bbA_ BK429 hb); replace HB := (bs_ HB hb); (try clear hb); (try clear hb2); (try clear hk); (try clear hi); (try clear ho0)
         refine hK.out _ _ (cz11 BK429.out) (fun hHeld => ?_)
         clear hK K; refine nm_ 32 ?_
         refine on_ (i := 6) (N := some 29) HT_ (fun K hK => ?_)
         refine Kd.R_lit_step (Kd.int .u8) _ 5 ?hg (N := 29) ?hd (xs := ([(a0_0) % 256, (a0_1) % 256] : List Int)) (inner := [.int .u8 ((a0_0) % 256), .int .u8 ((a0_1) % 256)]) (ok := fun _ => True) (okp := fun _ => True) ?hr ?hp (fun _ hk => hk) trivial (Below.refl _ _) (Nat.le_refl _) (by simp) ?_; (case hd => rfl); (case hg => rfl); (case hr => first | (go_simp; done) | (go_simp; rfl)); (case hp => exact (Reps.one (show Kd.M (Kd.int .u8) _ _ _ ((a0_0) % 256) [.int .u8 ((a0_0) % 256)] from rfl) (Reps.one (show Kd.M (Kd.int .u8) _ _ _ ((a0_1) % 256) [.int .u8 ((a0_1) % 256)] from rfl) (Reps.none _ _))))
         intro v437 w28 ho29 hb hg_ hnew_
         clear hg_ hnew_
         (first | rw [← Ny436.out] at ho29 | (simp only [Int.reduceToNat] at ho29; rw [← Ny436.out] at ho29))
         have n0_ := Aside0.mk (Kd.R_elder' (kR_ HO441.out) (Kd.R_base ho29) hb); have n1_ := Aside0.mk (Kd.R_lower (Kd.R_new' ho29 (Kd.R_lt (kR_ HO441.out))) (below_size (hbA_ HB.out))); have n2_ := (bbA_ BK429 hb); have n3_ := (bs_ HB hb); clear HO441 BK429 HB; have HO441 := n0_; have HO438 := n1_; have BK429 := n2_; have HB := n3_; clear n0_ n1_ n2_ n3_ hb ho29
         refine hK.out _ _ (cz11 BK429.out) (fun hHeld => ?_)
         clear hK K; refine nm_ 29 ?_
         exact norm_ (by simp only [putAll, Act.put, List.setIfInBounds_toArray, List.set_cons_zero, List.set_cons_succ]) (hCont (v437, v440) _ ⟨hHeld, (by refine kR_ ?_; first | exact Kd.R_mono HO438.out (fun _ hk => hk.2) | exact Kd.R_mono HO438.out (fun _ _ => trivial)), (by refine kR_ ?_; first | exact Kd.R_mono HO441.out (fun _ hk => hk.2) | exact Kd.R_mono HO441.out (fun _ _ => trivial)), (kb_ BK429.out), (hbA_ HB.out)⟩)
       rintro ⟨v437, v440⟩ w30 ⟨hS_, h0_, h1_, h2_, h3_⟩
       have n0_ : Aside0 (Kd.R (Kd.int .u8) 5 w30 w.heap.size (fun k_ => some k_ ≠ (v440 : Value).ownBlock) v437 y436) := ⟨h0_⟩
       have n1_ : Aside0 (Kd.R (Kd.int .u8) 5 w30 w.heap.size (fun k_ => some k_ ≠ (v437 : Value).ownBlock) v440 t439) := ⟨h1_⟩
       have n2_ : Aside0 (w30.heap[gb429]? = some (.cells #[.int .i64 a0_0, .int .i64 a0_1, .int .i64 a0_2, .int .i64 a0_3, .int .i64 a0_4, .bool a0_5, .bool a0_6, .bool a0_7, .bool a0_8, .slice A0_9 l0_9.length c0_9, .slice A0_10 l0_10.length c0_10] 52 (0, 0))) := ⟨h2_⟩
       have n3_ : Aside0 (Below w.heap.size w w30) := ⟨h3_⟩
       clear BK429 HB h0_ h1_ h2_ h3_; have HO438 := n0_; have HO441 := n1_; have BK429 := n2_; have HB := n3_; clear n0_ n1_ n2_ n3_
       have hHeld : w30.cell? ⟨gb429, 0, none⟩ = some (.int .i64 a0_0) ∧ w30.cell? ⟨gb429, 1, none⟩ = some (.int .i64 a0_1) ∧ w30.cell? ⟨gb429, 2, none⟩ = some (.int .i64 a0_2) ∧ w30.cell? ⟨gb429, 3, none⟩ = some (.int .i64 a0_3) ∧ w30.cell? ⟨gb429, 4, none⟩ = some (.int .i64 a0_4) ∧ w30.cell? ⟨gb429, 5, none⟩ = some (.bool a0_5) ∧ w30.cell? ⟨gb429, 6, none⟩ = some (.bool a0_6) ∧ w30.cell? ⟨gb429, 7, none⟩ = some (.bool a0_7) ∧ w30.cell? ⟨gb429, 8, none⟩ = some (.bool a0_8) ∧ w30.cell? ⟨gb429, 9, none⟩ = some (.slice A0_9 l0_9.length c0_9) ∧ w30.cell? ⟨gb429, 10, none⟩ = some (.slice A0_10 l0_10.length c0_10) := hS_
       obtain ⟨Ao32, co32, eo32⟩ := Kd.R_slice HO441.out
       (first | subst eo32 | (injection eo32 with f1_ f2_ f3_; have f4_ := f1_.symm; have f5_ := f3_.symm; clear f1_ f2_ f3_; subst f4_; subst f5_))
       refine norm_ (a' := ?_) ?_ ?_
       rotate_left
       ·simp only [putAll, Act.put, List.setIfInBounds_toArray, List.set_cons_zero, List.set_cons_succ]
        rfl
       refine on_ (i := 10) (N := some 33) HT_ (fun K hK => ?_)
       refine Kd.R_append_rows_step (Kd.int .u8) (w0 := w) w.heap.size (by rfl) (.tmp 29) (.tmp 32) 22 5 (.int .u8 0) 1 rfl Try.underlying22 info5 rfl (by decide) (by omega) v437 y436 t439 _ _ _ (fun k_ => some k_ ≠ (.slice Ao32 t439.length co32 : Value).ownBlock) (fun _ => False) rfl rfl ?aO ?aR (fun _ _ h => h) (fun _ h => h.elim) ?aF ?aB ?aS ?aL ?_
       (case aR => exact kC_ (Kd.R_reads' HO441.out).2.2)
       (case aB => exact (hbA_ HB.out))
       (case aF => exact (fun k_ hk => Kd.fresh' (Kd.R_lt (kR_ HO441.out)) k_ hk))
       (case aO => exact (kR_ HO438.out))
       (case aS => exact (below_size (hbA_ HB.out)))
       (case aL => have := LMc21.out; omega)
       intro v443 w31 ho hb hg hat
       rw [← Ny442.out] at ho
       have n0_ := (bgA_ BK429 hg (Kd.R_ne HO438.out BK429.out (by decide))); have n1_ := Aside0.mk (Kd.R_after (ok := (fun _ => True)) (by refine kR_ ?_; exact Kd.R_mono HO441.out (fun _ hk => ⟨trivial, hk⟩)) hg hat); have n2_ := Aside0.mk (hb); have n3_ := Aside0.mk (ho); clear BK429 HO441 HB HO438; have BK429 := n0_; have HO441 := n1_; have HB := n2_; have HO444 := n3_; clear n0_ n1_ n2_ n3_ ho hb hg hat
       refine hK.out _ _ (cz11 BK429.out) (fun hHeld => ?_)
       clear hK K; refine nm_ 33 ?_; refine pu_ (i := 11) (N := some 7) HT_ ?_
       refine done_ (done_of HT_.out (by kernel_rfl)) ?_
       try go_wp2
       replace HO441 := Aside0.mk (Kd.R_drew HO441.out); replace HO444 := Aside0.mk (Kd.R_drew HO444.out); replace BK429 := Aside0.mk (blk_drew BK429.out); replace HB := (bd_ HB)
       refine start_ (n := 18) (S := fun w' => w'.cell? ⟨gb429, 0, none⟩ = some (.int .i64 a0_0) ∧ w'.cell? ⟨gb429, 1, none⟩ = some (.int .i64 a0_1) ∧ w'.cell? ⟨gb429, 2, none⟩ = some (.int .i64 a0_2) ∧ w'.cell? ⟨gb429, 3, none⟩ = some (.int .i64 a0_3) ∧ w'.cell? ⟨gb429, 4, none⟩ = some (.int .i64 a0_4) ∧ w'.cell? ⟨gb429, 5, none⟩ = some (.bool a0_5) ∧ w'.cell? ⟨gb429, 6, none⟩ = some (.bool a0_6) ∧ w'.cell? ⟨gb429, 7, none⟩ = some (.bool a0_7) ∧ w'.cell? ⟨gb429, 8, none⟩ = some (.bool a0_8) ∧ w'.cell? ⟨gb429, 9, none⟩ = some (.slice A0_9 l0_9.length c0_9) ∧ w'.cell? ⟨gb429, 10, none⟩ = some (.slice A0_10 l0_10.length c0_10)) (ds := []) #[false, false, false, false, false, false, false, false, false, false, false, false, false, false, false, false, false, false] (by kernel_rfl) rfl rfl (cz11 BK429.out) (fun hHeld => ?_); refine with_tabW spec_SegmentBytes.tab4 spec_SegmentBytes.bits4 (fun HT_ HW_ => ?_)
       generalize w31.drew = w33 at HO441 HO444 BK429 HB hHeld ⊢
       refine pu_ (i := 0) (N := some 34) HT_ ?_; refine pu_ (i := 1) (N := some 35) HT_ ?_; refine pu_ (i := 5) (N := some 39) HT_ ?_; refine pu_ (i := 11) (N := some 45) HT_ ?_; refine tk_ (i := 2) (N := some 36) HT_ HW_ hHeld ?_; refine tk_ (i := 6) (N := some 40) HT_ HW_ hHeld ?_; refine pu_ (i := 7) (N := some 41) HT_ ?_; refine tk_ (i := 8) (N := some 42) HT_ HW_ hHeld ?_; refine tk_ (i := 12) (N := some 46) HT_ HW_ hHeld ?_; refine pu_ (i := 13) (N := some 47) HT_ ?_; refine pu_ (i := 14) (N := some 48) HT_ ?_
       refine on_ (i := 3) (N := some 37) HT_ (fun K hK => ?_)
       refine goes_ Try.func75 (by kernel_rfl) rfl #[.int .i64 a0_3, .int .i64 2] (by rfl) rfl rfl ar_ ?_
       with_reducible refine (spec_BytesOf.calls kj3 a0_3 2 t445 _ A22.out).mono ?_
       rintro e w34 ⟨v446, rfl, ho0, hb⟩
       refine ⟨_, rfl, ?_⟩
       have HO447 := Aside0.mk (Kd.R_lower (Kd.R_new' (Kd.R_new' ho0 (Kd.R_lt (kR_ HO441.out))) (Kd.R_lt (kR_ HO444.out))) (below_size (hbA_ HB.out))); replace HO441 := Aside0.mk (Kd.R_elder' (kR_ HO441.out) (Kd.R_base ho0) hb); replace HO444 := Aside0.mk (Kd.R_elder' (kR_ HO444.out) (Kd.R_base ho0) hb); replace BK429 := (bbA_ BK429 hb); replace HB := (bs_ HB hb); (try clear hb); (try clear hb2); (try clear hk); (try clear hi); (try clear ho0)
       obtain ⟨Ao36, co36, eo36⟩ := Kd.R_slice HO447.out
       (first | subst eo36 | (injection eo36 with f1_ f2_ f3_; have f4_ := f1_.symm; have f5_ := f3_.symm; clear f1_ f2_ f3_; subst f4_; subst f5_))
       refine hK.out _ _ (cz11 BK429.out) (fun hHeld => ?_)
       clear hK K; refine nm_ 37 ?_
       refine on_ (i := 4) (N := some 38) HT_ (fun K hK => ?_)
       refine Kd.R_append_rows_step (Kd.int .u8) (w0 := w) w.heap.size (by rfl) (.tmp 34) (.tmp 37) 22 5 (.int .u8 0) 1 rfl Try.underlying22 info5 rfl (by decide) (by omega) v443 y442 t445 _ _ _ (fun k_ => some k_ ≠ (.slice Ao32 t439.length co32 : Value).ownBlock ∧ some k_ ≠ (.slice Ao36 t445.length co36 : Value).ownBlock) (fun _ => False) rfl rfl ?aO ?aR (fun _ _ h => h) (fun _ h => h.elim) ?aF ?aB ?aS ?aL ?_
       (case aR => exact kC_ (Kd.R_reads' HO447.out).2.2)
       (case aB => exact (hbA_ HB.out))
       (case aF => exact (fun k_ hk => ⟨Kd.fresh' (Kd.R_lt (kR_ HO441.out)) k_ hk, Kd.fresh' (Kd.R_lt (kR_ HO447.out)) k_ hk⟩))
       (case aO => exact (kR_ HO444.out))
       (case aS => exact (below_size (hbA_ HB.out)))
       (case aL => have := LMc23.out; omega)
       intro v449 w35 ho hb hg hat
       rw [← Ny448.out] at ho
       have n0_ := (bgA_ BK429 hg (Kd.R_ne HO444.out BK429.out (by decide))); have n1_ := Aside0.mk (Kd.R_after (ok := (fun k_ => some k_ ≠ (.slice Ao36 t445.length co36 : Value).ownBlock)) (by refine kR_ ?_; exact Kd.R_mono HO441.out (fun _ hk => op2_ hk)) hg hat); have n2_ := Aside0.mk (Kd.R_after (ok := (fun k_ => some k_ ≠ (.slice Ao32 t439.length co32 : Value).ownBlock)) (by refine kR_ ?_; exact Kd.R_mono HO447.out (fun _ hk => op2_ hk)) hg hat); have n3_ := Aside0.mk (hb); have n4_ := Aside0.mk (ho); clear BK429 HO441 HO447 HB HO444; have BK429 := n0_; have HO441 := n1_; have HO447 := n2_; have HB := n3_; have HO450 := n4_; clear n0_ n1_ n2_ n3_ n4_ ho hb hg hat
       refine hK.out _ _ (cz11 BK429.out) (fun hHeld => ?_)
       clear hK K; refine nm_ 38 ?_
       refine on_ (i := 9) (N := some 43) HT_ (fun K hK => ?_)
       refine goes_ Try.func76 (by kernel_rfl) rfl #[.agg #[.int .i64 a0_0, .int .i64 a0_1, .int .i64 a0_2, .int .i64 a0_3, .int .i64 a0_4, .bool a0_5, .bool a0_6, .bool a0_7, .bool a0_8, .slice A0_9 l0_9.length c0_9, .slice A0_10 l0_10.length c0_10]] (by rfl) rfl rfl ar_ ?_
       with_reducible refine (spec_l11Marks.calls kj3 a0_0 a0_1 a0_2 a0_3 a0_4 a0_5 a0_6 a0_7 a0_8 _ _ l0_9 _ _ l0_10 t451 _ ?side1 ?side2 ?side3 ?side4 A24.out).mono ?_
       (case side1 => exact kC_ (Kd.C_below HR0_9.out HB.out))
       (case side2 => exact HC0_9.out)
       (case side3 => exact kC_ (Kd.C_below HR0_10.out HB.out))
       (case side4 => exact HC0_10.out)
       rintro e w37 ⟨rfl, hb⟩
       refine ⟨_, rfl, ?_⟩
       replace HO441 := Aside0.mk (Kd.R_below (kR_ HO441.out) hb); replace HO447 := Aside0.mk (Kd.R_below (kR_ HO447.out) hb); replace HO450 := Aside0.mk (Kd.R_below (kR_ HO450.out) hb); replace BK429 := (bbA_ BK429 hb); replace HB := (bs_ HB hb); (try clear hb); (try clear hb2); (try clear hk); (try clear hi)
       refine hK.out _ _ (cz11 BK429.out) (fun hHeld => ?_)
       clear hK K; refine nm_ 43 ?_; refine pu_ (i := 10) (N := some 44) HT_ ?_
       refine on_ (i := 15) (N := some 49) HT_ (fun K hK => ?_)
       refine Kd.R_lit_step (Kd.int .u8) _ 5 ?hg (N := 49) ?hd (xs := ([(a0_4) % 256, (t451) % 256, ((l0_9.length : Int)) % 256] : List Int)) (inner := [.int .u8 ((a0_4) % 256), .int .u8 ((t451) % 256), .int .u8 (((l0_9.length : Int)) % 256)]) (ok := fun _ => True) (okp := fun _ => True) ?hr ?hp (fun _ hk => hk) trivial (Below.refl _ _) (Nat.le_refl _) (by simp) ?_; (case hd => rfl); (case hg => rfl); (case hr => first | (go_simp; done) | (go_simp; rfl)); (case hp => exact (Reps.one (show Kd.M (Kd.int .u8) _ _ _ ((a0_4) % 256) [.int .u8 ((a0_4) % 256)] from rfl) (Reps.one (show Kd.M (Kd.int .u8) _ _ _ ((t451) % 256) [.int .u8 ((t451) % 256)] from rfl) (Reps.one (show Kd.M (Kd.int .u8) _ _ _ (((l0_9.length : Int)) % 256) [.int .u8 (((l0_9.length : Int)) % 256)] from rfl) (Reps.none _ _)))))
       intro v453 w38 ho39 hb hg_ hnew_
       clear hg_ hnew_
       (first | rw [← Ny452.out] at ho39 | (simp only [Int.reduceToNat] at ho39; rw [← Ny452.out] at ho39))
       have n0_ := Aside0.mk (Kd.R_elder' (kR_ HO441.out) (Kd.R_base ho39) hb); have n1_ := Aside0.mk (Kd.R_elder' (kR_ HO447.out) (Kd.R_base ho39) hb); have n2_ := Aside0.mk (Kd.R_elder' (kR_ HO450.out) (Kd.R_base ho39) hb); have n3_ := Aside0.mk (Kd.R_lower (Kd.R_new' (Kd.R_new' (Kd.R_new' ho39 (Kd.R_lt (kR_ HO441.out))) (Kd.R_lt (kR_ HO447.out))) (Kd.R_lt (kR_ HO450.out))) (below_size (hbA_ HB.out))); have n4_ := (bbA_ BK429 hb); have n5_ := (bs_ HB hb); clear HO441 HO447 HO450 BK429 HB; have HO441 := n0_; have HO447 := n1_; have HO450 := n2_; have HO454 := n3_; have BK429 := n4_; have HB := n5_; clear n0_ n1_ n2_ n3_ n4_ n5_ hb ho39
       obtain ⟨Ao41, co41, eo41⟩ := Kd.R_slice HO454.out
       (first | subst eo41 | (injection eo41 with f1_ f2_ f3_; have f4_ := f1_.symm; have f5_ := f3_.symm; clear f1_ f2_ f3_; subst f4_; subst f5_))
       refine hK.out _ _ (cz11 BK429.out) (fun hHeld => ?_)
       clear hK K; refine nm_ 49 ?_
       refine on_ (i := 16) (N := some 50) HT_ (fun K hK => ?_)
       refine Kd.R_append_rows_step (Kd.int .u8) (w0 := w) w.heap.size (by rfl) (.tmp 38) (.tmp 49) 22 5 (.int .u8 0) 1 rfl Try.underlying22 info5 rfl (by decide) (by omega) v449 y448 y452 _ _ _ (fun k_ => some k_ ≠ (.slice Ao32 t439.length co32 : Value).ownBlock ∧ some k_ ≠ (.slice Ao36 t445.length co36 : Value).ownBlock ∧ some k_ ≠ (.slice Ao41 y452.length co41 : Value).ownBlock) (fun _ => False) rfl rfl ?aO ?aR (fun _ _ h => h) (fun _ h => h.elim) ?aF ?aB ?aS ?aL ?_
       (case aR => exact kC_ (Kd.R_reads' HO454.out).2.2)
       (case aB => exact (hbA_ HB.out))
       (case aF => exact (fun k_ hk => ⟨Kd.fresh' (Kd.R_lt (kR_ HO441.out)) k_ hk, Kd.fresh' (Kd.R_lt (kR_ HO447.out)) k_ hk, Kd.fresh' (Kd.R_lt (kR_ HO454.out)) k_ hk⟩))
       (case aO => exact (by refine kR_ ?_; exact Kd.R_mono HO450.out (fun _ hk => op2_ hk)))
       (case aS => exact (below_size (hbA_ HB.out)))
       (case aL => have := LMc25.out; omega)
       intro v456 w40 ho hb hg hat
       rw [← Ny455.out] at ho
       have n0_ := (bgA_ BK429 hg (Kd.R_ne HO450.out BK429.out (by decide))); have n1_ := Aside0.mk (Kd.R_after (ok := (fun k_ => some k_ ≠ (.slice Ao36 t445.length co36 : Value).ownBlock ∧ some k_ ≠ (.slice Ao41 y452.length co41 : Value).ownBlock)) (by refine kR_ ?_; exact Kd.R_mono HO441.out (fun _ hk => op2_ hk)) hg hat); have n2_ := Aside0.mk (Kd.R_after (ok := (fun k_ => some k_ ≠ (.slice Ao32 t439.length co32 : Value).ownBlock ∧ some k_ ≠ (.slice Ao41 y452.length co41 : Value).ownBlock)) (by refine kR_ ?_; exact Kd.R_mono HO447.out (fun _ hk => op2_ hk)) hg hat); have n3_ := Aside0.mk (Kd.R_after (ok := (fun k_ => some k_ ≠ (.slice Ao32 t439.length co32 : Value).ownBlock ∧ some k_ ≠ (.slice Ao36 t445.length co36 : Value).ownBlock)) (by refine kR_ ?_; exact Kd.R_mono HO454.out (fun _ hk => op2_ hk)) hg hat); have n4_ := Aside0.mk (hb); have n5_ := Aside0.mk (ho); clear BK429 HO441 HO447 HO454 HB HO450; have BK429 := n0_; have HO441 := n1_; have HO447 := n2_; have HO454 := n3_; have HB := n4_; have HO457 := n5_; clear n0_ n1_ n2_ n3_ n4_ n5_ ho hb hg hat
       refine hK.out _ _ (cz11 BK429.out) (fun hHeld => ?_)
       clear hK K; refine nm_ 50 ?_; refine pu_ (i := 17) (N := some 7) HT_ ?_
       refine done_ (done_of HT_.out (by kernel_rfl)) ?_
       try go_wp2
       go_loopg [7, 8] kj3 (fun kq v7 v8 w' => ∃ (x7_2 : List Int) (x8_2 : Int), v8 = .int .i64 x8_2 ∧ Aside0 (spec_SegmentBytes.l0 kq a1 a2 x7_2 x8_2 a0_0 a0_1 a0_2 a0_3 a0_4 a0_5 a0_6 a0_7 a0_8 l0_9 l0_10 = some r) ∧ Aside0 (kq ≤ kj3) ∧ Aside0 (Kd.R (Kd.int .u8) 5 w' w.heap.size (fun _ => True) v7 x7_2) ∧ Aside0 (w'.heap[gb429]? = some (.cells #[.int .i64 a0_0, .int .i64 a0_1, .int .i64 a0_2, .int .i64 a0_3, .int .i64 a0_4, .bool a0_5, .bool a0_6, .bool a0_7, .bool a0_8, (.slice A0_9 l0_9.length c0_9), (.slice A0_10 l0_10.length c0_10)] 52 (0, 0))) ∧ Aside0 (Below w.heap.size w w'))
       case atStart => exact ⟨(y455), (0), (by first | rfl | (simp; done) | (simp [*]; done)), H', ⟨Nat.le_refl _⟩, ⟨by refine kR_ ?_; exact Kd.R_mono HO457.out (fun _ hk => trivial)⟩, ⟨by refine kb_ ?_; exact BK429.out⟩, ⟨hbA_ HB.out⟩⟩
       case round =>
        clear H'; (try clear c1); (try clear c2); (try clear p2); (try clear c7); (try clear c17); (try clear c21); (try clear c23); (try clear c25)
        obtain ⟨x7_2, x8_2, rfl, HA, HK2, HO_7, BK429, HB⟩ := hrel
        cases gk with
        | zero => exact absurd HA.out (by simp [spec_SegmentBytes.l0])
        | succ k2 =>
         have H := HA.out; clear HA
         simp only [spec_SegmentBytes.l0] at H
         by_cases c42 : x8_2 < (l0_9.length : Int)
         ·rw [if_pos c42] at H
          have c42b0 : decide (x8_2 < (l0_9.length : Int)) = true := decide_eq_true c42
          clear c42
          by_cases c43 : 0 ≤ x8_2
          ·rw [if_pos c43] at H
           have c43b0 : decide (0 ≤ x8_2) = true := decide_eq_true c43
           clear c43
           replace H := Option.bind_eq_some_iff.mp H
           obtain ⟨t459, A440, H⟩ := H
           (try dsimp only at H)
           have A44 := Aside0.mk A440; clear A440
           by_cases c45 : x7_2.length + t459.length < 140737488355328
           ·rw [if_pos c45] at H
            have LMc45 := Aside0.mk c45; clear c45
            obtain ⟨y462, hy462⟩ : ∃ y_ : List Int, y_ = (x7_2 ++ t459) := ⟨_, rfl⟩
            (first | replace H := sb_ hy462 H | rw [← hy462] at H)
            have Ny462 := Aside0.mk hy462; clear hy462
            replace H := Option.bind_eq_some_iff.mp H
            obtain ⟨t466, A460, H⟩ := H
            (try dsimp only at H)
            have A46 := Aside0.mk A460; clear A460
            by_cases c47 : y462.length + t466.length < 140737488355328
            ·rw [if_pos c47] at H
             have LMc47 := Aside0.mk c47; clear c47
             obtain ⟨y469, hy469⟩ : ∃ y_ : List Int, y_ = (y462 ++ t466) := ⟨_, rfl⟩
             (first | replace H := sb_ hy469 H | rw [← hy469] at H)
             have Ny469 := Aside0.mk hy469; clear hy469
             have H' := Aside0.mk H
             clear H; have Z48 := zz11 BK429
             try go_wp2
             replace HO_7 := Aside0.mk (Kd.R_drew HO_7.out); replace BK429 := Aside0.mk (blk_drew BK429.out); replace HB := (bd_ HB)
             have p458 : 0 ≤ (x8_2 : Int) := of_decide_eq_true (by first | (with_reducible assumption) | assumption)
             have q458 : x8_2 < (l0_9.length : Int) := of_decide_eq_true (by first | (with_reducible assumption) | assumption)
             obtain ⟨ad458, e458, hx458_0, hx458_1⟩ := at_T90 HR0_9.out x8_2 p458 q458
             have hw458_1 := hx458_1; have hw458_0 := hx458_0
             cases e458
             replace hx458_0 := cc_ HB hx458_0
             replace hx458_1 := cc_ HB hx458_1
             replace p458 := eq_true p458
             replace q458 := eq_true q458
             have p465 : 0 ≤ (x8_2 : Int) := of_decide_eq_true (by first | (with_reducible assumption) | assumption)
             have q465 : x8_2 < (l0_9.length : Int) := of_decide_eq_true (by first | (with_reducible assumption) | assumption)
             obtain ⟨ad465, e465, hx465_0, hx465_1⟩ := at_T90 HR0_9.out x8_2 p465 q465
             have hw465_1 := hx465_1; have hw465_0 := hx465_0
             obtain rfl : ad458 = ad465 := (by injection e465)
             replace hx465_0 := cc_ HB hx465_0
             replace hx465_1 := cc_ HB hx465_1
             replace p465 := eq_true p465
             replace q465 := eq_true q465
             refine start_ (n := 18) (S := fun w' => w'.cell? ⟨gb429, 0, none⟩ = some (.int .i64 a0_0) ∧ w'.cell? ⟨gb429, 1, none⟩ = some (.int .i64 a0_1) ∧ w'.cell? ⟨gb429, 2, none⟩ = some (.int .i64 a0_2) ∧ w'.cell? ⟨gb429, 3, none⟩ = some (.int .i64 a0_3) ∧ w'.cell? ⟨gb429, 4, none⟩ = some (.int .i64 a0_4) ∧ w'.cell? ⟨gb429, 5, none⟩ = some (.bool a0_5) ∧ w'.cell? ⟨gb429, 6, none⟩ = some (.bool a0_6) ∧ w'.cell? ⟨gb429, 7, none⟩ = some (.bool a0_7) ∧ w'.cell? ⟨gb429, 8, none⟩ = some (.bool a0_8) ∧ w'.cell? ⟨gb429, 9, none⟩ = some (.slice (some ad458) l0_9.length c0_9) ∧ w'.cell? ⟨gb429, 10, none⟩ = some (.slice A0_10 l0_10.length c0_10) ∧ w'.cell? (ad458.add ((x8_2).toNat * 2)) = some (.int .i64 ((rd_T90 l0_9 x8_2).f0)) ∧ w'.cell? ⟨(ad458.add ((x8_2).toNat * 2)).block, (ad458.add ((x8_2).toNat * 2)).off + 1, none⟩ = some (.int .i64 ((rd_T90 l0_9 x8_2).f1)) ∧ w'.cell? (ad458.add ((x8_2).toNat * 2)) = some (.int .i64 ((rd_T90 l0_9 x8_2).f0)) ∧ w'.cell? ⟨(ad458.add ((x8_2).toNat * 2)).block, (ad458.add ((x8_2).toNat * 2)).off + 1, none⟩ = some (.int .i64 ((rd_T90 l0_9 x8_2).f1))) (ds := []) #[false, false, false, false, false, false, false, false, false, false, false, false, false, false, false, false, false, false] (by kernel_rfl) rfl rfl ⟨bc_ BK429 0, bc_ BK429 1, bc_ BK429 2, bc_ BK429 3, bc_ BK429 4, bc_ BK429 5, bc_ BK429 6, bc_ BK429 7, bc_ BK429 8, bc_ BK429 9, bc_ BK429 10, (cc_ HB hw458_0), (cc_ HB hw458_1), (cc_ HB hw465_0), (cc_ HB hw465_1)⟩ (fun hHeld => ?_); refine with_tabW spec_SegmentBytes.tab8 spec_SegmentBytes.bits8 (fun HT_ HW_ => ?_)
             generalize wr.drew = w49 at HO_7 BK429 HB hx458_0 hx458_1 hx465_0 hx465_1 hHeld ⊢
             refine pu_ (i := 0) (N := some 58) HT_ ?_; refine pu_ (i := 1) (N := some 59) HT_ ?_; refine pu_ (i := 3) (N := some 61) HT_ ?_; refine pu_ (i := 9) (N := some 67) HT_ ?_; refine pu_ (i := 11) (N := some 69) HT_ ?_; refine tk_ (i := 2) (N := some 60) HT_ HW_ hHeld ?_; refine pu_ (i := 4) (N := some 62) HT_ ?_; refine pu_ (i := 5) (N := some 63) HT_ ?_; refine tk_ (i := 6) (N := some 64) HT_ HW_ hHeld ?_; refine tk_ (i := 10) (N := some 68) HT_ HW_ hHeld ?_; refine pu_ (i := 12) (N := some 70) HT_ ?_; refine pu_ (i := 13) (N := some 71) HT_ ?_; refine tk_ (i := 14) (N := some 72) HT_ HW_ hHeld ?_
             refine on_ (i := 7) (N := some 65) HT_ (fun K hK => ?_)
             refine goes_ Try.func75 (by kernel_rfl) rfl #[.int .i64 ((rd_T90 l0_9 x8_2).f0), .int .i64 2] (by rfl) rfl rfl ar_ ?_
             with_reducible refine (spec_BytesOf.calls k2 ((rd_T90 l0_9 x8_2).f0) 2 t459 _ A44.out).mono ?_
             rintro e w50 ⟨v460, rfl, ho0, hb⟩
             refine ⟨_, rfl, ?_⟩
             have HO461 := Aside0.mk (Kd.R_lower (Kd.R_new' ho0 (Kd.R_lt (kR_ HO_7.out))) (below_size (hbA_ HB.out))); replace HO_7 := Aside0.mk (Kd.R_elder' (kR_ HO_7.out) (Kd.R_base ho0) hb); replace BK429 := (bbA_ BK429 hb); replace HB := (bs_ HB hb); (try clear hb); (try clear hb2); (try clear hk); (try clear hi); (try clear ho0)
             obtain ⟨Ao52, co52, eo52⟩ := Kd.R_slice HO461.out
             (first | subst eo52 | (injection eo52 with f1_ f2_ f3_; have f4_ := f1_.symm; have f5_ := f3_.symm; clear f1_ f2_ f3_; subst f4_; subst f5_))
             refine hK.out _ _ ⟨bc_ BK429 0, bc_ BK429 1, bc_ BK429 2, bc_ BK429 3, bc_ BK429 4, bc_ BK429 5, bc_ BK429 6, bc_ BK429 7, bc_ BK429 8, bc_ BK429 9, bc_ BK429 10, (by first | exact cc_ HB hw458_0 | exact cc_ ⟨hbA_ HB.out⟩ hw458_0), (by first | exact cc_ HB hw458_1 | exact cc_ ⟨hbA_ HB.out⟩ hw458_1), (by first | exact cc_ HB hw465_0 | exact cc_ ⟨hbA_ HB.out⟩ hw465_0), (by first | exact cc_ HB hw465_1 | exact cc_ ⟨hbA_ HB.out⟩ hw465_1)⟩ (fun hHeld => ?_)
             clear hK K; refine nm_ 65 ?_
             refine on_ (i := 8) (N := some 66) HT_ (fun K hK => ?_)
             refine Kd.R_append_rows_step (Kd.int .u8) (w0 := w) w.heap.size (by rfl) (.tmp 58) (.tmp 65) 22 5 (.int .u8 0) 1 rfl Try.underlying22 info5 rfl (by decide) (by omega) u7 x7_2 t459 _ _ _ (fun k_ => some k_ ≠ (.slice Ao52 t459.length co52 : Value).ownBlock) (fun _ => False) rfl rfl ?aO ?aR (fun _ _ h => h) (fun _ h => h.elim) ?aF ?aB ?aS ?aL ?_
             (case aR => exact kC_ (Kd.R_reads' HO461.out).2.2)
             (case aB => exact (hbA_ HB.out))
             (case aF => exact (fun k_ hk => Kd.fresh' (Kd.R_lt (kR_ HO461.out)) k_ hk))
             (case aO => exact (by refine kR_ ?_; first | exact Kd.R_mono HO_7.out (fun _ hk => hk.2) | exact Kd.R_mono HO_7.out (fun _ _ => trivial)))
             (case aS => exact (below_size (hbA_ HB.out)))
             (case aL => have := LMc45.out; omega)
             intro v463 w51 ho hb hg hat
             rw [← Ny462.out] at ho
             have n0_ := (bgA_ BK429 hg (Kd.R_ne HO_7.out BK429.out (by decide))); have n1_ := Aside0.mk (Kd.R_after (ok := (fun _ => True)) (kR_ HO461.out) hg hat); have n2_ := Aside0.mk (hb); have n3_ := Aside0.mk (ho); clear BK429 HO461 HB HO_7; have BK429 := n0_; have HO461 := n1_; have HB := n2_; have HO464 := n3_; clear n0_ n1_ n2_ n3_ ho hb hg hat
             refine hK.out _ _ ⟨bc_ BK429 0, bc_ BK429 1, bc_ BK429 2, bc_ BK429 3, bc_ BK429 4, bc_ BK429 5, bc_ BK429 6, bc_ BK429 7, bc_ BK429 8, bc_ BK429 9, bc_ BK429 10, (by first | exact cc_ HB hw458_0 | exact cc_ ⟨hbA_ HB.out⟩ hw458_0), (by first | exact cc_ HB hw458_1 | exact cc_ ⟨hbA_ HB.out⟩ hw458_1), (by first | exact cc_ HB hw465_0 | exact cc_ ⟨hbA_ HB.out⟩ hw465_0), (by first | exact cc_ HB hw465_1 | exact cc_ ⟨hbA_ HB.out⟩ hw465_1)⟩ (fun hHeld => ?_)
             clear hK K; refine nm_ 66 ?_
             refine on_ (i := 15) (N := some 73) HT_ (fun K hK => ?_)
             refine goes_ Try.func75 (by kernel_rfl) rfl #[.int .i64 ((rd_T90 l0_9 x8_2).f1), .int .i64 2] (by rfl) rfl rfl ar_ ?_
             with_reducible refine (spec_BytesOf.calls k2 ((rd_T90 l0_9 x8_2).f1) 2 t466 _ A46.out).mono ?_
             rintro e w53 ⟨v467, rfl, ho0, hb⟩
             refine ⟨_, rfl, ?_⟩
             have HO468 := Aside0.mk (Kd.R_lower (Kd.R_new' (Kd.R_new' ho0 (Kd.R_lt (kR_ HO461.out))) (Kd.R_lt (kR_ HO464.out))) (below_size (hbA_ HB.out))); replace HO461 := Aside0.mk (Kd.R_elder' (kR_ HO461.out) (Kd.R_base ho0) hb); replace HO464 := Aside0.mk (Kd.R_elder' (kR_ HO464.out) (Kd.R_base ho0) hb); replace BK429 := (bbA_ BK429 hb); replace HB := (bs_ HB hb); (try clear hb); (try clear hb2); (try clear hk); (try clear hi); (try clear ho0)
             obtain ⟨Ao55, co55, eo55⟩ := Kd.R_slice HO468.out
             (first | subst eo55 | (injection eo55 with f1_ f2_ f3_; have f4_ := f1_.symm; have f5_ := f3_.symm; clear f1_ f2_ f3_; subst f4_; subst f5_))
             refine hK.out _ _ ⟨bc_ BK429 0, bc_ BK429 1, bc_ BK429 2, bc_ BK429 3, bc_ BK429 4, bc_ BK429 5, bc_ BK429 6, bc_ BK429 7, bc_ BK429 8, bc_ BK429 9, bc_ BK429 10, (by first | exact cc_ HB hw458_0 | exact cc_ ⟨hbA_ HB.out⟩ hw458_0), (by first | exact cc_ HB hw458_1 | exact cc_ ⟨hbA_ HB.out⟩ hw458_1), (by first | exact cc_ HB hw465_0 | exact cc_ ⟨hbA_ HB.out⟩ hw465_0), (by first | exact cc_ HB hw465_1 | exact cc_ ⟨hbA_ HB.out⟩ hw465_1)⟩ (fun hHeld => ?_)
             clear hK K; refine nm_ 73 ?_
             refine on_ (i := 16) (N := some 74) HT_ (fun K hK => ?_)
             refine Kd.R_append_rows_step (Kd.int .u8) (w0 := w) w.heap.size (by rfl) (.tmp 66) (.tmp 73) 22 5 (.int .u8 0) 1 rfl Try.underlying22 info5 rfl (by decide) (by omega) v463 y462 t466 _ _ _ (fun k_ => some k_ ≠ (.slice Ao52 t459.length co52 : Value).ownBlock ∧ some k_ ≠ (.slice Ao55 t466.length co55 : Value).ownBlock) (fun _ => False) rfl rfl ?aO ?aR (fun _ _ h => h) (fun _ h => h.elim) ?aF ?aB ?aS ?aL ?_
             (case aR => exact kC_ (Kd.R_reads' HO468.out).2.2)
             (case aB => exact (hbA_ HB.out))
             (case aF => exact (fun k_ hk => ⟨Kd.fresh' (Kd.R_lt (kR_ HO461.out)) k_ hk, Kd.fresh' (Kd.R_lt (kR_ HO468.out)) k_ hk⟩))
             (case aO => exact (kR_ HO464.out))
             (case aS => exact (below_size (hbA_ HB.out)))
             (case aL => have := LMc47.out; omega)
             intro v470 w54 ho hb hg hat
             rw [← Ny469.out] at ho
             have n0_ := (bgA_ BK429 hg (Kd.R_ne HO464.out BK429.out (by decide))); have n1_ := Aside0.mk (Kd.R_after (ok := (fun k_ => some k_ ≠ (.slice Ao55 t466.length co55 : Value).ownBlock)) (by refine kR_ ?_; exact Kd.R_mono HO461.out (fun _ hk => op2_ hk)) hg hat); have n2_ := Aside0.mk (Kd.R_after (ok := (fun k_ => some k_ ≠ (.slice Ao52 t459.length co52 : Value).ownBlock)) (by refine kR_ ?_; exact Kd.R_mono HO468.out (fun _ hk => op2_ hk)) hg hat); have n3_ := Aside0.mk (hb); have n4_ := Aside0.mk (ho); clear BK429 HO461 HO468 HB HO464; have BK429 := n0_; have HO461 := n1_; have HO468 := n2_; have HB := n3_; have HO471 := n4_; clear n0_ n1_ n2_ n3_ n4_ ho hb hg hat
             refine hK.out _ _ ⟨bc_ BK429 0, bc_ BK429 1, bc_ BK429 2, bc_ BK429 3, bc_ BK429 4, bc_ BK429 5, bc_ BK429 6, bc_ BK429 7, bc_ BK429 8, bc_ BK429 9, bc_ BK429 10, (by first | exact cc_ HB hw458_0 | exact cc_ ⟨hbA_ HB.out⟩ hw458_0), (by first | exact cc_ HB hw458_1 | exact cc_ ⟨hbA_ HB.out⟩ hw458_1), (by first | exact cc_ HB hw465_0 | exact cc_ ⟨hbA_ HB.out⟩ hw465_0), (by first | exact cc_ HB hw465_1 | exact cc_ ⟨hbA_ HB.out⟩ hw465_1)⟩ (fun hHeld => ?_)
             clear hK K; refine nm_ 74 ?_; refine pu_ (i := 17) (N := some 7) HT_ ?_
             refine done_ (done_of HT_.out (by kernel_rfl)) ?_
             try go_wp2
             go_roundg k2
             case measure => have := HJ3.out; have := HK2.out; omega
             case rel => exact ⟨(y469), (wrap64 (x8_2 + 1)), (by first | rfl | (simp; done) | (simp [*]; done)), H', ⟨by have := HJ3.out; have := HK2.out; omega⟩, ⟨by refine kR_ ?_; exact Kd.R_mono HO471.out (fun _ hk => trivial)⟩, ⟨by refine kb_ ?_; exact BK429.out⟩, ⟨hbA_ HB.out⟩⟩
            ·rw [if_neg c47] at H
             exact absurd H (by simp)
           ·rw [if_neg c45] at H
            exact absurd H (by simp)
          ·rw [if_neg c43] at H
           exact absurd H (by simp)
         ·rw [if_neg c42] at H
          have c42b0 : decide (x8_2 < (l0_9.length : Int)) = false := decide_eq_false c42
          clear c42
          by_cases c56 : x7_2.length < 140737488355328
          ·rw [if_pos c56] at H
           have LMc56 := Aside0.mk c56; clear c56
           obtain ⟨y472, hy472⟩ : ∃ y_ : List Int, y_ = (x7_2 ++ [((l0_10.length : Int)) % 256]) := ⟨_, rfl⟩
           (first | replace H := sb_ hy472 H | rw [← hy472] at H)
           have Ny472 := Aside0.mk hy472; clear hy472
           by_cases c57 : y472.length + l0_10.length < 140737488355328
           ·rw [if_pos c57] at H
            have LMc57 := Aside0.mk c57; clear c57
            obtain ⟨y475, hy475⟩ : ∃ y_ : List Int, y_ = (y472 ++ l0_10) := ⟨_, rfl⟩
            (first | replace H := sb_ hy475 H | rw [← hy475] at H)
            have Ny475 := Aside0.mk hy475; clear hy475
            replace H := Option.bind_eq_some_iff.mp H
            obtain ⟨t478, A580, H⟩ := H
            (try dsimp only at H)
            have A58 := Aside0.mk A580; clear A580
            replace H := Option.bind_eq_some_iff.mp H
            obtain ⟨t479, A590, H⟩ := H
            (try dsimp only at H)
            have A59 := Aside0.mk A590; clear A590
            by_cases c60 : y475.length + t479.length < 140737488355328
            ·rw [if_pos c60] at H
             have LMc60 := Aside0.mk c60; clear c60
             obtain ⟨y482, hy482⟩ : ∃ y_ : List Int, y_ = (y475 ++ t479) := ⟨_, rfl⟩
             (first | replace H := sb_ hy482 H | rw [← hy482] at H)
             have Ny482 := Aside0.mk hy482; clear hy482
             obtain rfl := Option.some.inj H
             have Z61 := zz11 BK429
             try go_wp2
             replace HO_7 := Aside0.mk (Kd.R_drew HO_7.out); replace BK429 := Aside0.mk (blk_drew BK429.out); replace HB := (bd_ HB)
             refine start_ (n := 11) (S := fun w' => w'.cell? ⟨gb429, 0, none⟩ = some (.int .i64 a0_0) ∧ w'.cell? ⟨gb429, 1, none⟩ = some (.int .i64 a0_1) ∧ w'.cell? ⟨gb429, 2, none⟩ = some (.int .i64 a0_2) ∧ w'.cell? ⟨gb429, 3, none⟩ = some (.int .i64 a0_3) ∧ w'.cell? ⟨gb429, 4, none⟩ = some (.int .i64 a0_4) ∧ w'.cell? ⟨gb429, 5, none⟩ = some (.bool a0_5) ∧ w'.cell? ⟨gb429, 6, none⟩ = some (.bool a0_6) ∧ w'.cell? ⟨gb429, 7, none⟩ = some (.bool a0_7) ∧ w'.cell? ⟨gb429, 8, none⟩ = some (.bool a0_8) ∧ w'.cell? ⟨gb429, 9, none⟩ = some (.slice A0_9 l0_9.length c0_9) ∧ w'.cell? ⟨gb429, 10, none⟩ = some (.slice A0_10 l0_10.length c0_10)) (ds := []) #[false, false, false, false, false, false, false, false, false, false, false] (by kernel_rfl) rfl rfl (cz11 BK429.out) (fun hHeld => ?_); refine with_tabW spec_SegmentBytes.tab9 spec_SegmentBytes.bits9 (fun HT_ HW_ => ?_)
             generalize wr.drew = w62 at HO_7 BK429 HB hHeld ⊢
             refine pu_ (i := 0) (N := some 75) HT_ ?_; refine pu_ (i := 1) (N := some 76) HT_ ?_; refine pu_ (i := 7) (N := some 82) HT_ ?_; refine tk_ (i := 2) (N := some 77) HT_ HW_ hHeld ?_; refine pu_ (i := 3) (N := some 78) HT_ ?_; refine pu_ (i := 4) (N := some 79) HT_ ?_; refine tk_ (i := 8) (N := some 83) HT_ HW_ hHeld ?_
             refine on_ (i := 5) (N := some 80) HT_ (fun K hK => ?_)
             refine value_ (w1 := ?_) (v := ?_) (by rfl) rfl ?_ ?_
             rotate_left 2
             ·go_simp
              constructor
              ·rfl
              ·rfl
             refine hK.out _ _ ⟨(blk_cell (blk_alloc BK429.out _) 0).trans rfl, (blk_cell (blk_alloc BK429.out _) 1).trans rfl, (blk_cell (blk_alloc BK429.out _) 2).trans rfl, (blk_cell (blk_alloc BK429.out _) 3).trans rfl, (blk_cell (blk_alloc BK429.out _) 4).trans rfl, (blk_cell (blk_alloc BK429.out _) 5).trans rfl, (blk_cell (blk_alloc BK429.out _) 6).trans rfl, (blk_cell (blk_alloc BK429.out _) 7).trans rfl, (blk_cell (blk_alloc BK429.out _) 8).trans rfl, (blk_cell (blk_alloc BK429.out _) 9).trans rfl, (blk_cell (blk_alloc BK429.out _) 10).trans rfl⟩ (fun hHeld => ?_)
             clear hK K; refine nm_ 80 ?_
             refine on_ (i := 6) (N := some 81) HT_ (fun K hK => ?_)
             refine Kd.R_append_step (Kd.int .u8) (w0 := w) w.heap.size (by rfl) (.tmp 75) (.tmp 80) 22 5 (.int .u8 0) 1 rfl Try.underlying22 info5 rfl (by decide) (by omega) u7 x7_2 (((l0_10.length : Int)) % 256) [.int .u8 (((l0_10.length : Int)) % 256)] (fun _ => True) (fun _ => False) rfl rfl ?aP (fun _ hk => hk.elim) ?aF ?aO ?aB ?aS ?aL ?_
             (case aP => exact rfl)
             (case aB => exact (hbA_ HB.out))
             (case aF => exact (fun _ _ => trivial))
             (case aO => exact (kR_ HO_7.out))
             (case aS => exact (below_size (hbA_ HB.out)))
             (case aL => have := LMc56.out; omega)
             intro v473 w63 ho hb hg hat
             rw [← Ny472.out] at ho
             have n0_ := (bgA_ BK429 hg (Kd.R_ne HO_7.out BK429.out (by decide))); have n1_ := Aside0.mk (hb); have n2_ := Aside0.mk (ho); clear BK429 HB HO_7; have BK429 := n0_; have HB := n1_; have HO474 := n2_; clear n0_ n1_ n2_ ho hb hg hat
             refine hK.out _ _ (cz11 BK429.out) (fun hHeld => ?_)
             clear hK K; refine nm_ 81 ?_
             refine on_ (i := 9) (N := some 84) HT_ (fun K hK => ?_)
             refine Kd.R_append_rows_step (Kd.int .u8) (w0 := w) w.heap.size (by rfl) (.tmp 81) (.tmp 83) 22 5 (.int .u8 0) 1 rfl Try.underlying22 info5 rfl (by decide) (by omega) v473 y472 l0_10 _ _ _ (fun _ => True) (fun _ => False) rfl rfl ?aO ?aR (fun _ _ h => h) (fun _ h => h.elim) ?aF ?aB ?aS ?aL ?_
             (case aR => exact kC_ (Kd.C_below HR0_10.out HB.out))
             (case aB => exact (hbA_ HB.out))
             (case aF => exact (fun _ _ => trivial))
             (case aO => exact (kR_ HO474.out))
             (case aS => exact (below_size (hbA_ HB.out)))
             (case aL => have := LMc57.out; omega)
             intro v476 w64 ho hb hg hat
             rw [← Ny475.out] at ho
             have n0_ := (bgA_ BK429 hg (Kd.R_ne HO474.out BK429.out (by decide))); have n1_ := Aside0.mk (hb); have n2_ := Aside0.mk (ho); clear BK429 HB HO474; have BK429 := n0_; have HB := n1_; have HO477 := n2_; clear n0_ n1_ n2_ ho hb hg hat
             refine hK.out _ _ (cz11 BK429.out) (fun hHeld => ?_)
             clear hK K; refine nm_ 84 ?_; refine pu_ (i := 10) (N := some 7) HT_ ?_
             refine done_ (done_of HT_.out (by kernel_rfl)) ?_
             obtain ⟨Ao65, co65, eo65⟩ := Kd.R_slice HO477.out
             subst eo65
             try go_wp2_with (first | ((with_reducible refine gate_callee (f := 60) rfl ?_); refine goesL_ (some 89) rfl rfl Try.func60 (by kernel_rfl) rfl #[.int .i64 a1, .int .i64 a2, .slice Ao65 y475.length co65] rfl ar_ ?_; (with_reducible refine (spec_l9Sum.calls k2 a1 a2 _ _ y475 t478 _ ?side1 ?side2 A58.out).mono ?_); (case side1 => exact kC_ (Kd.R_reads' HO477.out).2.2); (case side2 => exact (Kd.R_reads' HO477.out).2.1); rintro e w66 ⟨rfl, hb⟩; refine ⟨_, rfl, ?_⟩; replace HO477 := Aside0.mk (Kd.R_below (kR_ HO477.out) hb); replace BK429 := (bbA_ BK429 hb); replace HB := (bs_ HB hb); (try clear hb); (try clear hb2); (try clear hk); (try clear hi)) | ((with_reducible refine gate_callee (f := 75) rfl ?_); refine goesL_ (some 90) rfl rfl Try.func75 (by kernel_rfl) rfl #[.int .i64 t478, .int .i64 2] rfl ar_ ?_; (with_reducible refine (spec_BytesOf.calls k2 t478 2 t479 _ A59.out).mono ?_); rintro e w67 ⟨v480, rfl, ho0, hb⟩; refine ⟨_, rfl, ?_⟩; have HO481 := Aside0.mk (Kd.R_lower (Kd.R_new' ho0 (Kd.R_lt (kR_ HO477.out))) (below_size (hbA_ HB.out))); replace HO477 := Aside0.mk (Kd.R_elder' (kR_ HO477.out) (Kd.R_base ho0) hb); replace BK429 := (bbA_ BK429 hb); replace HB := (bs_ HB hb); (try clear hb); (try clear hb2); (try clear hk); (try clear hi); (try clear ho0); obtain ⟨Ao69, co69, eo69⟩ := Kd.R_slice HO481.out; subst eo69) | ((with_reducible refine gate_builtin (b := .append) (xs := #[.tmp 85, .tmp 90]) rfl ?_); at_builtin; refine Kd.R_append_rows (Kd.int .u8) (w0 := w) w.heap.size rfl (.tmp 85) (.tmp 90) 22 5 (.int .u8 0) 1 rfl Try.underlying22 info5 rfl (by decide) (by omega) (.slice Ao65 y475.length co65) y475 t479 _ _ _ (fun k_ => some k_ ≠ (.slice Ao69 t479.length co69 : Value).ownBlock) (fun _ => False) rfl rfl ?aO ?aR (fun _ _ h => h) (fun _ h => h.elim) ?aF ?aB ?aS ?aL ?_; (case aR => exact kC_ (Kd.R_reads' HO481.out).2.2); (case aB => exact (hbA_ HB.out)); (case aF => exact (fun k_ hk => Kd.fresh' (Kd.R_lt (kR_ HO481.out)) k_ hk)); (case aO => exact (by refine kR_ ?_; first | exact Kd.R_mono HO477.out (fun _ hk => hk.2) | exact Kd.R_mono HO477.out (fun _ _ => trivial))); (case aS => exact (below_size (hbA_ HB.out))); (case aL => have := LMc60.out; omega); intro v483 w68 ho hb hg hat; rw [← Ny482.out] at ho; replace BK429 := (bgA_ BK429 hg (Kd.R_ne HO477.out BK429.out (by decide))); replace HO481 := Aside0.mk (Kd.R_after (ok := (fun _ => True)) (kR_ HO481.out) hg hat); replace HB := Aside0.mk (hb); have HO484 := Aside0.mk (ho); clear HO477; clear ho hb hg hat))
             go_ret
             exact ⟨_, by first | rfl | (simp [errW_none, errW_some] <;> rfl) | (simp [*, errW_none, errW_some] <;> rfl), by refine kR_ ?_; exact Kd.R_mono HO484.out (fun _ hk => trivial), hbA_ HB.out⟩
            ·rw [if_neg c60] at H
             exact absurd H (by simp)
           ·rw [if_neg c57] at H
            exact absurd H (by simp)
          ·rw [if_neg c56] at H
           exact absurd H (by simp)
      ·rw [if_neg c25] at H
       exact absurd H (by simp)
     ·rw [if_neg c23] at H
      exact absurd H (by simp)
    ·rw [if_neg c21] at H
     exact absurd H (by simp)
def laws_FnSegmentBytes.f (k : Nat) (l0 : List Int) : Option (Bool) := if (l0.length : Int) > 1048576 then (some true) else ((spec_DrawSegmentBytes.f k l0).bind fun bt485 => ((impl_SegmentBytes.f k bt485.1 bt485.2.1 bt485.2.2.1 bt485.2.2.2.1 bt485.2.2.2.2.1 bt485.2.2.2.2.2.1 bt485.2.2.2.2.2.2.1 bt485.2.2.2.2.2.2.2.1 bt485.2.2.2.2.2.2.2.2.1 bt485.2.2.2.2.2.2.2.2.2.1 bt485.2.2.2.2.2.2.2.2.2.2.1 bt485.2.2.2.2.2.2.2.2.2.2.2.1 bt485.2.2.2.2.2.2.2.2.2.2.2.2).bind fun t503 => ((spec_SegmentBytes.f k bt485.1 bt485.2.1 bt485.2.2.1 bt485.2.2.2.1 bt485.2.2.2.2.1 bt485.2.2.2.2.2.1 bt485.2.2.2.2.2.2.1 bt485.2.2.2.2.2.2.2.1 bt485.2.2.2.2.2.2.2.2.1 bt485.2.2.2.2.2.2.2.2.2.1 bt485.2.2.2.2.2.2.2.2.2.2.1 bt485.2.2.2.2.2.2.2.2.2.2.2.1 bt485.2.2.2.2.2.2.2.2.2.2.2.2).bind fun t506 => ((laws_sameBytes.f t503 t506).bind fun t509 => (if t509 = true then (if (t503.length : Int) = 0 then ((laws_alive.f k).bind fun t510 => (some t510)) else ((impl_SegmentFrom.f k t503 bt485.2.2.2.2.2.2.2.2.2.2.2.1 bt485.2.2.2.2.2.2.2.2.2.2.2.2).bind fun bt511 => ((impl_SegmentFrom.f k t503 (wrap64 (bt485.2.2.2.2.2.2.2.2.2.2.2.1 + 1)) bt485.2.2.2.2.2.2.2.2.2.2.2.2).bind fun bt528 => (if bt511.2.2.2.2.2.2.2.2.2.2.2 = true then ((laws_sameSegment.f k bt511.1 bt511.2.1 bt511.2.2.1 bt511.2.2.2.1 bt511.2.2.2.2.1 bt511.2.2.2.2.2.1 bt511.2.2.2.2.2.2.1 bt511.2.2.2.2.2.2.2.1 bt511.2.2.2.2.2.2.2.2.1 bt511.2.2.2.2.2.2.2.2.2.1 bt511.2.2.2.2.2.2.2.2.2.2.1 bt485.1 bt485.2.1 bt485.2.2.1 bt485.2.2.2.1 bt485.2.2.2.2.1 bt485.2.2.2.2.2.1 bt485.2.2.2.2.2.2.1 bt485.2.2.2.2.2.2.2.1 bt485.2.2.2.2.2.2.2.2.1 bt485.2.2.2.2.2.2.2.2.2.1 bt485.2.2.2.2.2.2.2.2.2.2.1).bind fun t545 => (if t545 = true then (some (!bt528.2.2.2.2.2.2.2.2.2.2.2)) else (some false))) else (some false))))) else (some false))))))
theorem laws_FnSegmentBytes.mono : ∀ a0 k, LeO (laws_FnSegmentBytes.f k a0) (laws_FnSegmentBytes.f (k + 1) a0) := by
 intro a0 k
 unfold laws_FnSegmentBytes.f
 repeat' first | (with_reducible first | apply impl_SegmentBytes.mono | apply impl_SegmentFrom.mono | apply laws_alive.mono | apply laws_sameSegment.mono | apply spec_DrawSegmentBytes.mono | apply spec_SegmentBytes.mono | exact LeO.refl _ | exact LeO.none _ | refine LeO.ite ?_ ?_ | refine LeO.bind ?_ fun _ => ?_) | apply impl_SegmentBytes.mono | apply impl_SegmentFrom.mono | apply laws_alive.mono | apply laws_sameSegment.mono | apply spec_DrawSegmentBytes.mono | apply spec_SegmentBytes.mono | exact LeO.none _ | refine LeO.ite ?_ ?_ | refine LeO.bind ?_ fun _ => ?_
set_option maxHeartbeats 8000000 in
set_option maxRecDepth 100000 in
theorem laws_FnSegmentBytes.calls (k : Nat) (A0 : Option Addr) (c0 : Nat) (l0 : List Int) (r : Bool) (w : World) (hr0 : Kd.C (Kd.int .u8) w A0 l0.length l0) (hc0 : l0.length ≤ c0) (h : laws_FnSegmentBytes.f k l0 = some r) (hlw : r = true) :
  Calls Try.prog 8 #[.slice A0 l0.length c0] w fun e w' => e = .returned (.bool r) ∧ Below w.heap.size w w' := by
 have hu52 := Try.underlying52; have HLW := Aside0.mk hlw; clear hlw; have HR0 := Aside0.mk hr0; have HC0 := Aside0.mk hc0; clear hr0 hc0
 have HB := Aside0.mk (Below.refl w.heap.size w)
 have H : (if (l0.length : Int) > 1048576 then (some true) else ((spec_DrawSegmentBytes.f k l0).bind fun bt485 => ((impl_SegmentBytes.f k bt485.1 bt485.2.1 bt485.2.2.1 bt485.2.2.2.1 bt485.2.2.2.2.1 bt485.2.2.2.2.2.1 bt485.2.2.2.2.2.2.1 bt485.2.2.2.2.2.2.2.1 bt485.2.2.2.2.2.2.2.2.1 bt485.2.2.2.2.2.2.2.2.2.1 bt485.2.2.2.2.2.2.2.2.2.2.1 bt485.2.2.2.2.2.2.2.2.2.2.2.1 bt485.2.2.2.2.2.2.2.2.2.2.2.2).bind fun t503 => ((spec_SegmentBytes.f k bt485.1 bt485.2.1 bt485.2.2.1 bt485.2.2.2.1 bt485.2.2.2.2.1 bt485.2.2.2.2.2.1 bt485.2.2.2.2.2.2.1 bt485.2.2.2.2.2.2.2.1 bt485.2.2.2.2.2.2.2.2.1 bt485.2.2.2.2.2.2.2.2.2.1 bt485.2.2.2.2.2.2.2.2.2.2.1 bt485.2.2.2.2.2.2.2.2.2.2.2.1 bt485.2.2.2.2.2.2.2.2.2.2.2.2).bind fun t506 => ((laws_sameBytes.f t503 t506).bind fun t509 => (if t509 = true then (if (t503.length : Int) = 0 then ((laws_alive.f k).bind fun t510 => (some t510)) else ((impl_SegmentFrom.f k t503 bt485.2.2.2.2.2.2.2.2.2.2.2.1 bt485.2.2.2.2.2.2.2.2.2.2.2.2).bind fun bt511 => ((impl_SegmentFrom.f k t503 (wrap64 (bt485.2.2.2.2.2.2.2.2.2.2.2.1 + 1)) bt485.2.2.2.2.2.2.2.2.2.2.2.2).bind fun bt528 => (if bt511.2.2.2.2.2.2.2.2.2.2.2 = true then ((laws_sameSegment.f k bt511.1 bt511.2.1 bt511.2.2.1 bt511.2.2.2.1 bt511.2.2.2.2.1 bt511.2.2.2.2.2.1 bt511.2.2.2.2.2.2.1 bt511.2.2.2.2.2.2.2.1 bt511.2.2.2.2.2.2.2.2.1 bt511.2.2.2.2.2.2.2.2.2.1 bt511.2.2.2.2.2.2.2.2.2.2.1 bt485.1 bt485.2.1 bt485.2.2.1 bt485.2.2.2.1 bt485.2.2.2.2.1 bt485.2.2.2.2.2.1 bt485.2.2.2.2.2.2.1 bt485.2.2.2.2.2.2.2.1 bt485.2.2.2.2.2.2.2.2.1 bt485.2.2.2.2.2.2.2.2.2.1 bt485.2.2.2.2.2.2.2.2.2.2.1).bind fun t545 => (if t545 = true then (some (!bt528.2.2.2.2.2.2.2.2.2.2.2)) else (some false))) else (some false))))) else (some false))))))) = some r := h
 clear h
 by_cases c2 : (l0.length : Int) > 1048576
 ·rw [if_pos c2] at H
  have c2b0 : decide (1048576 < (l0.length : Int)) = true := decide_eq_true c2
  have c2b1 : decide (1048576 < l0.length) = true := decide_eq_true (by omega)
  clear c2
  obtain rfl := Option.some.inj H
  go_enter Try.func8, Try.ntmps8
  go_wp2
  go_ret
  exact ⟨by first | rfl | (simp [errW_none, errW_some] <;> rfl) | (simp [*, errW_none, errW_some] <;> rfl), hbA_ HB.out⟩
 ·rw [if_neg c2] at H
  have c2b0 : decide (1048576 < (l0.length : Int)) = false := decide_eq_false c2
  have c2b1 : decide (1048576 < l0.length) = false := decide_eq_false (by omega)
  clear c2
  replace H := Option.bind_eq_some_iff.mp H
  obtain ⟨⟨t485, t486, t487, t488, t489, t490, t491, t492, t493, t494, t497, t500, t501⟩, A30, H⟩ := H
  (try dsimp only at H)
  have A3 := Aside0.mk A30; clear A30
  replace H := Option.bind_eq_some_iff.mp H
  obtain ⟨t503, A40, H⟩ := H
  (try dsimp only at H)
  have A4 := Aside0.mk A40; clear A40
  replace H := Option.bind_eq_some_iff.mp H
  obtain ⟨t506, A50, H⟩ := H
  (try dsimp only at H)
  have A5 := Aside0.mk A50; clear A50
  replace H := Option.bind_eq_some_iff.mp H
  obtain ⟨t509, A60, H⟩ := H
  (try dsimp only at H)
  have A6 := Aside0.mk A60; clear A60
  by_cases c7 : t509 = true
  ·subst c7
   rw [if_pos rfl] at H
   by_cases c8 : (t503.length : Int) = 0
   ·rw [if_pos c8] at H
    have c8b0 : ((t503.length : Int) == 0) = true := beq_iff_eq.mpr c8
    have c8b1 : ((t503.length : Int) != 0) = false := bne_eq_false_iff_eq.mpr c8
    clear c8
    replace H := Option.bind_eq_some_iff.mp H
    obtain ⟨t510, A90, H⟩ := H
    (try dsimp only at H)
    have A9 := Aside0.mk A90; clear A90
    obtain rfl := Option.some.inj H
    go_enter Try.func8, Try.ntmps8
    go_wp2_with (first | ((with_reducible refine gate_callee (f := 37) rfl ?_); refine goesL_ (some 16) rfl rfl Try.func37 (by kernel_rfl) rfl #[.slice A0 l0.length c0] rfl ar_ ?_; (with_reducible refine (spec_DrawSegmentBytes.calls k _ _ l0 t485 t486 t487 t488 t489 t490 t491 t492 t493 t494 t497 t500 t501 _ ?side1 ?side2 A3.out).mono ?_); (case side1 => exact kC_ HR0.out); (case side2 => exact HC0.out); rintro e w10 ⟨v495, v498, rfl, ho0, ho1, hb⟩; refine ⟨_, rfl, ?_⟩; have HO496 := Aside0.mk (Kd.R_lower ho0 (below_size (hbA_ HB.out))); have HO499 := Aside0.mk (Kd.R_lower ho1 (below_size (hbA_ HB.out))); replace HB := (bs_ HB hb); (try clear hb); (try clear hb2); (try clear hk); (try clear hi); (try clear ho0); (try clear ho1)) | ((with_reducible refine gate_dst (N := 3) rfl ?_); refine box_ (N := 3) (cs := #[.int .i64 0, .int .i64 0, .int .i64 0, .int .i64 0, .int .i64 0, .bool false, .bool false, .bool false, .bool false, .slice none 0 0, .slice none 0 0]) (t := 52) (fun gb502 hg w11 hbox hb => ?_); replace HO496 := Aside0.mk (Kd.R_below (kR_ HO496.out) hb); replace HO499 := Aside0.mk (Kd.R_below (kR_ HO499.out) hb); have BK502 := Aside0.mk (hbox); have GW502 := ge_ hg HB; have GE502 := ge_ hg HB; replace HB := (bs_ HB hb); clear hb hbox hg; have Z12 := zz11 BK502; obtain ⟨Ao13, co13, eo13⟩ := Kd.R_slice HO496.out; subst eo13; obtain ⟨Ao14, co14, eo14⟩ := Kd.R_slice HO499.out; subst eo14) | ((with_reducible refine gate_callee (f := 36) rfl ?_); refine goesL_ (some 23) rfl rfl Try.func36 (by kernel_rfl) rfl #[.agg #[.int .i64 t485, .int .i64 t486, .int .i64 t487, .int .i64 t488, .int .i64 t489, .bool t490, .bool t491, .bool t492, .bool t493, .slice Ao13 t494.length co13, .slice Ao14 t497.length co14], .int .i64 t500, .int .i64 t501] rfl ar_ ?_; (with_reducible refine (impl_SegmentBytes.calls k t485 t486 t487 t488 t489 t490 t491 t492 t493 _ _ t494 _ _ t497 t500 t501 t503 _ ?side1 ?side2 ?side3 ?side4 A4.out).mono ?_); (case side1 => refine (Kd.R_reads' (e := 90) (base := w.heap.size) (ok := fun k_ => True) (n := t494.length) (c := co13) ?_).2.2; exact (by refine kR_ ?_; exact (rfm_ ((Kd.R_types HO496.out BK502.out (by decide))) (fun _ h_ => op1_ h_)))); (case side2 => exact (Kd.R_reads' HO496.out).2.1); (case side3 => refine (Kd.R_reads' (e := 5) (base := w.heap.size) (ok := fun k_ => True) (n := t497.length) (c := co14) ?_).2.2; exact (by refine kR_ ?_; exact (rfm_ ((Kd.R_types HO499.out BK502.out (by decide))) (fun _ h_ => op1_ h_)))); (case side4 => exact (Kd.R_reads' HO499.out).2.1); rintro e w15 ⟨v504, rfl, ho0, hb⟩; refine ⟨_, rfl, ?_⟩; replace HO496 := Aside0.mk (Kd.R_below (by refine kR_ ?_; exact (rfm_ ((Kd.R_types HO496.out BK502.out (by decide))) (fun _ h_ => op1_ h_))) hb); have HO505 := Aside0.mk (Kd.R_lower (Kd.R_new' ho0 (Kd.R_lt (by refine kR_ ?_; exact (rfm_ ((Kd.R_types HO499.out BK502.out (by decide))) (fun _ h_ => op1_ h_))))) (below_size (hbA_ HB.out))); replace HO499 := Aside0.mk (Kd.R_elder' (by refine kR_ ?_; exact (rfm_ ((Kd.R_types HO499.out BK502.out (by decide))) (fun _ h_ => op1_ h_))) (Kd.R_base ho0) hb); replace BK502 := Aside0.mk (blk_below (g := gb502) (o := .cells #[.int .i64 t485, .int .i64 t486, .int .i64 t487, .int .i64 t488, .int .i64 t489, .bool t490, .bool t491, .bool t492, .bool t493, .slice Ao13 t494.length co13, .slice Ao14 t497.length co14] 52 (0, 0)) (by refine kb_ ?_; refine pz11 (cs := #[.int .i64 0, .int .i64 0, .int .i64 0, .int .i64 0, .int .i64 0, .bool false, .bool false, .bool false, .bool false, .slice none 0 0, .slice none 0 0]) ?_; refine kb_ ?_; exact BK502.out) hb); replace HB := (bs_ HB hb); (try clear hb); (try clear hb2); (try clear hk); (try clear hi); (try clear ho0); have Z16 := zz11 BK502) | ((with_reducible refine gate_callee (f := 38) rfl ?_); refine goesL_ (some 28) rfl rfl Try.func38 (by kernel_rfl) rfl #[.agg #[.int .i64 t485, .int .i64 t486, .int .i64 t487, .int .i64 t488, .int .i64 t489, .bool t490, .bool t491, .bool t492, .bool t493, .slice Ao13 t494.length co13, .slice Ao14 t497.length co14], .int .i64 t500, .int .i64 t501] rfl ar_ ?_; (with_reducible refine (spec_SegmentBytes.calls k t485 t486 t487 t488 t489 t490 t491 t492 t493 _ _ t494 _ _ t497 t500 t501 t506 _ ?side1 ?side2 ?side3 ?side4 A5.out).mono ?_); (case side1 => exact kC_ (Kd.R_reads' HO496.out).2.2); (case side2 => exact (Kd.R_reads' HO496.out).2.1); (case side3 => exact kC_ (Kd.R_reads' HO499.out).2.2); (case side4 => exact (Kd.R_reads' HO499.out).2.1); rintro e w17 ⟨v507, rfl, ho0, hb⟩; refine ⟨_, rfl, ?_⟩; replace HO496 := Aside0.mk (Kd.R_below (kR_ HO496.out) hb); have HO508 := Aside0.mk (Kd.R_lower (Kd.R_new' (Kd.R_new' ho0 (Kd.R_lt (kR_ HO499.out))) (Kd.R_lt (kR_ HO505.out))) (below_size (hbA_ HB.out))); replace HO499 := Aside0.mk (Kd.R_elder' (kR_ HO499.out) (Kd.R_base ho0) hb); replace HO505 := Aside0.mk (Kd.R_elder' (kR_ HO505.out) (Kd.R_base ho0) hb); replace BK502 := (bbA_ BK502 hb); replace HB := (bs_ HB hb); (try clear hb); (try clear hb2); (try clear hk); (try clear hi); (try clear ho0); obtain ⟨Ao18, co18, eo18⟩ := Kd.R_slice HO505.out; subst eo18; obtain ⟨Ao19, co19, eo19⟩ := Kd.R_slice HO508.out; subst eo19) | ((with_reducible refine gate_callee (f := 35) rfl ?_); refine goesL_ (some 29) rfl rfl Try.func35 (by kernel_rfl) rfl #[.slice Ao18 t503.length co18, .slice Ao19 t506.length co19] rfl ar_ ?_; (with_reducible refine (laws_sameBytes.calls _ _ t503 _ _ t506 true _ ?side1 ?side2 ?side3 ?side4 A6.out).mono ?_); (case side1 => exact kC_ (Kd.R_reads' HO505.out).2.2); (case side2 => exact (Kd.R_reads' HO505.out).2.1); (case side3 => exact kC_ (Kd.R_reads' HO508.out).2.2); (case side4 => exact (Kd.R_reads' HO508.out).2.1); rintro e w' ⟨rfl, ⟨nd, rfl⟩⟩; refine ⟨_, rfl, ?_⟩) | ((with_reducible refine gate_callee (f := 13) rfl ?_); refine goesL_ (some 34) rfl rfl Try.func13 (by kernel_rfl) rfl #[] rfl ar_ ?_; (with_reducible refine (laws_alive.calls k  t510 _ A9.out).mono ?_); rintro e w20 ⟨rfl, hb⟩; refine ⟨_, rfl, ?_⟩; replace HO496 := Aside0.mk (Kd.R_below (kR_ HO496.out) hb); replace HO499 := Aside0.mk (Kd.R_below (kR_ HO499.out) hb); replace HO505 := Aside0.mk (Kd.R_below (kR_ HO505.out) hb); replace HO508 := Aside0.mk (Kd.R_below (kR_ HO508.out) hb); replace BK502 := (bbA_ BK502 hb); replace HB := (bs_ HB hb); (try clear hb); (try clear hb2); (try clear hk); (try clear hi)))
    go_ret
    exact ⟨by first | rfl | (simp [errW_none, errW_some] <;> rfl) | (simp [*, errW_none, errW_some] <;> rfl), hbA_ HB.out⟩
   ·rw [if_neg c8] at H
    have c8b0 : ((t503.length : Int) == 0) = false := beq_eq_false_iff_ne.mpr c8
    have c8b1 : ((t503.length : Int) != 0) = true := bne_iff_ne.mpr c8
    have c8b2 : ¬ (t503 = []) := fun h_ => c8 (by rw [h_]; rfl)
    replace H := Option.bind_eq_some_iff.mp H
    obtain ⟨⟨t511, t512, t513, t514, t515, t516, t517, t518, t519, t520, t523, t526⟩, A210, H⟩ := H
    (try dsimp only at H)
    have A21 := Aside0.mk A210; clear A210
    replace H := Option.bind_eq_some_iff.mp H
    obtain ⟨⟨t528, t529, t530, t531, t532, t533, t534, t535, t536, t537, t540, t543⟩, A220, H⟩ := H
    (try dsimp only at H)
    have A22 := Aside0.mk A220; clear A220
    by_cases c23 : t526 = true
    ·subst c23
     rw [if_pos rfl] at H
     replace H := Option.bind_eq_some_iff.mp H
     obtain ⟨t545, A240, H⟩ := H
     (try dsimp only at H)
     have A24 := Aside0.mk A240; clear A240
     by_cases c25 : t545 = true
     ·subst c25
      rw [if_pos rfl] at H
      obtain rfl := Option.some.inj H
      go_enter Try.func8, Try.ntmps8
      go_wp2_with (first | ((with_reducible refine gate_callee (f := 37) rfl ?_); refine goesL_ (some 16) rfl rfl Try.func37 (by kernel_rfl) rfl #[.slice A0 l0.length c0] rfl ar_ ?_; (with_reducible refine (spec_DrawSegmentBytes.calls k _ _ l0 t485 t486 t487 t488 t489 t490 t491 t492 t493 t494 t497 t500 t501 _ ?side1 ?side2 A3.out).mono ?_); (case side1 => exact kC_ HR0.out); (case side2 => exact HC0.out); rintro e w26 ⟨v495, v498, rfl, ho0, ho1, hb⟩; refine ⟨_, rfl, ?_⟩; have HO496 := Aside0.mk (Kd.R_lower ho0 (below_size (hbA_ HB.out))); have HO499 := Aside0.mk (Kd.R_lower ho1 (below_size (hbA_ HB.out))); replace HB := (bs_ HB hb); (try clear hb); (try clear hb2); (try clear hk); (try clear hi); (try clear ho0); (try clear ho1)) | ((with_reducible refine gate_dst (N := 3) rfl ?_); refine box_ (N := 3) (cs := #[.int .i64 0, .int .i64 0, .int .i64 0, .int .i64 0, .int .i64 0, .bool false, .bool false, .bool false, .bool false, .slice none 0 0, .slice none 0 0]) (t := 52) (fun gb502 hg w27 hbox hb => ?_); replace HO496 := Aside0.mk (Kd.R_below (kR_ HO496.out) hb); replace HO499 := Aside0.mk (Kd.R_below (kR_ HO499.out) hb); have BK502 := Aside0.mk (hbox); have GW502 := ge_ hg HB; have GE502 := ge_ hg HB; replace HB := (bs_ HB hb); clear hb hbox hg; have Z28 := zz11 BK502; obtain ⟨Ao29, co29, eo29⟩ := Kd.R_slice HO496.out; subst eo29; obtain ⟨Ao30, co30, eo30⟩ := Kd.R_slice HO499.out; subst eo30) | ((with_reducible refine gate_callee (f := 36) rfl ?_); refine goesL_ (some 23) rfl rfl Try.func36 (by kernel_rfl) rfl #[.agg #[.int .i64 t485, .int .i64 t486, .int .i64 t487, .int .i64 t488, .int .i64 t489, .bool t490, .bool t491, .bool t492, .bool t493, .slice Ao29 t494.length co29, .slice Ao30 t497.length co30], .int .i64 t500, .int .i64 t501] rfl ar_ ?_; (with_reducible refine (impl_SegmentBytes.calls k t485 t486 t487 t488 t489 t490 t491 t492 t493 _ _ t494 _ _ t497 t500 t501 t503 _ ?side1 ?side2 ?side3 ?side4 A4.out).mono ?_); (case side1 => refine (Kd.R_reads' (e := 90) (base := w.heap.size) (ok := fun k_ => True) (n := t494.length) (c := co29) ?_).2.2; exact (by refine kR_ ?_; exact (rfm_ ((Kd.R_types HO496.out BK502.out (by decide))) (fun _ h_ => op1_ h_)))); (case side2 => exact (Kd.R_reads' HO496.out).2.1); (case side3 => refine (Kd.R_reads' (e := 5) (base := w.heap.size) (ok := fun k_ => True) (n := t497.length) (c := co30) ?_).2.2; exact (by refine kR_ ?_; exact (rfm_ ((Kd.R_types HO499.out BK502.out (by decide))) (fun _ h_ => op1_ h_)))); (case side4 => exact (Kd.R_reads' HO499.out).2.1); rintro e w31 ⟨v504, rfl, ho0, hb⟩; refine ⟨_, rfl, ?_⟩; replace HO496 := Aside0.mk (Kd.R_below (by refine kR_ ?_; exact (rfm_ ((Kd.R_types HO496.out BK502.out (by decide))) (fun _ h_ => op1_ h_))) hb); have HO505 := Aside0.mk (Kd.R_lower (Kd.R_new' ho0 (Kd.R_lt (by refine kR_ ?_; exact (rfm_ ((Kd.R_types HO499.out BK502.out (by decide))) (fun _ h_ => op1_ h_))))) (below_size (hbA_ HB.out))); replace HO499 := Aside0.mk (Kd.R_elder' (by refine kR_ ?_; exact (rfm_ ((Kd.R_types HO499.out BK502.out (by decide))) (fun _ h_ => op1_ h_))) (Kd.R_base ho0) hb); replace BK502 := Aside0.mk (blk_below (g := gb502) (o := .cells #[.int .i64 t485, .int .i64 t486, .int .i64 t487, .int .i64 t488, .int .i64 t489, .bool t490, .bool t491, .bool t492, .bool t493, .slice Ao29 t494.length co29, .slice Ao30 t497.length co30] 52 (0, 0)) (by refine kb_ ?_; refine pz11 (cs := #[.int .i64 0, .int .i64 0, .int .i64 0, .int .i64 0, .int .i64 0, .bool false, .bool false, .bool false, .bool false, .slice none 0 0, .slice none 0 0]) ?_; refine kb_ ?_; exact BK502.out) hb); replace HB := (bs_ HB hb); (try clear hb); (try clear hb2); (try clear hk); (try clear hi); (try clear ho0); have Z32 := zz11 BK502) | ((with_reducible refine gate_callee (f := 38) rfl ?_); refine goesL_ (some 28) rfl rfl Try.func38 (by kernel_rfl) rfl #[.agg #[.int .i64 t485, .int .i64 t486, .int .i64 t487, .int .i64 t488, .int .i64 t489, .bool t490, .bool t491, .bool t492, .bool t493, .slice Ao29 t494.length co29, .slice Ao30 t497.length co30], .int .i64 t500, .int .i64 t501] rfl ar_ ?_; (with_reducible refine (spec_SegmentBytes.calls k t485 t486 t487 t488 t489 t490 t491 t492 t493 _ _ t494 _ _ t497 t500 t501 t506 _ ?side1 ?side2 ?side3 ?side4 A5.out).mono ?_); (case side1 => exact kC_ (Kd.R_reads' HO496.out).2.2); (case side2 => exact (Kd.R_reads' HO496.out).2.1); (case side3 => exact kC_ (Kd.R_reads' HO499.out).2.2); (case side4 => exact (Kd.R_reads' HO499.out).2.1); rintro e w33 ⟨v507, rfl, ho0, hb⟩; refine ⟨_, rfl, ?_⟩; replace HO496 := Aside0.mk (Kd.R_below (kR_ HO496.out) hb); have HO508 := Aside0.mk (Kd.R_lower (Kd.R_new' (Kd.R_new' ho0 (Kd.R_lt (kR_ HO499.out))) (Kd.R_lt (kR_ HO505.out))) (below_size (hbA_ HB.out))); replace HO499 := Aside0.mk (Kd.R_elder' (kR_ HO499.out) (Kd.R_base ho0) hb); replace HO505 := Aside0.mk (Kd.R_elder' (kR_ HO505.out) (Kd.R_base ho0) hb); replace BK502 := (bbA_ BK502 hb); replace HB := (bs_ HB hb); (try clear hb); (try clear hb2); (try clear hk); (try clear hi); (try clear ho0); obtain ⟨Ao34, co34, eo34⟩ := Kd.R_slice HO505.out; subst eo34; obtain ⟨Ao35, co35, eo35⟩ := Kd.R_slice HO508.out; subst eo35) | ((with_reducible refine gate_callee (f := 35) rfl ?_); refine goesL_ (some 29) rfl rfl Try.func35 (by kernel_rfl) rfl #[.slice Ao34 t503.length co34, .slice Ao35 t506.length co35] rfl ar_ ?_; (with_reducible refine (laws_sameBytes.calls _ _ t503 _ _ t506 true _ ?side1 ?side2 ?side3 ?side4 A6.out).mono ?_); (case side1 => exact kC_ (Kd.R_reads' HO505.out).2.2); (case side2 => exact (Kd.R_reads' HO505.out).2.1); (case side3 => exact kC_ (Kd.R_reads' HO508.out).2.2); (case side4 => exact (Kd.R_reads' HO508.out).2.1); rintro e w' ⟨rfl, ⟨nd, rfl⟩⟩; refine ⟨_, rfl, ?_⟩; (try ((try simp only [World.drewN_drewN]); rw [drewN_self w33]; generalize hq_ : World.drewN w33 _ = w33; have n0_ : Aside0 (Kd.R k90 90 w33 w.heap.size (fun _ => True) (.slice Ao29 t494.length co29) t494) := ⟨by rw [← hq_]; exact (kR_ HO496.out)⟩; have n1_ : Aside0 (Kd.R (Kd.int .u8) 5 w33 w.heap.size (fun k_ => ((True ∧ some k_ ≠ (.slice Ao34 t503.length co34 : Value).ownBlock) ∧ some k_ ≠ (.slice Ao35 t506.length co35 : Value).ownBlock)) (.slice Ao30 t497.length co30) t497) := ⟨by rw [← hq_]; exact (kR_ HO499.out)⟩; have n2_ : Aside0 (Kd.R (Kd.int .u8) 5 w33 w.heap.size (fun k_ => ((True ∧ some k_ ≠ (.slice Ao30 t497.length co30 : Value).ownBlock) ∧ some k_ ≠ (.slice Ao35 t506.length co35 : Value).ownBlock)) (.slice Ao34 t503.length co34) t503) := ⟨by rw [← hq_]; exact (kR_ HO505.out)⟩; have n3_ : Aside0 (Kd.R (Kd.int .u8) 5 w33 w.heap.size (fun k_ => ((True ∧ some k_ ≠ (.slice Ao30 t497.length co30 : Value).ownBlock) ∧ some k_ ≠ (.slice Ao34 t503.length co34 : Value).ownBlock)) (.slice Ao35 t506.length co35) t506) := ⟨by rw [← hq_]; exact (kR_ HO508.out)⟩; have n4_ : Aside0 (w33.heap[gb502]? = some (.cells #[.int .i64 t485, .int .i64 t486, .int .i64 t487, .int .i64 t488, .int .i64 t489, .bool t490, .bool t491, .bool t492, .bool t493, .slice Ao29 t494.length co29, .slice Ao30 t497.length co30] 52 (0, 0))) := ⟨by rw [← hq_]; exact (kb_ BK502.out)⟩; have n5_ : Aside0 (Below w.heap.size w w33) := ⟨by rw [← hq_]; exact (hbA_ HB.out)⟩; clear HO496 HO499 HO505 HO508 BK502 HB hq_; have HO496 := n0_; have HO499 := n1_; have HO505 := n2_; have HO508 := n3_; have BK502 := n4_; have HB := n5_; clear n0_ n1_ n2_ n3_ n4_ n5_))) | ((with_reducible refine gate_callee (f := 27) rfl ?_); refine goesL_ (some 39) rfl rfl Try.func27 (by kernel_rfl) rfl #[.slice Ao34 t503.length co34, .int .i64 t500, .int .i64 t501] rfl ar_ ?_; (with_reducible refine (impl_SegmentFrom.calls k _ _ t503 t500 t501 t511 t512 t513 t514 t515 t516 t517 t518 t519 t520 t523 true _ ?side1 ?side2 A21.out).mono ?_); (case side1 => exact kC_ (Kd.R_reads' HO505.out).2.2); (case side2 => exact (Kd.R_reads' HO505.out).2.1); rintro e w36 ⟨v521, v524, rfl, ho0, ho1, hb⟩; refine ⟨_, rfl, ?_⟩; have HO522 := Aside0.mk (Kd.R_lower (Kd.R_new' ho0 (Kd.R_lt (kR_ HO496.out))) (below_size (hbA_ HB.out))); replace HO496 := Aside0.mk (Kd.R_elder' (kR_ HO496.out) (Kd.R_base ho0) hb); have HO525 := Aside0.mk (Kd.R_lower (Kd.R_new' (Kd.R_new' (Kd.R_new' ho1 (Kd.R_lt (kR_ HO499.out))) (Kd.R_lt (kR_ HO505.out))) (Kd.R_lt (kR_ HO508.out))) (below_size (hbA_ HB.out))); replace HO499 := Aside0.mk (Kd.R_elder' (kR_ HO499.out) (Kd.R_base ho1) hb); replace HO505 := Aside0.mk (Kd.R_elder' (kR_ HO505.out) (Kd.R_base ho1) hb); replace HO508 := Aside0.mk (Kd.R_elder' (kR_ HO508.out) (Kd.R_base ho1) hb); replace BK502 := (bbA_ BK502 hb); replace HB := (bs_ HB hb); (try clear hb); (try clear hb2); (try clear hk); (try clear hi); (try clear ho0); (try clear ho1)) | ((with_reducible refine gate_dst (N := 7) rfl ?_); refine box_ (N := 7) (cs := #[.int .i64 0, .int .i64 0, .int .i64 0, .int .i64 0, .int .i64 0, .bool false, .bool false, .bool false, .bool false, .slice none 0 0, .slice none 0 0]) (t := 52) (fun gb527 hg w37 hbox hb => ?_); replace HO496 := Aside0.mk (Kd.R_below (kR_ HO496.out) hb); replace HO499 := Aside0.mk (Kd.R_below (kR_ HO499.out) hb); replace HO505 := Aside0.mk (Kd.R_below (kR_ HO505.out) hb); replace HO508 := Aside0.mk (Kd.R_below (kR_ HO508.out) hb); replace HO522 := Aside0.mk (Kd.R_below (kR_ HO522.out) hb); replace HO525 := Aside0.mk (Kd.R_below (kR_ HO525.out) hb); have BK527 := Aside0.mk (hbox); have GW527 := ge_ hg HB; have GE527 := ge_ hg HB; replace HB := (bs_ HB hb); have NB502_527 := nl_ hg BK502; have NB527_502 := ng_ hg BK502; replace BK502 := (bbA_ BK502 hb); clear hb hbox hg; have hnb38 := NB527_502.out; have hnc38 := NB502_527.out; have Z39 := zz11 BK527; obtain ⟨Ao40, co40, eo40⟩ := Kd.R_slice HO522.out; subst eo40; obtain ⟨Ao41, co41, eo41⟩ := Kd.R_slice HO525.out; subst eo41) | ((with_reducible refine gate_callee (f := 27) rfl ?_); refine goesL_ (some 47) rfl rfl Try.func27 (by kernel_rfl) rfl #[.slice Ao34 t503.length co34, .int .i64 (wrap64 (t500 + 1)), .int .i64 t501] rfl ar_ ?_; (with_reducible refine (impl_SegmentFrom.calls k _ _ t503 (wrap64 (t500 + 1)) t501 t528 t529 t530 t531 t532 t533 t534 t535 t536 t537 t540 t543 _ ?side1 ?side2 A22.out).mono ?_); (case side1 => refine (Kd.R_reads' (e := 5) (base := w.heap.size) (ok := fun k_ => (((True ∧ some k_ ≠ (.slice Ao30 t497.length co30 : Value).ownBlock) ∧ some k_ ≠ (.slice Ao35 t506.length co35 : Value).ownBlock) ∧ some k_ ≠ (.slice Ao41 t523.length co41 : Value).ownBlock)) (n := t503.length) (c := co34) ?_).2.2; exact (by refine kR_ ?_; exact (rfm_ ((Kd.R_types HO505.out BK527.out (by decide))) (fun _ h_ => op1_ h_)))); (case side2 => exact (Kd.R_reads' HO505.out).2.1); rintro e w42 ⟨v538, v541, rfl, ho0, ho1, hb⟩; refine ⟨_, rfl, ?_⟩; have HO539 := Aside0.mk (Kd.R_lower (Kd.R_new' (Kd.R_new' ho0 (Kd.R_lt (by refine kR_ ?_; exact (rfm_ ((Kd.R_types HO496.out BK527.out (by decide))) (fun _ h_ => op1_ h_))))) (Kd.R_lt (by refine kR_ ?_; exact (rfm_ ((Kd.R_types HO522.out BK527.out (by decide))) (fun _ h_ => op1_ h_))))) (below_size (hbA_ HB.out))); replace HO496 := Aside0.mk (Kd.R_elder' (by refine kR_ ?_; exact (rfm_ ((Kd.R_types HO496.out BK527.out (by decide))) (fun _ h_ => op1_ h_))) (Kd.R_base ho0) hb); replace HO522 := Aside0.mk (Kd.R_elder' (by refine kR_ ?_; exact (rfm_ ((Kd.R_types HO522.out BK527.out (by decide))) (fun _ h_ => op1_ h_))) (Kd.R_base ho0) hb); have HO542 := Aside0.mk (Kd.R_lower (Kd.R_new' (Kd.R_new' (Kd.R_new' (Kd.R_new' ho1 (Kd.R_lt (by refine kR_ ?_; exact (rfm_ ((Kd.R_types HO499.out BK527.out (by decide))) (fun _ h_ => op1_ h_))))) (Kd.R_lt (by refine kR_ ?_; exact (rfm_ ((Kd.R_types HO505.out BK527.out (by decide))) (fun _ h_ => op1_ h_))))) (Kd.R_lt (by refine kR_ ?_; exact (rfm_ ((Kd.R_types HO508.out BK527.out (by decide))) (fun _ h_ => op1_ h_))))) (Kd.R_lt (by refine kR_ ?_; exact (rfm_ ((Kd.R_types HO525.out BK527.out (by decide))) (fun _ h_ => op1_ h_))))) (below_size (hbA_ HB.out))); replace HO499 := Aside0.mk (Kd.R_elder' (by refine kR_ ?_; exact (rfm_ ((Kd.R_types HO499.out BK527.out (by decide))) (fun _ h_ => op1_ h_))) (Kd.R_base ho1) hb); replace HO505 := Aside0.mk (Kd.R_elder' (by refine kR_ ?_; exact (rfm_ ((Kd.R_types HO505.out BK527.out (by decide))) (fun _ h_ => op1_ h_))) (Kd.R_base ho1) hb); replace HO508 := Aside0.mk (Kd.R_elder' (by refine kR_ ?_; exact (rfm_ ((Kd.R_types HO508.out BK527.out (by decide))) (fun _ h_ => op1_ h_))) (Kd.R_base ho1) hb); replace HO525 := Aside0.mk (Kd.R_elder' (by refine kR_ ?_; exact (rfm_ ((Kd.R_types HO525.out BK527.out (by decide))) (fun _ h_ => op1_ h_))) (Kd.R_base ho1) hb); replace BK502 := Aside0.mk (blk_below (g := gb502) (o := .cells #[.int .i64 t485, .int .i64 t486, .int .i64 t487, .int .i64 t488, .int .i64 t489, .bool t490, .bool t491, .bool t492, .bool t493, .slice Ao29 t494.length co29, .slice Ao30 t497.length co30] 52 (0, 0)) (by exact kf_ BK502.out) hb); replace BK527 := Aside0.mk (blk_below (g := gb527) (o := .cells #[.int .i64 t511, .int .i64 t512, .int .i64 t513, .int .i64 t514, .int .i64 t515, .bool t516, .bool t517, .bool t518, .bool t519, .slice Ao40 t520.length co40, .slice Ao41 t523.length co41] 52 (0, 0)) (by refine kb_ ?_; refine pz11 (cs := #[.int .i64 0, .int .i64 0, .int .i64 0, .int .i64 0, .int .i64 0, .bool false, .bool false, .bool false, .bool false, .slice none 0 0, .slice none 0 0]) ?_; refine kb_ ?_; exact BK527.out) hb); replace HB := (bs_ HB hb); (try clear hb); (try clear hb2); (try clear hk); (try clear hi); (try clear ho0); (try clear ho1)) | ((with_reducible refine gate_dst (N := 9) rfl ?_); refine box_ (N := 9) (cs := #[.int .i64 0, .int .i64 0, .int .i64 0, .int .i64 0, .int .i64 0, .bool false, .bool false, .bool false, .bool false, .slice none 0 0, .slice none 0 0]) (t := 52) (fun gb544 hg w43 hbox hb => ?_); replace HO496 := Aside0.mk (Kd.R_below (kR_ HO496.out) hb); replace HO499 := Aside0.mk (Kd.R_below (kR_ HO499.out) hb); replace HO505 := Aside0.mk (Kd.R_below (kR_ HO505.out) hb); replace HO508 := Aside0.mk (Kd.R_below (kR_ HO508.out) hb); replace HO522 := Aside0.mk (Kd.R_below (kR_ HO522.out) hb); replace HO525 := Aside0.mk (Kd.R_below (kR_ HO525.out) hb); replace HO539 := Aside0.mk (Kd.R_below (kR_ HO539.out) hb); replace HO542 := Aside0.mk (Kd.R_below (kR_ HO542.out) hb); have BK544 := Aside0.mk (hbox); have GW544 := ge_ hg HB; have GE544 := ge_ hg HB; replace HB := (bs_ HB hb); have NB502_544 := nl_ hg BK502; have NB544_502 := ng_ hg BK502; replace BK502 := (bbA_ BK502 hb); have NB527_544 := nl_ hg BK527; have NB544_527 := ng_ hg BK527; replace BK527 := (bbA_ BK527 hb); clear hb hbox hg; have hnb44 := NB544_502.out; have hnc44 := NB502_544.out; have hnb45 := NB544_527.out; have hnc45 := NB527_544.out; have Z46 := zz11 BK544; obtain ⟨Ao47, co47, eo47⟩ := Kd.R_slice HO539.out; subst eo47; obtain ⟨Ao48, co48, eo48⟩ := Kd.R_slice HO542.out; subst eo48; have Z49 := zz11 BK527; have Z50 := zz11 BK502) | (go_at_call 34; (with_reducible refine (laws_sameSegment.calls k t511 t512 t513 t514 t515 t516 t517 t518 t519 _ _ t520 _ _ t523 t485 t486 t487 t488 t489 t490 t491 t492 t493 _ _ t494 _ _ t497 true _ ?side1 ?side2 ?side3 ?side4 ?side5 ?side6 ?side7 ?side8 A24.out).mono ?_); (case side1 => refine (Kd.R_reads' (e := 90) (base := w.heap.size) (ok := fun k_ => ((True ∧ some k_ ≠ (.slice Ao29 t494.length co29 : Value).ownBlock) ∧ some k_ ≠ (.slice Ao47 t537.length co47 : Value).ownBlock)) (n := t520.length) (c := co40) ?_).2.2; exact (by refine kR_ ?_; exact (rfm_ ((Kd.R_types HO522.out BK544.out (by decide))) (fun _ h_ => op1_ h_)))); (case side2 => exact (Kd.R_reads' HO522.out).2.1); (case side3 => refine (Kd.R_reads' (e := 5) (base := w.heap.size) (ok := fun k_ => ((((True ∧ some k_ ≠ (.slice Ao30 t497.length co30 : Value).ownBlock) ∧ some k_ ≠ (.slice Ao34 t503.length co34 : Value).ownBlock) ∧ some k_ ≠ (.slice Ao35 t506.length co35 : Value).ownBlock) ∧ some k_ ≠ (.slice Ao48 t540.length co48 : Value).ownBlock)) (n := t523.length) (c := co41) ?_).2.2; exact (by refine kR_ ?_; exact (rfm_ ((Kd.R_types HO525.out BK544.out (by decide))) (fun _ h_ => op1_ h_)))); (case side4 => exact (Kd.R_reads' HO525.out).2.1); (case side5 => refine (Kd.R_reads' (e := 90) (base := w.heap.size) (ok := fun k_ => ((True ∧ some k_ ≠ (.slice Ao40 t520.length co40 : Value).ownBlock) ∧ some k_ ≠ (.slice Ao47 t537.length co47 : Value).ownBlock)) (n := t494.length) (c := co29) ?_).2.2; exact (by refine kR_ ?_; exact (rfm_ ((Kd.R_types HO496.out BK544.out (by decide))) (fun _ h_ => op1_ h_)))); (case side6 => exact (Kd.R_reads' HO496.out).2.1); (case side7 => refine (Kd.R_reads' (e := 5) (base := w.heap.size) (ok := fun k_ => ((((True ∧ some k_ ≠ (.slice Ao34 t503.length co34 : Value).ownBlock) ∧ some k_ ≠ (.slice Ao35 t506.length co35 : Value).ownBlock) ∧ some k_ ≠ (.slice Ao41 t523.length co41 : Value).ownBlock) ∧ some k_ ≠ (.slice Ao48 t540.length co48 : Value).ownBlock)) (n := t497.length) (c := co30) ?_).2.2; exact (by refine kR_ ?_; exact (rfm_ ((Kd.R_types HO499.out BK544.out (by decide))) (fun _ h_ => op1_ h_)))); (case side8 => exact (Kd.R_reads' HO499.out).2.1); rintro e w51 ⟨rfl, hb⟩; replace HO496 := Aside0.mk (Kd.R_below (by refine kR_ ?_; exact (rfm_ ((Kd.R_types HO496.out BK544.out (by decide))) (fun _ h_ => op1_ h_))) hb); replace HO499 := Aside0.mk (Kd.R_below (by refine kR_ ?_; exact (rfm_ ((Kd.R_types HO499.out BK544.out (by decide))) (fun _ h_ => op1_ h_))) hb); replace HO505 := Aside0.mk (Kd.R_below (by refine kR_ ?_; exact (rfm_ ((Kd.R_types HO505.out BK544.out (by decide))) (fun _ h_ => op1_ h_))) hb); replace HO508 := Aside0.mk (Kd.R_below (by refine kR_ ?_; exact (rfm_ ((Kd.R_types HO508.out BK544.out (by decide))) (fun _ h_ => op1_ h_))) hb); replace HO522 := Aside0.mk (Kd.R_below (by refine kR_ ?_; exact (rfm_ ((Kd.R_types HO522.out BK544.out (by decide))) (fun _ h_ => op1_ h_))) hb); replace HO525 := Aside0.mk (Kd.R_below (by refine kR_ ?_; exact (rfm_ ((Kd.R_types HO525.out BK544.out (by decide))) (fun _ h_ => op1_ h_))) hb); replace HO539 := Aside0.mk (Kd.R_below (by refine kR_ ?_; exact (rfm_ ((Kd.R_types HO539.out BK544.out (by decide))) (fun _ h_ => op1_ h_))) hb); replace HO542 := Aside0.mk (Kd.R_below (by refine kR_ ?_; exact (rfm_ ((Kd.R_types HO542.out BK544.out (by decide))) (fun _ h_ => op1_ h_))) hb); replace BK502 := Aside0.mk (blk_below (g := gb502) (o := .cells #[.int .i64 t485, .int .i64 t486, .int .i64 t487, .int .i64 t488, .int .i64 t489, .bool t490, .bool t491, .bool t492, .bool t493, .slice Ao29 t494.length co29, .slice Ao30 t497.length co30] 52 (0, 0)) (by exact kf_ BK502.out) hb); replace BK527 := Aside0.mk (blk_below (g := gb527) (o := .cells #[.int .i64 t511, .int .i64 t512, .int .i64 t513, .int .i64 t514, .int .i64 t515, .bool t516, .bool t517, .bool t518, .bool t519, .slice Ao40 t520.length co40, .slice Ao41 t523.length co41] 52 (0, 0)) (by exact kf_ BK527.out) hb); replace BK544 := Aside0.mk (blk_below (g := gb544) (o := .cells #[.int .i64 t528, .int .i64 t529, .int .i64 t530, .int .i64 t531, .int .i64 t532, .bool t533, .bool t534, .bool t535, .bool t536, .slice Ao47 t537.length co47, .slice Ao48 t540.length co48] 52 (0, 0)) (by refine kb_ ?_; refine pz11 (cs := #[.int .i64 0, .int .i64 0, .int .i64 0, .int .i64 0, .int .i64 0, .bool false, .bool false, .bool false, .bool false, .slice none 0 0, .slice none 0 0]) ?_; refine kb_ ?_; exact BK544.out) hb); replace HB := (bs_ HB hb); (try clear hb); (try clear hb2); (try clear hk); (try clear hi)))
      go_ret
      exact ⟨by first | rfl | (simp [errW_none, errW_some] <;> rfl) | (simp [*, errW_none, errW_some] <;> rfl), hbA_ HB.out⟩
     ·replace c25 := Bool.eq_false_iff.mpr c25
      subst c25
      rw [if_neg (show ¬ (false = true) by decide)] at H
      exact absurd (Option.some.inj H) (by rw [HLW.out]; exact Bool.false_ne_true)
    ·replace c23 := Bool.eq_false_iff.mpr c23
     subst c23
     rw [if_neg (show ¬ (false = true) by decide)] at H
     exact absurd (Option.some.inj H) (by rw [HLW.out]; exact Bool.false_ne_true)
  ·replace c7 := Bool.eq_false_iff.mpr c7
   subst c7
   rw [if_neg (show ¬ (false = true) by decide)] at H
   exact absurd (Option.some.inj H) (by rw [HLW.out]; exact Bool.false_ne_true)
def laws_FnSegmentBytes.Pure : Prop := ∀ (l0 : List Int), l0.length ≤ maxLen → l0.length * 1 ≤ 140737488351232 → (∀ x ∈ l0, (Lit.int .u8 x).wf = true) → ∃ k, laws_FnSegmentBytes.f k l0 = some true
theorem laws_FnSegmentBytes.walk (P : laws_FnSegmentBytes.Pure) (a0 : Option Addr) (len0 cap0 : Nat) (z0 : List Int) (w : World) (w0 : (a0 = none ∧ len0 = 0 ∧ cap0 = 0 ∧ z0 = []) ∨ ∃ x, a0 = some x ∧ len0 ≤ cap0 ∧ cap0 ≤ maxLen ∧ z0.length = cap0 ∧ (∀ i, i < z0.length → w.cell? (x.add i) = some (.int .u8 (z0.getD i 0))) ∧ ∀ n ∈ z0, (Lit.int .u8 n).wf = true) (y0 : len0 * 1 ≤ 140737488351232) :
  Calls Try.prog 8 #[.slice a0 len0 cap0] w fun e w' => e = .returned (.bool true) ∧ Below w.heap.size w w' := by
 obtain ⟨l0, rfl, hr0, hm0, hw0, hc0⟩ := ReadsInt.ofRowC w0
 obtain ⟨k, h⟩ := P l0 hm0 y0 hw0
 refine (laws_FnSegmentBytes.calls k _ _ l0 true w (Kd.C_of_reads (d := (0 : Int)) (h1 := fun _ => rfl) hr0) hc0 h rfl).mono ?_
 rintro e w' ⟨rfl, hd⟩
 exact ⟨rfl, hd⟩
end Go.Proofs.Ytpbeljcgcdilnaa.PFnSegmentBytes
