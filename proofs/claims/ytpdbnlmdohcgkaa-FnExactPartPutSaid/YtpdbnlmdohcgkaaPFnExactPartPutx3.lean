/- Printed by wip/xp/xprint.sh out of the translation, for this claim: what each function answers, as a plain function, and that the machine does just that. No condition. -/
import Derived.Test.YtpdbnlmdohcgkaaPFnExactPartPutx0
import Derived.Test.YtpdbnlmdohcgkaaPFnExactPartPutx1
import Derived.Test.YtpdbnlmdohcgkaaPFnExactPartPutx2
namespace Go.Proofs.Ytpdbnlmdohcgkaa.PFnExactPartPut
open Go.RowKit Go.Proofs.YtpdbnlmdohcgkaaW.PrintWords Go.Proofs.YtpdbnlmdohcgkaaW.PrintLast Go.Proofs.YtpdbnlmdohcgkaaW.PrintMore
attribute [local go_sem] max2_int min2_int max_two min_two max_three min_three max_four min_four   -- for this text's walks alone
set_option linter.unusedVariables false
set_option linter.unusedSimpArgs false
mutual
def spec_PartPut.j0 : Nat → Bool → List (S36) → Int → Int → Int → Int → Int → Int → Int → Bool → Bool → List Int → Option ((List (S36)) × Int × Bool)
 | 0, _, _, _, _, _, _, _, _, _, _, _, _ => none
 | k + 1, x27, x135000, x135001, x136000, x136001, x136002, x136003, x136004, x136005, x136006, x136007, x136008 => if x27 = true then (some (([] : List (S36)), 0, false)) else (spec_PartPut.l0 k false 0 x135000 x135001 x136000 x136001 x136002 x136003 x136004 x136005 x136006 x136007 x136008 x135001)
def spec_PartPut.l0 : Nat → Bool → Int → List (S36) → Int → Int → Int → Int → Int → Int → Int → Bool → Bool → List Int → Int → Option ((List (S36)) × Int × Bool)
 | 0, _, _, _, _, _, _, _, _, _, _, _, _, _, _ => none
 | k + 1, x7, x8, x135000, x135001, x136000, x136001, x136002, x136003, x136004, x136005, x136006, x136007, x136008, x142001 => if x8 < (x135000.length : Int) then (if 0 ≤ x8 then (if ((rd_T36 x135000 x8).f5) = x136005 then (if (((rd_T36 x135000 x8).f6) == x136006) = true then (spec_PartPut.j2 k x7 x8 ((strOfNums ((rd_T36 x135000 x8).f8)).toList == (strOfNums x136008).toList) x135000 x135001 x136000 x136001 x136002 x136003 x136004 x136005 x136006 x136007 x136008 x142001) else (spec_PartPut.j2 k x7 x8 false x135000 x135001 x136000 x136001 x136002 x136003 x136004 x136005 x136006 x136007 x136008 x142001)) else (spec_PartPut.j2 k x7 x8 false x135000 x135001 x136000 x136001 x136002 x136003 x136004 x136005 x136006 x136007 x136008 x142001)) else (none)) else (spec_PartPut.l1 k x7 0 x135000 x135001 x136000 x136001 x136002 x136003 x136004 x136005 x136006 x136007 x136008 ([] : List (S36)) x142001)
def spec_PartPut.j2 : Nat → Bool → Int → Bool → List (S36) → Int → Int → Int → Int → Int → Int → Int → Bool → Bool → List Int → Int → Option ((List (S36)) × Int × Bool)
 | 0, _, _, _, _, _, _, _, _, _, _, _, _, _, _, _ => none
 | k + 1, x7, x8, x64, x135000, x135001, x136000, x136001, x136002, x136003, x136004, x136005, x136006, x136007, x136008, x142001 => if x64 = true then (spec_PartPut.l0 k true (wrap64 (x8 + 1)) x135000 x135001 x136000 x136001 x136002 x136003 x136004 x136005 x136006 x136007 x136008 x142001) else (spec_PartPut.l0 k x7 (wrap64 (x8 + 1)) x135000 x135001 x136000 x136001 x136002 x136003 x136004 x136005 x136006 x136007 x136008 x142001)
def spec_PartPut.l1 : Nat → Bool → Int → List (S36) → Int → Int → Int → Int → Int → Int → Int → Bool → Bool → List Int → List (S36) → Int → Option ((List (S36)) × Int × Bool)
 | 0, _, _, _, _, _, _, _, _, _, _, _, _, _, _, _ => none
 | k + 1, x7, x10, x135000, x135001, x136000, x136001, x136002, x136003, x136004, x136005, x136006, x136007, x136008, x142000, x142001 => if x10 < (x135000.length : Int) then (if x7 = true then (spec_PartPut.j4 k x7 x10 false x135000 x135001 x136000 x136001 x136002 x136003 x136004 x136005 x136006 x136007 x136008 x142000 x142001) else (if 0 ≤ x10 then (spec_PartPut.j4 k x7 x10 (decide (x136005 < ((rd_T36 x135000 x10).f5))) x135000 x135001 x136000 x136001 x136002 x136003 x136004 x136005 x136006 x136007 x136008 x142000 x142001) else (none))) else (if x7 = true then (spec_PartPut.j5 k x142000 x142001) else ((spec_l5Copy.f x136000 x136001 x136002 x136003 x136004 x136005 x136006 x136007 x136008).bind fun bt189 => (if x142000.length < 1759218604441 then (spec_PartPut.j5 k (x142000 ++ [(⟨bt189.1, bt189.2.1, bt189.2.2.1, bt189.2.2.2.1, bt189.2.2.2.2.1, bt189.2.2.2.2.2.1, bt189.2.2.2.2.2.2.1, bt189.2.2.2.2.2.2.2.1, bt189.2.2.2.2.2.2.2.2⟩ : S36)]) x142001) else (none))))
def spec_PartPut.j4 : Nat → Bool → Int → Bool → List (S36) → Int → Int → Int → Int → Int → Int → Int → Bool → Bool → List Int → List (S36) → Int → Option ((List (S36)) × Int × Bool)
 | 0, _, _, _, _, _, _, _, _, _, _, _, _, _, _, _, _ => none
 | k + 1, x7, x10, x84, x135000, x135001, x136000, x136001, x136002, x136003, x136004, x136005, x136006, x136007, x136008, x142000, x142001 => if x84 = true then ((spec_l5Copy.f x136000 x136001 x136002 x136003 x136004 x136005 x136006 x136007 x136008).bind fun bt145 => (if x142000.length < 1759218604441 then ((some (x142000 ++ [(⟨bt145.1, bt145.2.1, bt145.2.2.1, bt145.2.2.2.1, bt145.2.2.2.2.1, bt145.2.2.2.2.2.1, bt145.2.2.2.2.2.2.1, bt145.2.2.2.2.2.2.2.1, bt145.2.2.2.2.2.2.2.2⟩ : S36)] : List (S36))).bind fun y156 => (if 0 ≤ x10 then (if x10 < (x135000.length : Int) then ((spec_l5Copy.f ((rd_T36 x135000 x10).f0) ((rd_T36 x135000 x10).f1) ((rd_T36 x135000 x10).f2) ((rd_T36 x135000 x10).f3) ((rd_T36 x135000 x10).f4) ((rd_T36 x135000 x10).f5) ((rd_T36 x135000 x10).f6) ((rd_T36 x135000 x10).f7) ((rd_T36 x135000 x10).f8)).bind fun bt160 => (if y156.length < 1759218604441 then (spec_PartPut.l1 k true (wrap64 (x10 + 1)) x135000 x135001 x136000 x136001 x136002 x136003 x136004 x136005 x136006 x136007 x136008 (y156 ++ [(⟨bt160.1, bt160.2.1, bt160.2.2.1, bt160.2.2.2.1, bt160.2.2.2.2.1, bt160.2.2.2.2.2.1, bt160.2.2.2.2.2.2.1, bt160.2.2.2.2.2.2.2.1, bt160.2.2.2.2.2.2.2.2⟩ : S36)]) x142001) else (none))) else (none)) else (none))) else (none))) else (if 0 ≤ x10 then (if x10 < (x135000.length : Int) then ((spec_l5Copy.f ((rd_T36 x135000 x10).f0) ((rd_T36 x135000 x10).f1) ((rd_T36 x135000 x10).f2) ((rd_T36 x135000 x10).f3) ((rd_T36 x135000 x10).f4) ((rd_T36 x135000 x10).f5) ((rd_T36 x135000 x10).f6) ((rd_T36 x135000 x10).f7) ((rd_T36 x135000 x10).f8)).bind fun bt175 => (if x142000.length < 1759218604441 then (spec_PartPut.l1 k x7 (wrap64 (x10 + 1)) x135000 x135001 x136000 x136001 x136002 x136003 x136004 x136005 x136006 x136007 x136008 (x142000 ++ [(⟨bt175.1, bt175.2.1, bt175.2.2.1, bt175.2.2.2.1, bt175.2.2.2.2.1, bt175.2.2.2.2.2.1, bt175.2.2.2.2.2.2.1, bt175.2.2.2.2.2.2.2.1, bt175.2.2.2.2.2.2.2.2⟩ : S36)]) x142001) else (none))) else (none)) else (none))
def spec_PartPut.j5 : Nat → List (S36) → Int → Option ((List (S36)) × Int × Bool)
 | 0, _, _ => none
 | k + 1, x142000, x142001 => (spec_PartOk.f k x142000 x142001).bind fun t203 => (if t203 = true then (some (x142000, x142001, true)) else (some (([] : List (S36)), 0, false)))
end
def spec_PartPut.f (k : Nat) (l0_0 : List (S36)) (a0_1 : Int) (a1_0 : Int) (a1_1 : Int) (a1_2 : Int) (a1_3 : Int) (a1_4 : Int) (a1_5 : Int) (a1_6 : Bool) (a1_7 : Bool) (l1_8 : List Int) : Option ((List (S36)) × Int × Bool) := (spec_PartOk.f k l0_0 a0_1).bind fun t137 => (if t137 = true then ((spec_PacketOk.f k a1_0 a1_1 a1_2 a1_3 a1_4 a1_5 a1_6 a1_7 l1_8).bind fun t138 => (if t138 = true then (if 0 < (l0_0.length : Int) then ((spec_l5Same.f ((rd_T36 l0_0 0).f0) ((rd_T36 l0_0 0).f1) ((rd_T36 l0_0 0).f2) ((rd_T36 l0_0 0).f3) ((rd_T36 l0_0 0).f4) ((rd_T36 l0_0 0).f5) ((rd_T36 l0_0 0).f6) ((rd_T36 l0_0 0).f7) ((rd_T36 l0_0 0).f8) a1_0 a1_1 a1_2 a1_3 a1_4 a1_5 a1_6 a1_7 l1_8).bind fun t140 => (spec_PartPut.j0 k (!t140) l0_0 a0_1 a1_0 a1_1 a1_2 a1_3 a1_4 a1_5 a1_6 a1_7 l1_8)) else (none)) else (spec_PartPut.j0 k true l0_0 a0_1 a1_0 a1_1 a1_2 a1_3 a1_4 a1_5 a1_6 a1_7 l1_8))) else (spec_PartPut.j0 k true l0_0 a0_1 a1_0 a1_1 a1_2 a1_3 a1_4 a1_5 a1_6 a1_7 l1_8))
theorem spec_PartPut.mono_l : ∀ k, (∀ y0 y1 y2 y3 y4 y5 y6 y7 y8 y9 y10 y11, LeO (spec_PartPut.j0 k y0 y1 y2 y3 y4 y5 y6 y7 y8 y9 y10 y11) (spec_PartPut.j0 (k + 1) y0 y1 y2 y3 y4 y5 y6 y7 y8 y9 y10 y11)) ∧ (∀ y0 y1 y2 y3 y4 y5 y6 y7 y8 y9 y10 y11 y12 y13, LeO (spec_PartPut.l0 k y0 y1 y2 y3 y4 y5 y6 y7 y8 y9 y10 y11 y12 y13) (spec_PartPut.l0 (k + 1) y0 y1 y2 y3 y4 y5 y6 y7 y8 y9 y10 y11 y12 y13)) ∧ (∀ y0 y1 y2 y3 y4 y5 y6 y7 y8 y9 y10 y11 y12 y13 y14, LeO (spec_PartPut.j2 k y0 y1 y2 y3 y4 y5 y6 y7 y8 y9 y10 y11 y12 y13 y14) (spec_PartPut.j2 (k + 1) y0 y1 y2 y3 y4 y5 y6 y7 y8 y9 y10 y11 y12 y13 y14)) ∧ (∀ y0 y1 y2 y3 y4 y5 y6 y7 y8 y9 y10 y11 y12 y13 y14, LeO (spec_PartPut.l1 k y0 y1 y2 y3 y4 y5 y6 y7 y8 y9 y10 y11 y12 y13 y14) (spec_PartPut.l1 (k + 1) y0 y1 y2 y3 y4 y5 y6 y7 y8 y9 y10 y11 y12 y13 y14)) ∧ (∀ y0 y1 y2 y3 y4 y5 y6 y7 y8 y9 y10 y11 y12 y13 y14 y15, LeO (spec_PartPut.j4 k y0 y1 y2 y3 y4 y5 y6 y7 y8 y9 y10 y11 y12 y13 y14 y15) (spec_PartPut.j4 (k + 1) y0 y1 y2 y3 y4 y5 y6 y7 y8 y9 y10 y11 y12 y13 y14 y15)) ∧ (∀ y0 y1, LeO (spec_PartPut.j5 k y0 y1) (spec_PartPut.j5 (k + 1) y0 y1))
 | 0 => ⟨fun _ _ _ _ _ _ _ _ _ _ _ _ r h => by simp [spec_PartPut.j0] at h, fun _ _ _ _ _ _ _ _ _ _ _ _ _ _ r h => by simp [spec_PartPut.l0] at h, fun _ _ _ _ _ _ _ _ _ _ _ _ _ _ _ r h => by simp [spec_PartPut.j2] at h, fun _ _ _ _ _ _ _ _ _ _ _ _ _ _ _ r h => by simp [spec_PartPut.l1] at h, fun _ _ _ _ _ _ _ _ _ _ _ _ _ _ _ _ r h => by simp [spec_PartPut.j4] at h, fun _ _ r h => by simp [spec_PartPut.j5] at h⟩
 | k + 1 => by
  obtain ⟨ih0, ih1, ih2, ih3, ih4, ih5⟩ := spec_PartPut.mono_l k
  refine ⟨?_, ?_, ?_, ?_, ?_, ?_⟩
  ·intro y0 y1 y2 y3 y4 y5 y6 y7 y8 y9 y10 y11
   unfold spec_PartPut.j0
   repeat' first | (with_reducible first | apply ih0 | apply ih1 | apply ih2 | apply ih3 | apply ih4 | apply ih5 | apply spec_PacketOk.mono | apply spec_PartOk.mono | exact LeO.refl _ | exact LeO.none _ | refine LeO.ite ?_ ?_ | refine LeO.bind ?_ fun _ => ?_) | apply ih0 | apply ih1 | apply ih2 | apply ih3 | apply ih4 | apply ih5 | apply spec_PacketOk.mono | apply spec_PartOk.mono | exact LeO.none _ | refine LeO.ite ?_ ?_ | refine LeO.bind ?_ fun _ => ?_
  ·intro y0 y1 y2 y3 y4 y5 y6 y7 y8 y9 y10 y11 y12 y13
   unfold spec_PartPut.l0
   repeat' first | (with_reducible first | apply ih0 | apply ih1 | apply ih2 | apply ih3 | apply ih4 | apply ih5 | apply spec_PacketOk.mono | apply spec_PartOk.mono | exact LeO.refl _ | exact LeO.none _ | refine LeO.ite ?_ ?_ | refine LeO.bind ?_ fun _ => ?_) | apply ih0 | apply ih1 | apply ih2 | apply ih3 | apply ih4 | apply ih5 | apply spec_PacketOk.mono | apply spec_PartOk.mono | exact LeO.none _ | refine LeO.ite ?_ ?_ | refine LeO.bind ?_ fun _ => ?_
  ·intro y0 y1 y2 y3 y4 y5 y6 y7 y8 y9 y10 y11 y12 y13 y14
   unfold spec_PartPut.j2
   repeat' first | (with_reducible first | apply ih0 | apply ih1 | apply ih2 | apply ih3 | apply ih4 | apply ih5 | apply spec_PacketOk.mono | apply spec_PartOk.mono | exact LeO.refl _ | exact LeO.none _ | refine LeO.ite ?_ ?_ | refine LeO.bind ?_ fun _ => ?_) | apply ih0 | apply ih1 | apply ih2 | apply ih3 | apply ih4 | apply ih5 | apply spec_PacketOk.mono | apply spec_PartOk.mono | exact LeO.none _ | refine LeO.ite ?_ ?_ | refine LeO.bind ?_ fun _ => ?_
  ·intro y0 y1 y2 y3 y4 y5 y6 y7 y8 y9 y10 y11 y12 y13 y14
   unfold spec_PartPut.l1
   repeat' first | (with_reducible first | apply ih0 | apply ih1 | apply ih2 | apply ih3 | apply ih4 | apply ih5 | apply spec_PacketOk.mono | apply spec_PartOk.mono | exact LeO.refl _ | exact LeO.none _ | refine LeO.ite ?_ ?_ | refine LeO.bind ?_ fun _ => ?_) | apply ih0 | apply ih1 | apply ih2 | apply ih3 | apply ih4 | apply ih5 | apply spec_PacketOk.mono | apply spec_PartOk.mono | exact LeO.none _ | refine LeO.ite ?_ ?_ | refine LeO.bind ?_ fun _ => ?_
  ·intro y0 y1 y2 y3 y4 y5 y6 y7 y8 y9 y10 y11 y12 y13 y14 y15
   unfold spec_PartPut.j4
   repeat' first | (with_reducible first | apply ih0 | apply ih1 | apply ih2 | apply ih3 | apply ih4 | apply ih5 | apply spec_PacketOk.mono | apply spec_PartOk.mono | exact LeO.refl _ | exact LeO.none _ | refine LeO.ite ?_ ?_ | refine LeO.bind ?_ fun _ => ?_) | apply ih0 | apply ih1 | apply ih2 | apply ih3 | apply ih4 | apply ih5 | apply spec_PacketOk.mono | apply spec_PartOk.mono | exact LeO.none _ | refine LeO.ite ?_ ?_ | refine LeO.bind ?_ fun _ => ?_
  ·intro y0 y1
   unfold spec_PartPut.j5
   repeat' first | (with_reducible first | apply ih0 | apply ih1 | apply ih2 | apply ih3 | apply ih4 | apply ih5 | apply spec_PacketOk.mono | apply spec_PartOk.mono | exact LeO.refl _ | exact LeO.none _ | refine LeO.ite ?_ ?_ | refine LeO.bind ?_ fun _ => ?_) | apply ih0 | apply ih1 | apply ih2 | apply ih3 | apply ih4 | apply ih5 | apply spec_PacketOk.mono | apply spec_PartOk.mono | exact LeO.none _ | refine LeO.ite ?_ ?_ | refine LeO.bind ?_ fun _ => ?_
theorem spec_PartPut.mono : ∀ a0 a1 a2 a3 a4 a5 a6 a7 a8 a9 a10 k, LeO (spec_PartPut.f k a0 a1 a2 a3 a4 a5 a6 a7 a8 a9 a10) (spec_PartPut.f (k + 1) a0 a1 a2 a3 a4 a5 a6 a7 a8 a9 a10) := by
 intro a0 a1 a2 a3 a4 a5 a6 a7 a8 a9 a10 k
 obtain ⟨ih0, ih1, ih2, ih3, ih4, ih5⟩ := spec_PartPut.mono_l k
 unfold spec_PartPut.f
 repeat' first | (with_reducible first | apply ih0 | apply ih1 | apply ih2 | apply ih3 | apply ih4 | apply ih5 | apply spec_PacketOk.mono | apply spec_PartOk.mono | exact LeO.refl _ | exact LeO.none _ | refine LeO.ite ?_ ?_ | refine LeO.bind ?_ fun _ => ?_) | apply ih0 | apply ih1 | apply ih2 | apply ih3 | apply ih4 | apply ih5 | apply spec_PacketOk.mono | apply spec_PartOk.mono | exact LeO.none _ | refine LeO.ite ?_ ?_ | refine LeO.bind ?_ fun _ => ?_
def spec_PartPut.T1 : Bool × List (List Nat × List Nat) := (true, [([], []), ([0], [0]), ([1], [1]), ([2, 1], [2]), ([3], [3]), ([4, 3, 3], [3, 4]), ([5, 3], [3, 5]), ([3, 6], [3, 6]), ([7, 5], [7]), ([8], [8]), ([9, 8], [8, 9]), ([10, 8], [8, 10]), ([11, 8], [8, 11]), ([8], [8]), ([12, 13, 8, 8], [8, 12, 13]), ([14, 8], [8, 14]), ([8, 15], [8, 15])])
def spec_PartPut.B1 : List Nat := [0, 1, 3, 7, 15, 31, 63, 127, 255, 511, 1023, 2047, 4095, 511, 16383, 32767, 65535]
theorem spec_PartPut.tab1 : rtab .any (opsOf Try.f11 1) = spec_PartPut.T1 := by kernel_rfl
theorem spec_PartPut.bits1 : waitsOk spec_PartPut.T1.2 spec_PartPut.B1 = true := by kernel_rfl
def spec_PartPut.T14 : Bool × List (List Nat × List Nat) := (true, [([], []), ([0], [0]), ([1], [1]), ([2], [2]), ([3, 2], [2, 3]), ([2], [2]), ([5, 2], [2, 5]), ([2], [2]), ([6, 7, 2], [2, 6, 7]), ([8, 2], [2, 8]), ([9, 2], [2, 9]), ([4, 10, 2], [2, 4, 10]), ([2, 11], [2, 11])])
def spec_PartPut.B14 : List Nat := [0, 1, 3, 7, 15, 7, 39, 7, 231, 487, 999, 2047, 4095]
theorem spec_PartPut.tab14 : rtab .any (opsOf Try.f11 14) = spec_PartPut.T14 := by kernel_rfl
theorem spec_PartPut.bits14 : waitsOk spec_PartPut.T14.2 spec_PartPut.B14 = true := by kernel_rfl
def spec_PartPut.T15 : Bool × List (List Nat × List Nat) := (true, [([], []), ([0], [0]), ([], []), ([2], [2]), ([3], [3]), ([1, 4, 3], [1, 4]), ([0, 1, 2, 3, 4, 5], []), ([6, 5, 5, 0, 1, 2, 3, 4, 5], [5, 6])])
def spec_PartPut.B15 : List Nat := [0, 1, 0, 4, 12, 31, 63, 127]
theorem spec_PartPut.tab15 : rtab .any (opsOf Try.f11 15) = spec_PartPut.T15 := by kernel_rfl
theorem spec_PartPut.bits15 : waitsOk spec_PartPut.T15.2 spec_PartPut.B15 = true := by kernel_rfl
def spec_PartPut.T17 : Bool × List (List Nat × List Nat) := (true, [([], []), ([0], [0]), ([], []), ([2], [2]), ([], []), ([3, 4], [3, 4]), ([5], [5]), ([6], [6]), ([7], [7]), ([1, 8, 7], [1, 8]), ([0, 1, 2, 3, 4, 5, 6, 7, 8, 9], []), ([10, 9, 9, 0, 1, 2, 3, 4, 5, 6, 7, 8, 9], [9, 10])])
def spec_PartPut.B17 : List Nat := [0, 1, 0, 4, 0, 28, 60, 124, 252, 511, 1023, 2047]
theorem spec_PartPut.tab17 : rtab .any (opsOf Try.f11 17) = spec_PartPut.T17 := by kernel_rfl
theorem spec_PartPut.bits17 : waitsOk spec_PartPut.T17.2 spec_PartPut.B17 = true := by kernel_rfl
def spec_PartPut.T19 : Bool × List (List Nat × List Nat) := (true, [([], []), ([0], [0]), ([], []), ([2], [2]), ([3], [3]), ([1, 4, 3], [1, 4]), ([0, 1, 2, 3, 4, 5], []), ([6, 5, 5, 0, 1, 2, 3, 4, 5], [5, 6])])
def spec_PartPut.B19 : List Nat := [0, 1, 0, 4, 12, 31, 63, 127]
theorem spec_PartPut.tab19 : rtab .any (opsOf Try.f11 19) = spec_PartPut.T19 := by kernel_rfl
theorem spec_PartPut.bits19 : waitsOk spec_PartPut.T19.2 spec_PartPut.B19 = true := by kernel_rfl
set_option maxHeartbeats 8000000 in
set_option maxRecDepth 100000 in
theorem spec_PartPut.calls (k : Nat) (A0_0 : Option Addr) (c0_0 : Nat) (l0_0 : List (S36)) (a0_1 : Int) (a1_0 : Int) (a1_1 : Int) (a1_2 : Int) (a1_3 : Int) (a1_4 : Int) (a1_5 : Int) (a1_6 : Bool) (a1_7 : Bool) (A1_8 : Option Addr) (c1_8 : Nat) (l1_8 : List Int) (r1 : List (S36)) (r2 : Int) (r3 : Bool) (w : World) (hr0_0 : Kd.C k36 w A0_0 l0_0.length l0_0) (hc0_0 : l0_0.length ≤ c0_0) (hr1_8 : Kd.C (Kd.int .u8) w A1_8 l1_8.length l1_8) (hc1_8 : l1_8.length ≤ c1_8) (h : spec_PartPut.f k l0_0 a0_1 a1_0 a1_1 a1_2 a1_3 a1_4 a1_5 a1_6 a1_7 l1_8 = some (r1, r2, r3)) :
  Calls Try.prog 11 #[.agg #[.slice A0_0 l0_0.length c0_0, .int .i64 a0_1], .agg #[.int .i64 a1_0, .int .i64 a1_1, .int .i64 a1_2, .int .i64 a1_3, .int .i64 a1_4, .int .i64 a1_5, .bool a1_6, .bool a1_7, .slice A1_8 l1_8.length c1_8]] w fun e w' => ∃ v0_ : Value, e = .returned (.tuple #[.agg #[v0_, .int .i64 r2], .bool r3]) ∧ Kd.S k36 36 w' w.heap.size (fun _ => True) v0_ r1 ∧ Below w.heap.size w w' := by
 have hu32 := Try.underlying32; have hu36 := Try.underlying36; have HR0_0 := Aside0.mk hr0_0; have HC0_0 := Aside0.mk hc0_0; clear hr0_0 hc0_0; have HR1_8 := Aside0.mk hr1_8; have HC1_8 := Aside0.mk hc1_8; clear hr1_8 hc1_8
 have HB := Aside0.mk (Below.refl w.heap.size w)
 have H : ((spec_PartOk.f k l0_0 a0_1).bind fun t137 => (if t137 = true then ((spec_PacketOk.f k a1_0 a1_1 a1_2 a1_3 a1_4 a1_5 a1_6 a1_7 l1_8).bind fun t138 => (if t138 = true then (if 0 < (l0_0.length : Int) then ((spec_l5Same.f ((rd_T36 l0_0 0).f0) ((rd_T36 l0_0 0).f1) ((rd_T36 l0_0 0).f2) ((rd_T36 l0_0 0).f3) ((rd_T36 l0_0 0).f4) ((rd_T36 l0_0 0).f5) ((rd_T36 l0_0 0).f6) ((rd_T36 l0_0 0).f7) ((rd_T36 l0_0 0).f8) a1_0 a1_1 a1_2 a1_3 a1_4 a1_5 a1_6 a1_7 l1_8).bind fun t140 => (spec_PartPut.j0 k (!t140) l0_0 a0_1 a1_0 a1_1 a1_2 a1_3 a1_4 a1_5 a1_6 a1_7 l1_8)) else (none)) else (spec_PartPut.j0 k true l0_0 a0_1 a1_0 a1_1 a1_2 a1_3 a1_4 a1_5 a1_6 a1_7 l1_8))) else (spec_PartPut.j0 k true l0_0 a0_1 a1_0 a1_1 a1_2 a1_3 a1_4 a1_5 a1_6 a1_7 l1_8))) = some (r1, r2, r3) := h
 clear h; have HC3 := Aside0.mk H; clear H
 go_enter Try.func11, Try.ntmps11
 go_upto_region 1 with (first | ((with_reducible refine gate_dst (N := 2) rfl ?_); refine box_ (N := 2) (cs := #[.slice A0_0 l0_0.length c0_0, .int .i64 a0_1]) (t := 32) (fun gb134 hg w4 hbox hb => ?_); have BK134 := Aside0.mk (hbox); have GW134 := ge_ hg HB; have GE134 := ge_ hg HB; replace HB := (bs_ HB hb); clear hb hbox hg) | ((with_reducible refine gate_dst (N := 3) rfl ?_); refine box_ (N := 3) (cs := #[.int .i64 a1_0, .int .i64 a1_1, .int .i64 a1_2, .int .i64 a1_3, .int .i64 a1_4, .int .i64 a1_5, .bool a1_6, .bool a1_7, .slice A1_8 l1_8.length c1_8]) (t := 36) (fun gb135 hg w5 hbox hb => ?_); have BK135 := Aside0.mk (hbox); have GW135 := ge_ hg HB; have GE135 := ge_ hg HB; replace HB := (bs_ HB hb); have NB134_135 := nl_ hg BK134; have NB135_134 := ng_ hg BK134; replace BK134 := (bbA_ BK134 hb); clear hb hbox hg) | ((with_reducible refine gate_dst (N := 4) rfl ?_); refine box_ (N := 4) (cs := #[.slice none 0 0, .int .i64 0]) (t := 32) (fun gb136 hg w6 hbox hb => ?_); have BK136 := Aside0.mk (hbox); have GW136 := ge_ hg HB; have GE136 := ge_ hg HB; replace HB := (bs_ HB hb); have NB134_136 := nl_ hg BK134; have NB136_134 := ng_ hg BK134; replace BK134 := (bbA_ BK134 hb); have NB135_136 := nl_ hg BK135; have NB136_135 := ng_ hg BK135; replace BK135 := (bbA_ BK135 hb); clear hb hbox hg))
 (try simp only [Act.put, List.setIfInBounds_toArray, List.set_cons_zero, List.set_cons_succ])
 go_cut [27] (fun v27 wc => ∃ (kq : Nat) (x27_2 : Bool), v27 = .bool x27_2 ∧ Aside0 (spec_PartPut.j0 kq x27_2 l0_0 a0_1 a1_0 a1_1 a1_2 a1_3 a1_4 a1_5 a1_6 a1_7 l1_8 = some (r1, r2, r3)) ∧ Aside0 (kq ≤ k) ∧ Aside0 (wc.heap[gb134]? = some (.cells #[(.slice A0_0 l0_0.length c0_0), .int .i64 a0_1] 32 (0, 0))) ∧ Aside0 (wc.heap[gb135]? = some (.cells #[.int .i64 a1_0, .int .i64 a1_1, .int .i64 a1_2, .int .i64 a1_3, .int .i64 a1_4, .int .i64 a1_5, .bool a1_6, .bool a1_7, (.slice A1_8 l1_8.length c1_8)] 36 (0, 0))) ∧ Aside0 (wc.heap[gb136]? = some (.cells #[(.slice none 0 0), .int .i64 0] 32 (0, 0))) ∧ Aside0 (Below w.heap.size w wc))
 case first =>
  have H := HC3.out; clear HC3
  replace H := Option.bind_eq_some_iff.mp H
  obtain ⟨t137, A70, H⟩ := H
  (try dsimp only at H)
  have A7 := Aside0.mk A70; clear A70
  by_cases c8 : t137 = true
  ·subst c8
   rw [if_pos rfl] at H
   replace H := Option.bind_eq_some_iff.mp H
   obtain ⟨t138, A90, H⟩ := H
   (try dsimp only at H)
   have A9 := Aside0.mk A90; clear A90
   by_cases c10 : t138 = true
   ·subst c10
    rw [if_pos rfl] at H
    by_cases c11 : 0 < (l0_0.length : Int)
    ·rw [if_pos c11] at H
     have c11b0 : decide (0 < (l0_0.length : Int)) = true := decide_eq_true c11
     have c11b1 : decide (0 < l0_0.length) = true := decide_eq_true (by omega)
     clear c11
     (first | rw [c11b0] | (simp only [i64_w, i32_w]; rw [c11b0]) | skip)
     replace H := Option.bind_eq_some_iff.mp H
     obtain ⟨t140, A120, H⟩ := H
     (try dsimp only at H)
     have A12 := Aside0.mk A120; clear A120
     have H' := Aside0.mk H
     clear H
     try go_wp2
     replace BK134 := Aside0.mk (blk_drew BK134.out); replace BK135 := Aside0.mk (blk_drew BK135.out); replace BK136 := Aside0.mk (blk_drew BK136.out); replace HB := (bd_ HB)
     have p139 : 0 ≤ (0 : Int) := (by omega)
     have q139 : 0 < (l0_0.length : Int) := of_decide_eq_true (by first | (with_reducible assumption) | assumption)
     obtain ⟨ad139, A139_8, c139_8, e139, hx139_0, hx139_1, hx139_2, hx139_3, hx139_4, hx139_5, hx139_6, hx139_7, hx139_8, hl139_8, hi139_8⟩ := at_T36 HR0_0.out 0 p139 q139
     (try simp only [show ((0 : Int)).toNat = 0 from rfl, show 0 * 9 = 0 from rfl, Addr.add_zero'] at hx139_0 hx139_1 hx139_2 hx139_3 hx139_4 hx139_5 hx139_6 hx139_7 hx139_8); have hw139_8 := hx139_8; have hw139_7 := hx139_7; have hw139_6 := hx139_6; have hw139_5 := hx139_5; have hw139_4 := hx139_4; have hw139_3 := hx139_3; have hw139_2 := hx139_2; have hw139_1 := hx139_1; have hw139_0 := hx139_0
     cases e139
     have qi139 : (0 < l0_0.length) = True := eq_true (by omega)
     replace hx139_0 := cc_ HB hx139_0
     replace hx139_1 := cc_ HB hx139_1
     replace hx139_2 := cc_ HB hx139_2
     replace hx139_3 := cc_ HB hx139_3
     replace hx139_4 := cc_ HB hx139_4
     replace hx139_5 := cc_ HB hx139_5
     replace hx139_6 := cc_ HB hx139_6
     replace hx139_7 := cc_ HB hx139_7
     replace hx139_8 := cc_ HB hx139_8
     have HR139_8 := Aside0.mk hi139_8; have HC139_8 := Aside0.mk hl139_8; clear hi139_8 hl139_8
     replace p139 := eq_true p139
     replace q139 := eq_true q139
     refine start_ (n := 17) (S := fun w' => w'.cell? ⟨gb134, 0, none⟩ = some (.slice (some ad139) l0_0.length c0_0) ∧ w'.cell? ⟨gb134, 1, none⟩ = some (.int .i64 a0_1) ∧ w'.cell? ⟨gb135, 0, none⟩ = some (.int .i64 a1_0) ∧ w'.cell? ⟨gb135, 1, none⟩ = some (.int .i64 a1_1) ∧ w'.cell? ⟨gb135, 2, none⟩ = some (.int .i64 a1_2) ∧ w'.cell? ⟨gb135, 3, none⟩ = some (.int .i64 a1_3) ∧ w'.cell? ⟨gb135, 4, none⟩ = some (.int .i64 a1_4) ∧ w'.cell? ⟨gb135, 5, none⟩ = some (.int .i64 a1_5) ∧ w'.cell? ⟨gb135, 6, none⟩ = some (.bool a1_6) ∧ w'.cell? ⟨gb135, 7, none⟩ = some (.bool a1_7) ∧ w'.cell? ⟨gb135, 8, none⟩ = some (.slice A1_8 l1_8.length c1_8) ∧ w'.cell? ad139 = some (.int .i64 ((rd_T36 l0_0 0).f0)) ∧ w'.cell? ⟨ad139.block, ad139.off + 1, none⟩ = some (.int .i64 ((rd_T36 l0_0 0).f1)) ∧ w'.cell? ⟨ad139.block, ad139.off + 2, none⟩ = some (.int .i64 ((rd_T36 l0_0 0).f2)) ∧ w'.cell? ⟨ad139.block, ad139.off + 3, none⟩ = some (.int .i64 ((rd_T36 l0_0 0).f3)) ∧ w'.cell? ⟨ad139.block, ad139.off + 4, none⟩ = some (.int .i64 ((rd_T36 l0_0 0).f4)) ∧ w'.cell? ⟨ad139.block, ad139.off + 5, none⟩ = some (.int .i64 ((rd_T36 l0_0 0).f5)) ∧ w'.cell? ⟨ad139.block, ad139.off + 6, none⟩ = some (.bool ((rd_T36 l0_0 0).f6)) ∧ w'.cell? ⟨ad139.block, ad139.off + 7, none⟩ = some (.bool ((rd_T36 l0_0 0).f7)) ∧ w'.cell? ⟨ad139.block, ad139.off + 8, none⟩ = some (.slice A139_8 ((rd_T36 l0_0 0).f8).length c139_8)) (ds := []) #[false, false, false, false, false, false, false, false, false, false, false, false, false, false, false, false, false] (by kernel_rfl) rfl rfl ⟨bc_ BK134 0, bc_ BK134 1, bc_ BK135 0, bc_ BK135 1, bc_ BK135 2, bc_ BK135 3, bc_ BK135 4, bc_ BK135 5, bc_ BK135 6, bc_ BK135 7, bc_ BK135 8, (cc_ HB hw139_0), (cc_ HB hw139_1), (cc_ HB hw139_2), (cc_ HB hw139_3), (cc_ HB hw139_4), (cc_ HB hw139_5), (cc_ HB hw139_6), (cc_ HB hw139_7), (cc_ HB hw139_8)⟩ (fun hHeld => ?_); refine with_tabW spec_PartPut.tab1 spec_PartPut.bits1 (fun HT_ HW_ => ?_)
     generalize w6.drew = w13 at BK134 BK135 BK136 HB HR139_8 hx139_0 hx139_1 hx139_2 hx139_3 hx139_4 hx139_5 hx139_6 hx139_7 hx139_8 hHeld ⊢
     refine tk_ (i := 0) (N := some 11) HT_ HW_ hHeld ?_
     refine on_ (i := 1) (N := some 12) HT_ (fun K hK => ?_)
     refine goes_ Try.func45 (by kernel_rfl) rfl #[.agg #[.slice (some ad139) l0_0.length c0_0, .int .i64 a0_1]] (by rfl) rfl rfl ar_ ?_
     with_reducible refine (spec_PartOk.calls k _ _ l0_0 a0_1 true _ ?side1 ?side2 A7.out).mono ?_
     (case side1 => exact kC_ (Kd.C_below HR0_0.out HB.out))
     (case side2 => exact HC0_0.out)
     rintro e w14 ⟨rfl, hb⟩
     refine ⟨_, rfl, ?_⟩
     replace BK134 := (bbA_ BK134 hb); replace BK135 := (bbA_ BK135 hb); replace BK136 := (bbA_ BK136 hb); replace HB := (bs_ HB hb); (try clear hb); (try clear hb2); (try clear hk); (try clear hi)
     refine hK.out _ _ ⟨bc_ BK134 0, bc_ BK134 1, bc_ BK135 0, bc_ BK135 1, bc_ BK135 2, bc_ BK135 3, bc_ BK135 4, bc_ BK135 5, bc_ BK135 6, bc_ BK135 7, bc_ BK135 8, (by first | exact cc_ HB hw139_0 | exact cc_ ⟨hbA_ HB.out⟩ hw139_0), (by first | exact cc_ HB hw139_1 | exact cc_ ⟨hbA_ HB.out⟩ hw139_1), (by first | exact cc_ HB hw139_2 | exact cc_ ⟨hbA_ HB.out⟩ hw139_2), (by first | exact cc_ HB hw139_3 | exact cc_ ⟨hbA_ HB.out⟩ hw139_3), (by first | exact cc_ HB hw139_4 | exact cc_ ⟨hbA_ HB.out⟩ hw139_4), (by first | exact cc_ HB hw139_5 | exact cc_ ⟨hbA_ HB.out⟩ hw139_5), (by first | exact cc_ HB hw139_6 | exact cc_ ⟨hbA_ HB.out⟩ hw139_6), (by first | exact cc_ HB hw139_7 | exact cc_ ⟨hbA_ HB.out⟩ hw139_7), (by first | exact cc_ HB hw139_8 | exact cc_ ⟨hbA_ HB.out⟩ hw139_8)⟩ (fun hHeld => ?_)
     clear hK K; refine nm_ 12 ?_; refine pu_ (i := 2) (N := some 13) HT_ ?_; refine pu_ (i := 3) (N := some 14) HT_ ?_; refine tk_ (i := 4) (N := some 15) HT_ HW_ hHeld ?_
     refine on_ (i := 5) (N := some 16) HT_ (fun K hK => ?_)
     refine goes_ Try.func46 (by kernel_rfl) rfl #[.agg #[.int .i64 a1_0, .int .i64 a1_1, .int .i64 a1_2, .int .i64 a1_3, .int .i64 a1_4, .int .i64 a1_5, .bool a1_6, .bool a1_7, .slice A1_8 l1_8.length c1_8]] (by rfl) rfl rfl ar_ ?_
     with_reducible refine (spec_PacketOk.calls k a1_0 a1_1 a1_2 a1_3 a1_4 a1_5 a1_6 a1_7 _ _ l1_8 true _ ?side1 ?side2 A9.out).mono ?_
     (case side1 => exact kC_ (Kd.C_below HR1_8.out HB.out))
     (case side2 => exact HC1_8.out)
     rintro e w15 ⟨rfl, hb⟩
     refine ⟨_, rfl, ?_⟩
     replace BK134 := (bbA_ BK134 hb); replace BK135 := (bbA_ BK135 hb); replace BK136 := (bbA_ BK136 hb); replace HB := (bs_ HB hb); (try clear hb); (try clear hb2); (try clear hk); (try clear hi)
     refine hK.out _ _ ⟨bc_ BK134 0, bc_ BK134 1, bc_ BK135 0, bc_ BK135 1, bc_ BK135 2, bc_ BK135 3, bc_ BK135 4, bc_ BK135 5, bc_ BK135 6, bc_ BK135 7, bc_ BK135 8, (by first | exact cc_ HB hw139_0 | exact cc_ ⟨hbA_ HB.out⟩ hw139_0), (by first | exact cc_ HB hw139_1 | exact cc_ ⟨hbA_ HB.out⟩ hw139_1), (by first | exact cc_ HB hw139_2 | exact cc_ ⟨hbA_ HB.out⟩ hw139_2), (by first | exact cc_ HB hw139_3 | exact cc_ ⟨hbA_ HB.out⟩ hw139_3), (by first | exact cc_ HB hw139_4 | exact cc_ ⟨hbA_ HB.out⟩ hw139_4), (by first | exact cc_ HB hw139_5 | exact cc_ ⟨hbA_ HB.out⟩ hw139_5), (by first | exact cc_ HB hw139_6 | exact cc_ ⟨hbA_ HB.out⟩ hw139_6), (by first | exact cc_ HB hw139_7 | exact cc_ ⟨hbA_ HB.out⟩ hw139_7), (by first | exact cc_ HB hw139_8 | exact cc_ ⟨hbA_ HB.out⟩ hw139_8)⟩ (fun hHeld => ?_)
     clear hK K; refine nm_ 16 ?_; refine pu_ (i := 6) (N := some 17) HT_ ?_; refine pu_ (i := 7) (N := some 18) HT_ ?_; refine pu_ (i := 8) (N := some 19) HT_ ?_; refine pu_ (i := 9) (N := some 20) HT_ ?_; refine tk_ (i := 10) (N := some 21) HT_ HW_ hHeld ?_; refine pu_ (i := 11) (N := some 22) HT_ ?_; refine tk_ (i := 12) (N := some 23) HT_ HW_ hHeld ?_; refine tk_ (i := 13) (N := some 24) HT_ HW_ hHeld ?_
     refine on_ (i := 14) (N := some 25) HT_ (fun K hK => ?_)
     refine goes_ Try.func47 (by kernel_rfl) rfl #[.agg #[.int .i64 ((rd_T36 l0_0 0).f0), .int .i64 ((rd_T36 l0_0 0).f1), .int .i64 ((rd_T36 l0_0 0).f2), .int .i64 ((rd_T36 l0_0 0).f3), .int .i64 ((rd_T36 l0_0 0).f4), .int .i64 ((rd_T36 l0_0 0).f5), .bool ((rd_T36 l0_0 0).f6), .bool ((rd_T36 l0_0 0).f7), .slice A139_8 ((rd_T36 l0_0 0).f8).length c139_8], .agg #[.int .i64 a1_0, .int .i64 a1_1, .int .i64 a1_2, .int .i64 a1_3, .int .i64 a1_4, .int .i64 a1_5, .bool a1_6, .bool a1_7, .slice A1_8 l1_8.length c1_8]] (by rfl) rfl rfl ar_ ?_
     with_reducible refine (spec_l5Same.calls ((rd_T36 l0_0 0).f0) ((rd_T36 l0_0 0).f1) ((rd_T36 l0_0 0).f2) ((rd_T36 l0_0 0).f3) ((rd_T36 l0_0 0).f4) ((rd_T36 l0_0 0).f5) ((rd_T36 l0_0 0).f6) ((rd_T36 l0_0 0).f7) _ _ ((rd_T36 l0_0 0).f8) a1_0 a1_1 a1_2 a1_3 a1_4 a1_5 a1_6 a1_7 _ _ l1_8 t140 _ ?side1 ?side2 ?side3 ?side4 A12.out).mono ?_
     (case side1 => exact kC_ (Kd.C_below HR139_8.out HB.out))
     (case side2 => exact HC139_8.out)
     (case side3 => exact kC_ (Kd.C_below HR1_8.out HB.out))
     (case side4 => exact HC1_8.out)
     rintro e w16 ⟨rfl, hb⟩
     refine ⟨_, rfl, ?_⟩
     replace BK134 := (bbA_ BK134 hb); replace BK135 := (bbA_ BK135 hb); replace BK136 := (bbA_ BK136 hb); replace HB := (bs_ HB hb); (try clear hb); (try clear hb2); (try clear hk); (try clear hi)
     refine hK.out _ _ ⟨bc_ BK134 0, bc_ BK134 1, bc_ BK135 0, bc_ BK135 1, bc_ BK135 2, bc_ BK135 3, bc_ BK135 4, bc_ BK135 5, bc_ BK135 6, bc_ BK135 7, bc_ BK135 8, (by first | exact cc_ HB hw139_0 | exact cc_ ⟨hbA_ HB.out⟩ hw139_0), (by first | exact cc_ HB hw139_1 | exact cc_ ⟨hbA_ HB.out⟩ hw139_1), (by first | exact cc_ HB hw139_2 | exact cc_ ⟨hbA_ HB.out⟩ hw139_2), (by first | exact cc_ HB hw139_3 | exact cc_ ⟨hbA_ HB.out⟩ hw139_3), (by first | exact cc_ HB hw139_4 | exact cc_ ⟨hbA_ HB.out⟩ hw139_4), (by first | exact cc_ HB hw139_5 | exact cc_ ⟨hbA_ HB.out⟩ hw139_5), (by first | exact cc_ HB hw139_6 | exact cc_ ⟨hbA_ HB.out⟩ hw139_6), (by first | exact cc_ HB hw139_7 | exact cc_ ⟨hbA_ HB.out⟩ hw139_7), (by first | exact cc_ HB hw139_8 | exact cc_ ⟨hbA_ HB.out⟩ hw139_8)⟩ (fun hHeld => ?_)
     clear hK K; refine nm_ 25 ?_; refine pu_ (i := 15) (N := some 26) HT_ ?_; refine pu_ (i := 16) (N := some 27) HT_ ?_
     refine done_ (done_of HT_.out (by kernel_rfl)) ?_
     try go_wp2
     go_meet
     case rel => exact ⟨_, (!t140), (by first | rfl | (simp; done) | (simp [*]; done)), H', ⟨by first | omega | exact Nat.le_refl _⟩, ⟨by refine kb_ ?_; exact BK134.out⟩, ⟨by refine kb_ ?_; exact BK135.out⟩, ⟨by refine kb_ ?_; exact BK136.out⟩, ⟨hbA_ HB.out⟩⟩
    ·rw [if_neg c11] at H
     exact absurd H (by simp)
   ·replace c10 := Bool.eq_false_iff.mpr c10
    subst c10
    rw [if_neg (show ¬ (false = true) by decide)] at H
    have H' := Aside0.mk H
    clear H
    try go_wp2
    replace BK134 := Aside0.mk (blk_drew BK134.out); replace BK135 := Aside0.mk (blk_drew BK135.out); replace BK136 := Aside0.mk (blk_drew BK136.out); replace HB := (bd_ HB)
    refine start_ (n := 17) (S := fun w' => w'.cell? ⟨gb134, 0, none⟩ = some (.slice A0_0 l0_0.length c0_0) ∧ w'.cell? ⟨gb134, 1, none⟩ = some (.int .i64 a0_1) ∧ w'.cell? ⟨gb135, 0, none⟩ = some (.int .i64 a1_0) ∧ w'.cell? ⟨gb135, 1, none⟩ = some (.int .i64 a1_1) ∧ w'.cell? ⟨gb135, 2, none⟩ = some (.int .i64 a1_2) ∧ w'.cell? ⟨gb135, 3, none⟩ = some (.int .i64 a1_3) ∧ w'.cell? ⟨gb135, 4, none⟩ = some (.int .i64 a1_4) ∧ w'.cell? ⟨gb135, 5, none⟩ = some (.int .i64 a1_5) ∧ w'.cell? ⟨gb135, 6, none⟩ = some (.bool a1_6) ∧ w'.cell? ⟨gb135, 7, none⟩ = some (.bool a1_7) ∧ w'.cell? ⟨gb135, 8, none⟩ = some (.slice A1_8 l1_8.length c1_8)) (ds := []) #[false, false, false, false, false, false, false, false, false, false, false, false, false, false, false, false, false] (by kernel_rfl) rfl rfl ⟨bc_ BK134 0, bc_ BK134 1, bc_ BK135 0, bc_ BK135 1, bc_ BK135 2, bc_ BK135 3, bc_ BK135 4, bc_ BK135 5, bc_ BK135 6, bc_ BK135 7, bc_ BK135 8⟩ (fun hHeld => ?_); refine with_tabW spec_PartPut.tab1 spec_PartPut.bits1 (fun HT_ HW_ => ?_)
    generalize w6.drew = w17 at BK134 BK135 BK136 HB hHeld ⊢
    refine tk_ (i := 0) (N := some 11) HT_ HW_ hHeld ?_
    refine on_ (i := 1) (N := some 12) HT_ (fun K hK => ?_)
    refine goes_ Try.func45 (by kernel_rfl) rfl #[.agg #[.slice A0_0 l0_0.length c0_0, .int .i64 a0_1]] (by rfl) rfl rfl ar_ ?_
    with_reducible refine (spec_PartOk.calls k _ _ l0_0 a0_1 true _ ?side1 ?side2 A7.out).mono ?_
    (case side1 => exact kC_ (Kd.C_below HR0_0.out HB.out))
    (case side2 => exact HC0_0.out)
    rintro e w18 ⟨rfl, hb⟩
    refine ⟨_, rfl, ?_⟩
    replace BK134 := (bbA_ BK134 hb); replace BK135 := (bbA_ BK135 hb); replace BK136 := (bbA_ BK136 hb); replace HB := (bs_ HB hb); (try clear hb); (try clear hb2); (try clear hk); (try clear hi)
    refine hK.out _ _ ⟨bc_ BK134 0, bc_ BK134 1, bc_ BK135 0, bc_ BK135 1, bc_ BK135 2, bc_ BK135 3, bc_ BK135 4, bc_ BK135 5, bc_ BK135 6, bc_ BK135 7, bc_ BK135 8⟩ (fun hHeld => ?_)
    clear hK K; refine nm_ 12 ?_; refine pu_ (i := 2) (N := some 13) HT_ ?_; refine pu_ (i := 3) (N := some 14) HT_ ?_; refine tk_ (i := 4) (N := some 15) HT_ HW_ hHeld ?_
    refine on_ (i := 5) (N := some 16) HT_ (fun K hK => ?_)
    refine goes_ Try.func46 (by kernel_rfl) rfl #[.agg #[.int .i64 a1_0, .int .i64 a1_1, .int .i64 a1_2, .int .i64 a1_3, .int .i64 a1_4, .int .i64 a1_5, .bool a1_6, .bool a1_7, .slice A1_8 l1_8.length c1_8]] (by rfl) rfl rfl ar_ ?_
    with_reducible refine (spec_PacketOk.calls k a1_0 a1_1 a1_2 a1_3 a1_4 a1_5 a1_6 a1_7 _ _ l1_8 false _ ?side1 ?side2 A9.out).mono ?_
    (case side1 => exact kC_ (Kd.C_below HR1_8.out HB.out))
    (case side2 => exact HC1_8.out)
    rintro e w19 ⟨rfl, hb⟩
    refine ⟨_, rfl, ?_⟩
    replace BK134 := (bbA_ BK134 hb); replace BK135 := (bbA_ BK135 hb); replace BK136 := (bbA_ BK136 hb); replace HB := (bs_ HB hb); (try clear hb); (try clear hb2); (try clear hk); (try clear hi)
    refine hK.out _ _ ⟨bc_ BK134 0, bc_ BK134 1, bc_ BK135 0, bc_ BK135 1, bc_ BK135 2, bc_ BK135 3, bc_ BK135 4, bc_ BK135 5, bc_ BK135 6, bc_ BK135 7, bc_ BK135 8⟩ (fun hHeld => ?_)
    clear hK K; refine nm_ 16 ?_; refine pu_ (i := 6) (N := some 17) HT_ ?_; refine pu_ (i := 7) (N := some 18) HT_ ?_; refine pu_ (i := 8) (N := some 19) HT_ ?_; refine pn_ (i := 9) (N := some 20) HT_ ?_; refine pn_ (i := 10) (N := some 21) HT_ ?_; refine pn_ (i := 11) (N := some 22) HT_ ?_; refine pn_ (i := 12) (N := some 23) HT_ ?_; refine pn_ (i := 13) (N := some 24) HT_ ?_; refine pn_ (i := 14) (N := some 25) HT_ ?_; refine pn_ (i := 15) (N := some 26) HT_ ?_; refine pu_ (i := 16) (N := some 27) HT_ ?_
    refine done_ (done_of HT_.out (by kernel_rfl)) ?_
    try go_wp2
    go_meet
    case rel => exact ⟨_, (true), (by first | rfl | (simp; done) | (simp [*]; done)), H', ⟨by first | omega | exact Nat.le_refl _⟩, ⟨by refine kb_ ?_; exact BK134.out⟩, ⟨by refine kb_ ?_; exact BK135.out⟩, ⟨by refine kb_ ?_; exact BK136.out⟩, ⟨hbA_ HB.out⟩⟩
  ·replace c8 := Bool.eq_false_iff.mpr c8
   subst c8
   rw [if_neg (show ¬ (false = true) by decide)] at H
   have H' := Aside0.mk H
   clear H
   try go_wp2
   replace BK134 := Aside0.mk (blk_drew BK134.out); replace BK135 := Aside0.mk (blk_drew BK135.out); replace BK136 := Aside0.mk (blk_drew BK136.out); replace HB := (bd_ HB)
   refine start_ (n := 17) (S := fun w' => w'.cell? ⟨gb134, 0, none⟩ = some (.slice A0_0 l0_0.length c0_0) ∧ w'.cell? ⟨gb134, 1, none⟩ = some (.int .i64 a0_1)) (ds := []) #[false, false, false, false, false, false, false, false, false, false, false, false, false, false, false, false, false] (by kernel_rfl) rfl rfl (cz2 BK134.out) (fun hHeld => ?_); refine with_tabW spec_PartPut.tab1 spec_PartPut.bits1 (fun HT_ HW_ => ?_)
   generalize w6.drew = w20 at BK134 BK135 BK136 HB hHeld ⊢
   refine tk_ (i := 0) (N := some 11) HT_ HW_ hHeld ?_
   refine on_ (i := 1) (N := some 12) HT_ (fun K hK => ?_)
   refine goes_ Try.func45 (by kernel_rfl) rfl #[.agg #[.slice A0_0 l0_0.length c0_0, .int .i64 a0_1]] (by rfl) rfl rfl ar_ ?_
   with_reducible refine (spec_PartOk.calls k _ _ l0_0 a0_1 false _ ?side1 ?side2 A7.out).mono ?_
   (case side1 => exact kC_ (Kd.C_below HR0_0.out HB.out))
   (case side2 => exact HC0_0.out)
   rintro e w21 ⟨rfl, hb⟩
   refine ⟨_, rfl, ?_⟩
   replace BK134 := (bbA_ BK134 hb); replace BK135 := (bbA_ BK135 hb); replace BK136 := (bbA_ BK136 hb); replace HB := (bs_ HB hb); (try clear hb); (try clear hb2); (try clear hk); (try clear hi)
   refine hK.out _ _ (cz2 BK134.out) (fun hHeld => ?_)
   clear hK K; refine nm_ 12 ?_; refine pu_ (i := 2) (N := some 13) HT_ ?_; refine pu_ (i := 3) (N := some 14) HT_ ?_; refine pn_ (i := 4) (N := some 15) HT_ ?_; refine pn_ (i := 5) (N := some 16) HT_ ?_; refine pn_ (i := 6) (N := some 17) HT_ ?_; refine pu_ (i := 7) (N := some 18) HT_ ?_; refine pu_ (i := 8) (N := some 19) HT_ ?_; refine pn_ (i := 9) (N := some 20) HT_ ?_; refine pn_ (i := 10) (N := some 21) HT_ ?_; refine pn_ (i := 11) (N := some 22) HT_ ?_; refine pn_ (i := 12) (N := some 23) HT_ ?_; refine pn_ (i := 13) (N := some 24) HT_ ?_; refine pn_ (i := 14) (N := some 25) HT_ ?_; refine pn_ (i := 15) (N := some 26) HT_ ?_; refine pu_ (i := 16) (N := some 27) HT_ ?_
   refine done_ (done_of HT_.out (by kernel_rfl)) ?_
   try go_wp2
   go_meet
   case rel => exact ⟨_, (true), (by first | rfl | (simp; done) | (simp [*]; done)), H', ⟨by first | omega | exact Nat.le_refl _⟩, ⟨by refine kb_ ?_; exact BK134.out⟩, ⟨by refine kb_ ?_; exact BK135.out⟩, ⟨by refine kb_ ?_; exact BK136.out⟩, ⟨hbA_ HB.out⟩⟩
 case rest =>
  clear HC3; (try clear c1); (try clear p1); (try clear q1); (try clear hx1); (try clear qi1); (try clear p2); (try clear c4); (try clear c8); (try clear c10); (try clear c11); (try clear c13); (try clear p13); (try clear q13); (try clear hx13); (try clear qi13); (try clear hx139_0); (try clear hx139_1); (try clear hx139_2); (try clear hx139_3); (try clear hx139_4); (try clear hx139_5); (try clear hx139_6); (try clear hx139_7); (try clear hx139_8); (try clear p139); (try clear q139)
  obtain ⟨kq, x27_2, rfl, HA, HJ2, BK134, BK135, BK136, HB⟩ := hcut
  cases kq with
  | zero => exact absurd HA.out (by simp [spec_PartPut.j0])
  | succ kj2 =>
   have H := HA.out; clear HA
   simp only [spec_PartPut.j0] at H
   by_cases c22 : x27_2 = true
   ·subst c22
    rw [if_pos rfl] at H
    simp only [Option.some.injEq, Prod.mk.injEq] at H
    obtain ⟨rfl, rfl, rfl⟩ := H
    have hnb23 := NB136_134.out; have hnc23 := NB134_136.out; have hnb24 := NB136_135.out; have hnc24 := NB135_136.out; have Z25 := zz2 BK136
    go_wp2
    refine bodyPost_ret (results_ct rfl _ _ gb136 32 #[.slice none 0 0, .int .i64 0] (0, 0) _ rfl (by refine kb_ ?_; refine pz2 (cs := #[.slice none 0 0, .int .i64 0]) ?_; refine kb_ ?_; exact BK136.out) Try.underlying32 rfl (by kernel_rfl)) rfl ?_
    exact ⟨_, by first | rfl | (simp [errW_none, errW_some] <;> rfl) | (simp [*, errW_none, errW_some] <;> rfl), by first | exact Kd.S_nil _ _ _ _ _ | exact Kd.N_nil _ _ _ _ _ | exact Kd.V_nil _ _ _ _ _ | exact Kd.Q_nil _ _ _ _ _ | exact Kd.R_nil _ _ _ _ _, hbA_ HB.out⟩
   ·replace c22 := Bool.eq_false_iff.mpr c22
    subst c22
    rw [if_neg (show ¬ (false = true) by decide)] at H
    have H' := Aside0.mk H
    clear H; have hnb26 := NB134_135.out; have hnc26 := NB135_134.out; have hnb27 := NB134_136.out; have hnc27 := NB136_134.out; have Z28 := zz2 BK134
    go_wp2_with (first | ((with_reducible refine gate_dst (N := 6) rfl ?_); refine box_ (N := 6) (cs := #[.slice none 0 0, .int .i64 0]) (t := 32) (fun gb141 hg w29 hbox hb => ?_); have BK141 := Aside0.mk (hbox); have GW141 := ge_ hg HB; have GE141 := ge_ hg HB; replace HB := (bs_ HB hb); have NB134_141 := nl_ hg BK134; have NB141_134 := ng_ hg BK134; replace BK134 := (bbA_ BK134 hb); have NB135_141 := nl_ hg BK135; have NB141_135 := ng_ hg BK135; replace BK135 := (bbA_ BK135 hb); have NB136_141 := nl_ hg BK136; have NB141_136 := ng_ hg BK136; replace BK136 := (bbA_ BK136 hb); clear hb hbox hg; have hnb30 := NB141_134.out; have hnc30 := NB134_141.out; have hnb31 := NB141_135.out; have hnc31 := NB135_141.out; have hnb32 := NB141_136.out; have hnc32 := NB136_141.out; have Z33 := zz2 BK141))
    go_loopg [7, 8] kj2 (fun kq v7 v8 w' => ∃ (x7_2 : Bool) (x8_2 : Int), v7 = .bool x7_2 ∧ v8 = .int .i64 x8_2 ∧ Aside0 (spec_PartPut.l0 kq x7_2 x8_2 l0_0 a0_1 a1_0 a1_1 a1_2 a1_3 a1_4 a1_5 a1_6 a1_7 l1_8 a0_1 = some (r1, r2, r3)) ∧ Aside0 (kq ≤ kj2) ∧ Aside0 (w'.heap[gb134]? = some (.cells #[(.slice A0_0 l0_0.length c0_0), .int .i64 a0_1] 32 (0, 0))) ∧ Aside0 (w'.heap[gb135]? = some (.cells #[.int .i64 a1_0, .int .i64 a1_1, .int .i64 a1_2, .int .i64 a1_3, .int .i64 a1_4, .int .i64 a1_5, .bool a1_6, .bool a1_7, (.slice A1_8 l1_8.length c1_8)] 36 (0, 0))) ∧ Aside0 (w'.heap[gb136]? = some (.cells #[(.slice none 0 0), .int .i64 0] 32 (0, 0))) ∧ Aside0 (w'.heap[gb141]? = some (.cells #[(.slice none 0 0), .int .i64 a0_1] 32 (0, 0))) ∧ Aside0 (Below w.heap.size w w'))
    case atStart => exact ⟨(false), (0), (by first | rfl | (simp; done) | (simp [*]; done)), (by first | rfl | (simp; done) | (simp [*]; done)), H', ⟨Nat.le_refl _⟩, ⟨by exact kf_ BK134.out⟩, ⟨by exact kf_ BK135.out⟩, ⟨by exact kf_ BK136.out⟩, ⟨by refine kb_ ?_; refine pz2 (cs := #[.slice none 0 0, .int .i64 0]) ?_; refine kb_ ?_; exact BK141.out⟩, ⟨hbA_ HB.out⟩⟩
    case round =>
     clear H'; (try clear c1); (try clear p1); (try clear q1); (try clear hx1); (try clear qi1); (try clear c2); (try clear p2); (try clear c3); (try clear c4); (try clear c8); (try clear c10); (try clear c11); (try clear c13); (try clear p13); (try clear q13); (try clear hx13); (try clear qi13); (try clear c22); (try clear c23); (try clear c24); (try clear c26); (try clear c27); (try clear c30); (try clear c31); (try clear c32); (try clear Z25); (try clear Z28); (try clear Z33); (try clear hx139_0); (try clear hx139_1); (try clear hx139_2); (try clear hx139_3); (try clear hx139_4); (try clear hx139_5); (try clear hx139_6); (try clear hx139_7); (try clear hx139_8); (try clear p1); (try clear p13); (try clear p139); (try clear p2); (try clear q1); (try clear q13); (try clear q139)
     obtain ⟨x7_2, x8_2, rfl, rfl, HA, HK2, BK134, BK135, BK136, BK141, HB⟩ := hrel
     cases gk with
     | zero => exact absurd HA.out (by simp [spec_PartPut.l0])
     | succ k2 =>
      have H := HA.out; clear HA
      simp only [spec_PartPut.l0] at H
      by_cases c34 : x8_2 < (l0_0.length : Int)
      ·rw [if_pos c34] at H
       have c34b0 : decide (x8_2 < (l0_0.length : Int)) = true := decide_eq_true c34
       clear c34
       by_cases c35 : 0 ≤ x8_2
       ·rw [if_pos c35] at H
        have c35b0 : decide (0 ≤ x8_2) = true := decide_eq_true c35
        clear c35; have HC36 := Aside0.mk H; clear H; have hnb37 := NB134_135.out; have hnc37 := NB135_134.out; have hnb38 := NB134_136.out; have hnc38 := NB136_134.out; have hnb39 := NB134_141.out; have hnc39 := NB141_134.out; have Z40 := zz2 BK134
        have p142 : 0 ≤ (x8_2 : Int) := of_decide_eq_true (by first | (with_reducible assumption) | assumption)
        have q142 : x8_2 < (l0_0.length : Int) := of_decide_eq_true (by first | (with_reducible assumption) | assumption)
        obtain ⟨ad142, A142_8, c142_8, e142, hx142_0, hx142_1, hx142_2, hx142_3, hx142_4, hx142_5, hx142_6, hx142_7, hx142_8, hl142_8, hi142_8⟩ := at_T36 HR0_0.out x8_2 p142 q142
        cases e142
        replace hx142_0 := cc_ HB hx142_0
        replace hx142_1 := cc_ HB hx142_1
        replace hx142_2 := cc_ HB hx142_2
        replace hx142_3 := cc_ HB hx142_3
        replace hx142_4 := cc_ HB hx142_4
        replace hx142_5 := cc_ HB hx142_5
        replace hx142_6 := cc_ HB hx142_6
        replace hx142_7 := cc_ HB hx142_7
        replace hx142_8 := cc_ HB hx142_8
        have HR142_8 := Aside0.mk hi142_8; have HC142_8 := Aside0.mk hl142_8; clear hi142_8 hl142_8
        replace p142 := eq_true p142
        replace q142 := eq_true q142
        go_upto_region 9 with (first | ((with_reducible refine gate_dst (N := 9) rfl ?_); refine box_ (N := 9) (cs := #[.int .i64 0, .int .i64 0, .int .i64 0, .int .i64 0, .int .i64 0, .int .i64 0, .bool false, .bool false, .slice none 0 0]) (t := 36) (fun gb143 hg w41 hbox hb => ?_); have BK143 := Aside0.mk (hbox); have GW143 := ge_ hg HB; have GE143 := ge_ hg HB; replace HB := (bs_ HB hb); have NB134_143 := nl_ hg BK134; have NB143_134 := ng_ hg BK134; replace BK134 := (bbA_ BK134 hb); have NB135_143 := nl_ hg BK135; have NB143_135 := ng_ hg BK135; replace BK135 := (bbA_ BK135 hb); have NB136_143 := nl_ hg BK136; have NB143_136 := ng_ hg BK136; replace BK136 := (bbA_ BK136 hb); have NB141_143 := nl_ hg BK141; have NB143_141 := ng_ hg BK141; replace BK141 := (bbA_ BK141 hb); clear hb hbox hg; have hnb42 := NB143_134.out; have hnc42 := NB134_143.out; have hnb43 := NB143_135.out; have hnc43 := NB135_143.out; have hnb44 := NB143_136.out; have hnc44 := NB136_143.out; have hnb45 := NB143_141.out; have hnc45 := NB141_143.out; have Z46 := zz9 BK143))
        (try simp only [Act.put, List.setIfInBounds_toArray, List.set_cons_zero, List.set_cons_succ])
        go_cut [64] (fun v64 wc => ∃ (kq : Nat) (x64_35 : Bool), v64 = .bool x64_35 ∧ Aside0 (spec_PartPut.j2 kq x7_2 x8_2 x64_35 l0_0 a0_1 a1_0 a1_1 a1_2 a1_3 a1_4 a1_5 a1_6 a1_7 l1_8 a0_1 = some (r1, r2, r3)) ∧ Aside0 (kq ≤ k2) ∧ Aside0 (wc.heap[gb134]? = some (.cells #[(.slice (some ad142) l0_0.length c0_0), .int .i64 a0_1] 32 (0, 0))) ∧ Aside0 (wc.heap[gb135]? = some (.cells #[.int .i64 a1_0, .int .i64 a1_1, .int .i64 a1_2, .int .i64 a1_3, .int .i64 a1_4, .int .i64 a1_5, .bool a1_6, .bool a1_7, (.slice A1_8 l1_8.length c1_8)] 36 (0, 0))) ∧ Aside0 (wc.heap[gb136]? = some (.cells #[(.slice none 0 0), .int .i64 0] 32 (0, 0))) ∧ Aside0 (wc.heap[gb141]? = some (.cells #[(.slice none 0 0), .int .i64 a0_1] 32 (0, 0))) ∧ Aside0 (wc.heap[gb143]? = some (.cells #[.int .i64 ((rd_T36 l0_0 x8_2).f0), .int .i64 ((rd_T36 l0_0 x8_2).f1), .int .i64 ((rd_T36 l0_0 x8_2).f2), .int .i64 ((rd_T36 l0_0 x8_2).f3), .int .i64 ((rd_T36 l0_0 x8_2).f4), .int .i64 ((rd_T36 l0_0 x8_2).f5), .bool ((rd_T36 l0_0 x8_2).f6), .bool ((rd_T36 l0_0 x8_2).f7), (.slice A142_8 ((rd_T36 l0_0 x8_2).f8).length c142_8)] 36 (0, 0))) ∧ Aside0 (Below w.heap.size w wc))
        case first =>
         have H := HC36.out; clear HC36
         by_cases c47 : ((rd_T36 l0_0 x8_2).f5) = a1_5
         ·rw [if_pos c47] at H
          have c47b0 : (((rd_T36 l0_0 x8_2).f5) == a1_5) = true := beq_iff_eq.mpr c47
          have c47b1 : (((rd_T36 l0_0 x8_2).f5) != a1_5) = false := bne_eq_false_iff_eq.mpr c47
          clear c47
          (first | rw [c47b0] | (simp only [i64_w, i32_w]; rw [c47b0]) | skip)
          by_cases c48 : (((rd_T36 l0_0 x8_2).f6) == a1_6) = true
          ·rw [if_pos c48] at H
           have c48b0 : (((rd_T36 l0_0 x8_2).f6) == a1_6) = true := c48
           (try (have c48b1 : decide (((rd_T36 l0_0 x8_2).f6) = a1_6) = true := by simpa using c48))
           (try (have c48b2 : (((rd_T36 l0_0 x8_2).f6) == a1_6) = true := by simpa using c48))
           clear c48
           have H' := Aside0.mk H
           clear H; have hnb49 := NB143_134.out; have hnc49 := NB134_143.out; have hnb50 := NB143_135.out; have hnc50 := NB135_143.out; have hnb51 := NB143_136.out; have hnc51 := NB136_143.out; have hnb52 := NB143_141.out; have hnc52 := NB141_143.out; have Z53 := zz9 BK143; have hnb54 := NB135_134.out; have hnc54 := NB134_135.out; have hnb55 := NB135_136.out; have hnc55 := NB136_135.out; have hnb56 := NB135_141.out; have hnc56 := NB141_135.out; have Z57 := zz9 BK135
           refine (show ∀ {c_ : Code} {Q_ : Exit → Act → World → Prop} {a_ : Act} {W_ : World}, Below w.heap.size w W_ → (Below w.heap.size w W_ → Code.wp Try.prog c_ Q_ a_ W_) → Code.wp Try.prog c_ Q_ a_ W_ from fun h_ k_ => k_ h_) (hbA_ HB.out) (fun hBW_ => ?_)
           have hcv58 := Kd.C_string (P := Try.prog) (A := A142_8) (c := c142_8) Try.underlying25 Try.underlying5 Try.underlying9 (Kd.C_below HR142_8.out hBW_)
           have hcv59 := Kd.C_string (P := Try.prog) (A := A1_8) (c := c1_8) Try.underlying25 Try.underlying5 Try.underlying9 (Kd.C_below HR1_8.out hBW_)
           clear hBW_
           go_wp2
           go_meet
           case rel => exact ⟨_, (((strOfNums ((rd_T36 l0_0 x8_2).f8)).toList == (strOfNums l1_8).toList)), (by first | rfl | (simp; done) | (simp [*]; done)), H', ⟨by have := HJ2.out; have := HK2.out; first | omega | exact Nat.le_refl _⟩, ⟨by exact kf_ BK134.out⟩, ⟨by exact kf_ BK135.out⟩, ⟨by exact kf_ BK136.out⟩, ⟨by exact kf_ BK141.out⟩, ⟨by refine kb_ ?_; refine pz9 (cs := #[.int .i64 0, .int .i64 0, .int .i64 0, .int .i64 0, .int .i64 0, .int .i64 0, .bool false, .bool false, .slice none 0 0]) ?_; refine kb_ ?_; exact BK143.out⟩, ⟨hbA_ HB.out⟩⟩
          ·rw [if_neg c48] at H
           have c48b0 : (((rd_T36 l0_0 x8_2).f6) == a1_6) = false := by simpa using c48
           (try (have c48b1 : decide (((rd_T36 l0_0 x8_2).f6) = a1_6) = false := by simpa using c48))
           (try (have c48b2 : (((rd_T36 l0_0 x8_2).f6) == a1_6) = false := by simpa using c48))
           (try (have c48b3 : ¬ (((rd_T36 l0_0 x8_2).f6) = a1_6) := by simpa using c48))
           clear c48
           have H' := Aside0.mk H
           clear H; have hnb60 := NB143_134.out; have hnc60 := NB134_143.out; have hnb61 := NB143_135.out; have hnc61 := NB135_143.out; have hnb62 := NB143_136.out; have hnc62 := NB136_143.out; have hnb63 := NB143_141.out; have hnc63 := NB141_143.out; have Z64 := zz9 BK143; have hnb65 := NB135_134.out; have hnc65 := NB134_135.out; have hnb66 := NB135_136.out; have hnc66 := NB136_135.out; have hnb67 := NB135_141.out; have hnc67 := NB141_135.out; have Z68 := zz9 BK135
           go_wp2
           go_meet
           case rel => exact ⟨_, (false), (by first | rfl | (simp; done) | (simp [*]; done)), H', ⟨by have := HJ2.out; have := HK2.out; first | omega | exact Nat.le_refl _⟩, ⟨by exact kf_ BK134.out⟩, ⟨by exact kf_ BK135.out⟩, ⟨by exact kf_ BK136.out⟩, ⟨by exact kf_ BK141.out⟩, ⟨by refine kb_ ?_; refine pz9 (cs := #[.int .i64 0, .int .i64 0, .int .i64 0, .int .i64 0, .int .i64 0, .int .i64 0, .bool false, .bool false, .slice none 0 0]) ?_; refine kb_ ?_; exact BK143.out⟩, ⟨hbA_ HB.out⟩⟩
         ·rw [if_neg c47] at H
          have c47b0 : (((rd_T36 l0_0 x8_2).f5) == a1_5) = false := beq_eq_false_iff_ne.mpr c47
          have c47b1 : (((rd_T36 l0_0 x8_2).f5) != a1_5) = true := bne_iff_ne.mpr c47
          (first | rw [c47b0] | (simp only [i64_w, i32_w]; rw [c47b0]) | skip)
          have H' := Aside0.mk H
          clear H; have hnb69 := NB143_134.out; have hnc69 := NB134_143.out; have hnb70 := NB143_135.out; have hnc70 := NB135_143.out; have hnb71 := NB143_136.out; have hnc71 := NB136_143.out; have hnb72 := NB143_141.out; have hnc72 := NB141_143.out; have Z73 := zz9 BK143; have hnb74 := NB135_134.out; have hnc74 := NB134_135.out; have hnb75 := NB135_136.out; have hnc75 := NB136_135.out; have hnb76 := NB135_141.out; have hnc76 := NB141_135.out; have Z77 := zz9 BK135
          go_wp2
          go_meet
          case rel => exact ⟨_, (false), (by first | rfl | (simp; done) | (simp [*]; done)), H', ⟨by have := HJ2.out; have := HK2.out; first | omega | exact Nat.le_refl _⟩, ⟨by exact kf_ BK134.out⟩, ⟨by exact kf_ BK135.out⟩, ⟨by exact kf_ BK136.out⟩, ⟨by exact kf_ BK141.out⟩, ⟨by refine kb_ ?_; refine pz9 (cs := #[.int .i64 0, .int .i64 0, .int .i64 0, .int .i64 0, .int .i64 0, .int .i64 0, .bool false, .bool false, .slice none 0 0]) ?_; refine kb_ ?_; exact BK143.out⟩, ⟨hbA_ HB.out⟩⟩
        case rest =>
         clear HC36; (try clear c1); (try clear p1); (try clear q1); (try clear hx1); (try clear qi1); (try clear c2); (try clear p2); (try clear c3); (try clear c4); (try clear c5); (try clear hcv5); (try clear c6); (try clear c7); (try clear c8); (try clear c10); (try clear c11); (try clear c13); (try clear p13); (try clear q13); (try clear hx13); (try clear qi13); (try clear c14); (try clear p14); (try clear q14); (try clear hx14); (try clear c22); (try clear c23); (try clear c24); (try clear c26); (try clear c27); (try clear c30); (try clear c31); (try clear c32); (try clear c34); (try clear c34b0); (try clear c35); (try clear c35b0); (try clear c37); (try clear c38); (try clear c39); (try clear c42); (try clear c43); (try clear c44); (try clear c45); (try clear c47); (try clear c47b0); (try clear c47b1); (try clear c48); (try clear c48b0); (try clear c48b1); (try clear c48b2); (try clear c49); (try clear c50); (try clear c51); (try clear c52); (try clear c54); (try clear c55); (try clear c56); (try clear hcv58); (try clear hcv59); (try clear c60); (try clear c61); (try clear c62); (try clear c63); (try clear c65); (try clear c66); (try clear c67); (try clear c69); (try clear c70); (try clear c71); (try clear c72); (try clear c74); (try clear c75); (try clear c76); (try clear Z25); (try clear Z28); (try clear Z33); (try clear Z40); (try clear Z46); (try clear Z53); (try clear Z57); (try clear Z64); (try clear Z68); (try clear Z73); (try clear Z77)
         (try clear hx139_0); (try clear hx139_1); (try clear hx139_2); (try clear hx139_3); (try clear hx139_4); (try clear hx139_5); (try clear hx139_6); (try clear hx139_7); (try clear hx139_8); (try clear hx142_0); (try clear hx142_1); (try clear hx142_2); (try clear hx142_3); (try clear hx142_4); (try clear hx142_5); (try clear hx142_6); (try clear hx142_7); (try clear hx142_8); (try clear p1); (try clear p13); (try clear p139); (try clear p142); (try clear p2); (try clear q1); (try clear q13); (try clear q139); (try clear q142)
         obtain ⟨kq, x64_35, rfl, HA, HJ35, BK134, BK135, BK136, BK141, BK143, HB⟩ := hcut
         cases kq with
         | zero => exact absurd HA.out (by simp [spec_PartPut.j2])
         | succ kj35 =>
          have H := HA.out; clear HA
          simp only [spec_PartPut.j2] at H
          by_cases c78 : x64_35 = true
          ·subst c78
           rw [if_pos rfl] at H
           have H' := Aside0.mk H
           clear H
           go_wp2
           go_roundg kj35
           case measure => have := HJ2.out; have := HK2.out; have := HJ35.out; omega
           case rel => exact ⟨(true), (wrap64 (x8_2 + 1)), (by first | rfl | (simp; done) | (simp [*]; done)), (by first | rfl | (simp; done) | (simp [*]; done)), H', ⟨by have := HJ2.out; have := HK2.out; have := HJ35.out; omega⟩, ⟨by refine kb_ ?_; exact BK134.out⟩, ⟨by refine kb_ ?_; exact BK135.out⟩, ⟨by refine kb_ ?_; exact BK136.out⟩, ⟨by refine kb_ ?_; exact BK141.out⟩, ⟨hbA_ HB.out⟩⟩
          ·replace c78 := Bool.eq_false_iff.mpr c78
           subst c78
           rw [if_neg (show ¬ (false = true) by decide)] at H
           have H' := Aside0.mk H
           clear H
           go_wp2
           go_roundg kj35
           case measure => have := HJ2.out; have := HK2.out; have := HJ35.out; omega
           case rel => exact ⟨(x7_2), (wrap64 (x8_2 + 1)), (by first | rfl | (simp; done) | (simp [*]; done)), (by first | rfl | (simp; done) | (simp [*]; done)), H', ⟨by have := HJ2.out; have := HK2.out; have := HJ35.out; omega⟩, ⟨by refine kb_ ?_; exact BK134.out⟩, ⟨by refine kb_ ?_; exact BK135.out⟩, ⟨by refine kb_ ?_; exact BK136.out⟩, ⟨by refine kb_ ?_; exact BK141.out⟩, ⟨hbA_ HB.out⟩⟩
       ·rw [if_neg c35] at H
        exact absurd H (by simp)
      ·rw [if_neg c34] at H
       have c34b0 : decide (x8_2 < (l0_0.length : Int)) = false := decide_eq_false c34
       clear c34
       have H' := Aside0.mk H
       clear H; have hnb79 := NB134_135.out; have hnc79 := NB135_134.out; have hnb80 := NB134_136.out; have hnc80 := NB136_134.out; have hnb81 := NB134_141.out; have hnc81 := NB141_134.out; have Z82 := zz2 BK134
       go_wp2
       go_loopg [7, 10] k2 (fun kq v7 v10 w' => ∃ (x7_3 : Bool) (x10_3 : Int) (x142000_3 : List (S36)) (u142000 : Value), v7 = .bool x7_3 ∧ v10 = .int .i64 x10_3 ∧ Aside0 (spec_PartPut.l1 kq x7_3 x10_3 l0_0 a0_1 a1_0 a1_1 a1_2 a1_3 a1_4 a1_5 a1_6 a1_7 l1_8 x142000_3 a0_1 = some (r1, r2, r3)) ∧ Aside0 (kq ≤ k2) ∧ Aside0 (Kd.S k36 36 w' w.heap.size (fun k_ => k_ ≠ gb135) u142000 x142000_3) ∧ Aside0 (w'.heap[gb134]? = some (.cells #[(.slice A0_0 l0_0.length c0_0), .int .i64 a0_1] 32 (0, 0))) ∧ Aside0 (w'.heap[gb135]? = some (.cells #[.int .i64 a1_0, .int .i64 a1_1, .int .i64 a1_2, .int .i64 a1_3, .int .i64 a1_4, .int .i64 a1_5, .bool a1_6, .bool a1_7, (.slice A1_8 l1_8.length c1_8)] 36 (0, 0))) ∧ Aside0 (w'.heap[gb136]? = some (.cells #[(.slice none 0 0), .int .i64 0] 32 (0, 0))) ∧ Aside0 (w'.heap[gb141]? = some (.cells #[u142000, .int .i64 a0_1] 32 (0, 0))) ∧ Aside0 (Below w.heap.size w w'))
       case atStart => exact ⟨(x7_2), (0), (([] : List (S36))), (.slice none 0 0), (by first | rfl | (simp; done) | (simp [*]; done)), (by first | rfl | (simp; done) | (simp [*]; done)), H', ⟨Nat.le_refl _⟩, ⟨by first | exact Kd.S_nil _ _ _ _ _ | exact Kd.N_nil _ _ _ _ _ | exact Kd.V_nil _ _ _ _ _ | exact Kd.Q_nil _ _ _ _ _ | exact Kd.R_nil _ _ _ _ _⟩, ⟨by refine kb_ ?_; exact BK134.out⟩, ⟨by refine kb_ ?_; exact BK135.out⟩, ⟨by refine kb_ ?_; exact BK136.out⟩, ⟨by refine kb_ ?_; exact BK141.out⟩, ⟨hbA_ HB.out⟩⟩
       case round =>
        clear H'; (try clear c1); (try clear p1); (try clear q1); (try clear hx1); (try clear qi1); (try clear c2); (try clear p2); (try clear c3); (try clear c4); (try clear c5); (try clear hcv5); (try clear c6); (try clear p6); (try clear c7); (try clear c8); (try clear c10); (try clear c11); (try clear c13); (try clear p13); (try clear q13); (try clear hx13); (try clear qi13); (try clear c14); (try clear p14); (try clear q14); (try clear hx14); (try clear c22); (try clear c23); (try clear c24); (try clear c26); (try clear c27); (try clear c30); (try clear c31); (try clear c32); (try clear c34); (try clear c34b0); (try clear c35); (try clear c35b0); (try clear c37); (try clear c38); (try clear c39); (try clear c42); (try clear c43); (try clear c44); (try clear c45); (try clear c47); (try clear c47b0); (try clear c47b1); (try clear c48); (try clear c48b0); (try clear c48b1); (try clear c48b2); (try clear c49); (try clear c50); (try clear c51); (try clear c52); (try clear c54); (try clear c55); (try clear c56); (try clear hcv58); (try clear hcv59); (try clear c60); (try clear c61); (try clear c62); (try clear c63); (try clear p64); (try clear c65); (try clear c66); (try clear c67); (try clear c69); (try clear c70); (try clear c71); (try clear c72); (try clear c74); (try clear c75); (try clear c76); (try clear c78); (try clear c79); (try clear c80); (try clear c81); (try clear Z25); (try clear Z28); (try clear Z33); (try clear Z40); (try clear Z46); (try clear Z53); (try clear Z57); (try clear Z64); (try clear Z68); (try clear Z73); (try clear Z77); (try clear Z82)
        (try clear hx139_0); (try clear hx139_1); (try clear hx139_2); (try clear hx139_3); (try clear hx139_4); (try clear hx139_5); (try clear hx139_6); (try clear hx139_7); (try clear hx139_8); (try clear hx142_0); (try clear hx142_1); (try clear hx142_2); (try clear hx142_3); (try clear hx142_4); (try clear hx142_5); (try clear hx142_6); (try clear hx142_7); (try clear hx142_8); (try clear p1); (try clear p13); (try clear p139); (try clear p14); (try clear p142); (try clear p2); (try clear q1); (try clear q13); (try clear q139); (try clear q14); (try clear q142)
        obtain ⟨x7_3, x10_3, x142000_3, u142000, rfl, rfl, HA, HK3, HO_142000, BK134, BK135, BK136, BK141, HB⟩ := hrel
        cases gk with
        | zero => exact absurd HA.out (by simp [spec_PartPut.l1])
        | succ k3 =>
         have H := HA.out; clear HA
         simp only [spec_PartPut.l1] at H
         by_cases c83 : x10_3 < (l0_0.length : Int)
         ·rw [if_pos c83] at H
          have c83b0 : decide (x10_3 < (l0_0.length : Int)) = true := decide_eq_true c83
          clear c83; have HC84 := Aside0.mk H; clear H; have hnb85 := NB134_135.out; have hnc85 := NB135_134.out; have hnb86 := NB134_136.out; have hnc86 := NB136_134.out; have hnb87 := NB134_141.out; have hnc87 := NB141_134.out; have Z88 := zz2 BK134
          go_upto_region 14 with (fail)
          go_cut [84] (fun v84 wc => ∃ (kq : Nat) (x84_83 : Bool), v84 = .bool x84_83 ∧ Aside0 (spec_PartPut.j4 kq x7_3 x10_3 x84_83 l0_0 a0_1 a1_0 a1_1 a1_2 a1_3 a1_4 a1_5 a1_6 a1_7 l1_8 x142000_3 a0_1 = some (r1, r2, r3)) ∧ Aside0 (kq ≤ k3) ∧ Aside0 (Kd.S k36 36 wc w.heap.size (fun k_ => k_ ≠ gb135) u142000 x142000_3) ∧ Aside0 (wc.heap[gb134]? = some (.cells #[(.slice A0_0 l0_0.length c0_0), .int .i64 a0_1] 32 (0, 0))) ∧ Aside0 (wc.heap[gb135]? = some (.cells #[.int .i64 a1_0, .int .i64 a1_1, .int .i64 a1_2, .int .i64 a1_3, .int .i64 a1_4, .int .i64 a1_5, .bool a1_6, .bool a1_7, (.slice A1_8 l1_8.length c1_8)] 36 (0, 0))) ∧ Aside0 (wc.heap[gb136]? = some (.cells #[(.slice none 0 0), .int .i64 0] 32 (0, 0))) ∧ Aside0 (wc.heap[gb141]? = some (.cells #[u142000, .int .i64 a0_1] 32 (0, 0))) ∧ Aside0 (Below w.heap.size w wc))
          case first =>
           have H := HC84.out; clear HC84
           by_cases c89 : x7_3 = true
           ·subst c89
            rw [if_pos rfl] at H
            have H' := Aside0.mk H
            clear H
            try go_wp2
            replace HO_142000 := Aside0.mk (Kd.S_drew HO_142000.out); replace BK134 := Aside0.mk (blk_drew BK134.out); replace BK135 := Aside0.mk (blk_drew BK135.out); replace BK136 := Aside0.mk (blk_drew BK136.out); replace BK141 := Aside0.mk (blk_drew BK141.out); replace HB := (bd_ HB)
            refine start_ (n := 13) (S := fun w' => True) (ds := []) #[false, false, false, false, false, false, false, false, false, false, false, false, false] (by kernel_rfl) rfl rfl trivial (fun hHeld => ?_); refine with_tabW spec_PartPut.tab14 spec_PartPut.bits14 (fun HT_ HW_ => ?_)
            generalize wr.drew = w90 at HO_142000 BK134 BK135 BK136 BK141 HB hHeld ⊢
            refine pu_ (i := 0) (N := some 72) HT_ ?_; refine pu_ (i := 1) (N := some 73) HT_ ?_; refine pu_ (i := 2) (N := some 74) HT_ ?_; refine pn_ (i := 3) (N := some 75) HT_ ?_; refine pn_ (i := 4) (N := some 76) HT_ ?_; refine pn_ (i := 5) (N := some 77) HT_ ?_; refine pn_ (i := 6) (N := some 78) HT_ ?_; refine pn_ (i := 7) (N := some 79) HT_ ?_; refine pn_ (i := 8) (N := some 80) HT_ ?_; refine pn_ (i := 9) (N := some 81) HT_ ?_; refine pn_ (i := 10) (N := some 82) HT_ ?_; refine pn_ (i := 11) (N := some 83) HT_ ?_; refine pu_ (i := 12) (N := some 84) HT_ ?_
            refine done_ (done_of HT_.out (by kernel_rfl)) ?_
            try go_wp2
            go_meet
            case rel => exact ⟨_, (false), (by first | rfl | (simp; done) | (simp [*]; done)), H', ⟨by have := HJ2.out; have := HK2.out; have := HK3.out; first | omega | exact Nat.le_refl _⟩, ⟨by refine kS_ ?_; exact HO_142000.out⟩, ⟨by refine kb_ ?_; exact BK134.out⟩, ⟨by refine kb_ ?_; exact BK135.out⟩, ⟨by refine kb_ ?_; exact BK136.out⟩, ⟨by refine kb_ ?_; exact BK141.out⟩, ⟨hbA_ HB.out⟩⟩
           ·replace c89 := Bool.eq_false_iff.mpr c89
            subst c89
            rw [if_neg (show ¬ (false = true) by decide)] at H
            by_cases c91 : 0 ≤ x10_3
            ·rw [if_pos c91] at H
             have c91b0 : decide (0 ≤ x10_3) = true := decide_eq_true c91
             clear c91
             (first | rw [c91b0] | (simp only [i64_w, i32_w]; rw [c91b0]) | skip)
             have H' := Aside0.mk H
             clear H
             try go_wp2
             replace HO_142000 := Aside0.mk (Kd.S_drew HO_142000.out); replace BK134 := Aside0.mk (blk_drew BK134.out); replace BK135 := Aside0.mk (blk_drew BK135.out); replace BK136 := Aside0.mk (blk_drew BK136.out); replace BK141 := Aside0.mk (blk_drew BK141.out); replace HB := (bd_ HB)
             have p144 : 0 ≤ (x10_3 : Int) := of_decide_eq_true (by first | (with_reducible assumption) | assumption)
             have q144 : x10_3 < (l0_0.length : Int) := of_decide_eq_true (by first | (with_reducible assumption) | assumption)
             obtain ⟨ad144, A144_8, c144_8, e144, hx144_0, hx144_1, hx144_2, hx144_3, hx144_4, hx144_5, hx144_6, hx144_7, hx144_8, hl144_8, hi144_8⟩ := at_T36 HR0_0.out x10_3 p144 q144
             have hw144_8 := hx144_8; have hw144_7 := hx144_7; have hw144_6 := hx144_6; have hw144_5 := hx144_5; have hw144_4 := hx144_4; have hw144_3 := hx144_3; have hw144_2 := hx144_2; have hw144_1 := hx144_1; have hw144_0 := hx144_0
             cases e144
             replace hx144_0 := cc_ HB hx144_0
             replace hx144_1 := cc_ HB hx144_1
             replace hx144_2 := cc_ HB hx144_2
             replace hx144_3 := cc_ HB hx144_3
             replace hx144_4 := cc_ HB hx144_4
             replace hx144_5 := cc_ HB hx144_5
             replace hx144_6 := cc_ HB hx144_6
             replace hx144_7 := cc_ HB hx144_7
             replace hx144_8 := cc_ HB hx144_8
             have HR144_8 := Aside0.mk hi144_8; have HC144_8 := Aside0.mk hl144_8; clear hi144_8 hl144_8
             replace p144 := eq_true p144
             replace q144 := eq_true q144
             refine start_ (n := 13) (S := fun w' => w'.cell? ⟨gb135, 0, none⟩ = some (.int .i64 a1_0) ∧ w'.cell? ⟨gb135, 1, none⟩ = some (.int .i64 a1_1) ∧ w'.cell? ⟨gb135, 2, none⟩ = some (.int .i64 a1_2) ∧ w'.cell? ⟨gb135, 3, none⟩ = some (.int .i64 a1_3) ∧ w'.cell? ⟨gb135, 4, none⟩ = some (.int .i64 a1_4) ∧ w'.cell? ⟨gb135, 5, none⟩ = some (.int .i64 a1_5) ∧ w'.cell? ⟨gb135, 6, none⟩ = some (.bool a1_6) ∧ w'.cell? ⟨gb135, 7, none⟩ = some (.bool a1_7) ∧ w'.cell? ⟨gb135, 8, none⟩ = some (.slice A1_8 l1_8.length c1_8) ∧ w'.cell? ⟨gb134, 0, none⟩ = some (.slice (some ad144) l0_0.length c0_0) ∧ w'.cell? ⟨gb134, 1, none⟩ = some (.int .i64 a0_1) ∧ w'.cell? (ad144.add ((x10_3).toNat * 9)) = some (.int .i64 ((rd_T36 l0_0 x10_3).f0)) ∧ w'.cell? ⟨(ad144.add ((x10_3).toNat * 9)).block, (ad144.add ((x10_3).toNat * 9)).off + 1, none⟩ = some (.int .i64 ((rd_T36 l0_0 x10_3).f1)) ∧ w'.cell? ⟨(ad144.add ((x10_3).toNat * 9)).block, (ad144.add ((x10_3).toNat * 9)).off + 2, none⟩ = some (.int .i64 ((rd_T36 l0_0 x10_3).f2)) ∧ w'.cell? ⟨(ad144.add ((x10_3).toNat * 9)).block, (ad144.add ((x10_3).toNat * 9)).off + 3, none⟩ = some (.int .i64 ((rd_T36 l0_0 x10_3).f3)) ∧ w'.cell? ⟨(ad144.add ((x10_3).toNat * 9)).block, (ad144.add ((x10_3).toNat * 9)).off + 4, none⟩ = some (.int .i64 ((rd_T36 l0_0 x10_3).f4)) ∧ w'.cell? ⟨(ad144.add ((x10_3).toNat * 9)).block, (ad144.add ((x10_3).toNat * 9)).off + 5, none⟩ = some (.int .i64 ((rd_T36 l0_0 x10_3).f5)) ∧ w'.cell? ⟨(ad144.add ((x10_3).toNat * 9)).block, (ad144.add ((x10_3).toNat * 9)).off + 6, none⟩ = some (.bool ((rd_T36 l0_0 x10_3).f6)) ∧ w'.cell? ⟨(ad144.add ((x10_3).toNat * 9)).block, (ad144.add ((x10_3).toNat * 9)).off + 7, none⟩ = some (.bool ((rd_T36 l0_0 x10_3).f7)) ∧ w'.cell? ⟨(ad144.add ((x10_3).toNat * 9)).block, (ad144.add ((x10_3).toNat * 9)).off + 8, none⟩ = some (.slice A144_8 ((rd_T36 l0_0 x10_3).f8).length c144_8)) (ds := []) #[false, false, false, false, false, false, false, false, false, false, false, false, false] (by kernel_rfl) rfl rfl ⟨bc_ BK135 0, bc_ BK135 1, bc_ BK135 2, bc_ BK135 3, bc_ BK135 4, bc_ BK135 5, bc_ BK135 6, bc_ BK135 7, bc_ BK135 8, bc_ BK134 0, bc_ BK134 1, (cc_ HB hw144_0), (cc_ HB hw144_1), (cc_ HB hw144_2), (cc_ HB hw144_3), (cc_ HB hw144_4), (cc_ HB hw144_5), (cc_ HB hw144_6), (cc_ HB hw144_7), (cc_ HB hw144_8)⟩ (fun hHeld => ?_); refine with_tabW spec_PartPut.tab14 spec_PartPut.bits14 (fun HT_ HW_ => ?_)
             generalize wr.drew = w92 at HO_142000 BK134 BK135 BK136 BK141 HB HR144_8 hx144_0 hx144_1 hx144_2 hx144_3 hx144_4 hx144_5 hx144_6 hx144_7 hx144_8 hHeld ⊢
             refine pu_ (i := 0) (N := some 72) HT_ ?_; refine pu_ (i := 1) (N := some 73) HT_ ?_; refine pu_ (i := 2) (N := some 74) HT_ ?_; refine pu_ (i := 3) (N := some 75) HT_ ?_; refine pu_ (i := 5) (N := some 77) HT_ ?_; refine pu_ (i := 7) (N := some 79) HT_ ?_; refine tk_ (i := 4) (N := some 76) HT_ HW_ hHeld ?_; refine tk_ (i := 6) (N := some 78) HT_ HW_ hHeld ?_; refine pu_ (i := 8) (N := some 80) HT_ ?_; refine pu_ (i := 9) (N := some 81) HT_ ?_; refine tk_ (i := 10) (N := some 82) HT_ HW_ hHeld ?_; refine pu_ (i := 11) (N := some 83) HT_ ?_; refine pu_ (i := 12) (N := some 84) HT_ ?_
             refine done_ (done_of HT_.out (by kernel_rfl)) ?_
             try go_wp2
             go_meet
             case rel => exact ⟨_, (decide (a1_5 < ((rd_T36 l0_0 x10_3).f5))), (by first | rfl | (simp; done) | (simp [*]; done)), H', ⟨by have := HJ2.out; have := HK2.out; have := HK3.out; first | omega | exact Nat.le_refl _⟩, ⟨by refine kS_ ?_; exact HO_142000.out⟩, ⟨by refine kb_ ?_; exact BK134.out⟩, ⟨by refine kb_ ?_; exact BK135.out⟩, ⟨by refine kb_ ?_; exact BK136.out⟩, ⟨by refine kb_ ?_; exact BK141.out⟩, ⟨hbA_ HB.out⟩⟩
            ·rw [if_neg c91] at H
             exact absurd H (by simp)
          case rest =>
           clear HC84; (try clear c1); (try clear p1); (try clear q1); (try clear hx1); (try clear qi1); (try clear c2); (try clear p2); (try clear c3); (try clear c4); (try clear c5); (try clear hcv5); (try clear c6); (try clear p6); (try clear c7); (try clear c8); (try clear c9); (try clear c10); (try clear c11); (try clear c13); (try clear p13); (try clear q13); (try clear hx13); (try clear qi13); (try clear c14); (try clear p14); (try clear q14); (try clear hx14); (try clear c22); (try clear c23); (try clear c24); (try clear c26); (try clear c27); (try clear c30); (try clear c31); (try clear c32); (try clear c34); (try clear c34b0); (try clear c35); (try clear c35b0); (try clear c37); (try clear c38); (try clear c39); (try clear c42); (try clear c43); (try clear c44); (try clear c45); (try clear c47); (try clear c47b0); (try clear c47b1); (try clear c48); (try clear c48b0); (try clear c48b1); (try clear c48b2); (try clear c49); (try clear c50); (try clear c51); (try clear c52); (try clear c54); (try clear c55); (try clear c56); (try clear hcv58); (try clear hcv59); (try clear c60); (try clear c61); (try clear c62); (try clear c63); (try clear p64); (try clear c65); (try clear c66); (try clear c67); (try clear c69); (try clear c70); (try clear c71); (try clear c72); (try clear c74); (try clear c75); (try clear c76); (try clear c78); (try clear c79); (try clear c80); (try clear c81); (try clear c83); (try clear c83b0); (try clear c85); (try clear c86); (try clear c87); (try clear c89); (try clear c91); (try clear c91b0); (try clear Z25); (try clear Z28); (try clear Z33); (try clear Z40); (try clear Z46); (try clear Z53); (try clear Z57); (try clear Z64); (try clear Z68); (try clear Z73); (try clear Z77)
           (try clear Z82); (try clear Z88); (try clear hx139_0); (try clear hx139_1); (try clear hx139_2); (try clear hx139_3); (try clear hx139_4); (try clear hx139_5); (try clear hx139_6); (try clear hx139_7); (try clear hx139_8); (try clear hx142_0); (try clear hx142_1); (try clear hx142_2); (try clear hx142_3); (try clear hx142_4); (try clear hx142_5); (try clear hx142_6); (try clear hx142_7); (try clear hx142_8); (try clear hx144_0); (try clear hx144_1); (try clear hx144_2); (try clear hx144_3); (try clear hx144_4); (try clear hx144_5); (try clear hx144_6); (try clear hx144_7); (try clear hx144_8); (try clear p1); (try clear p13); (try clear p139); (try clear p14); (try clear p142); (try clear p144); (try clear p2); (try clear p6); (try clear p64); (try clear q1); (try clear q13); (try clear q139); (try clear q14); (try clear q142); (try clear q144)
           obtain ⟨kq, x84_83, rfl, HA, HJ83, HO_142000, BK134, BK135, BK136, BK141, HB⟩ := hcut
           cases kq with
           | zero => exact absurd HA.out (by simp [spec_PartPut.j4])
           | succ kj83 =>
            have H := HA.out; clear HA
            simp only [spec_PartPut.j4] at H
            by_cases c93 : x84_83 = true
            ·subst c93
             rw [if_pos rfl] at H
             replace H := Option.bind_eq_some_iff.mp H
             obtain ⟨⟨t145, t146, t147, t148, t149, t150, t151, t152, t153⟩, A940, H⟩ := H
             (try dsimp only at H)
             have A94 := Aside0.mk A940; clear A940
             by_cases c95 : x142000_3.length < 1759218604441
             ·rw [if_pos c95] at H
              have LMc95 := Aside0.mk c95; clear c95
              obtain ⟨y156, hy156⟩ : ∃ y_ : List (S36), y_ = (x142000_3 ++ [(⟨t145, t146, t147, t148, t149, t150, t151, t152, t153⟩ : S36)]) := ⟨_, rfl⟩
              (first | replace H := sb_ hy156 H | rw [← hy156] at H)
              have Ny156 := Aside0.mk hy156; clear hy156
              by_cases c96 : 0 ≤ x10_3
              ·rw [if_pos c96] at H
               have c96b0 : decide (0 ≤ x10_3) = true := decide_eq_true c96
               clear c96
               by_cases c97 : x10_3 < (l0_0.length : Int)
               ·rw [if_pos c97] at H
                have c97b0 : decide (x10_3 < (l0_0.length : Int)) = true := decide_eq_true c97
                clear c97
                replace H := Option.bind_eq_some_iff.mp H
                obtain ⟨⟨t160, t161, t162, t163, t164, t165, t166, t167, t168⟩, A980, H⟩ := H
                (try dsimp only at H)
                have A98 := Aside0.mk A980; clear A980
                by_cases c99 : y156.length < 1759218604441
                ·rw [if_pos c99] at H
                 have LMc99 := Aside0.mk c99; clear c99
                 obtain ⟨y171, hy171⟩ : ∃ y_ : List (S36), y_ = (y156 ++ [(⟨t160, t161, t162, t163, t164, t165, t166, t167, t168⟩ : S36)]) := ⟨_, rfl⟩
                 (first | replace H := sb_ hy171 H | rw [← hy171] at H)
                 have Ny171 := Aside0.mk hy171; clear hy171
                 have H' := Aside0.mk H
                 clear H
                 try go_wp2
                 replace HO_142000 := Aside0.mk (Kd.S_drew HO_142000.out); replace BK134 := Aside0.mk (blk_drew BK134.out); replace BK135 := Aside0.mk (blk_drew BK135.out); replace BK136 := Aside0.mk (blk_drew BK136.out); replace BK141 := Aside0.mk (blk_drew BK141.out); replace HB := (bd_ HB)
                 refine start_ (n := 8) (S := fun w' => w'.cell? ⟨gb141, 0, none⟩ = some (u142000) ∧ w'.cell? ⟨gb141, 1, none⟩ = some (.int .i64 a0_1) ∧ w'.cell? ⟨gb135, 0, none⟩ = some (.int .i64 a1_0) ∧ w'.cell? ⟨gb135, 1, none⟩ = some (.int .i64 a1_1) ∧ w'.cell? ⟨gb135, 2, none⟩ = some (.int .i64 a1_2) ∧ w'.cell? ⟨gb135, 3, none⟩ = some (.int .i64 a1_3) ∧ w'.cell? ⟨gb135, 4, none⟩ = some (.int .i64 a1_4) ∧ w'.cell? ⟨gb135, 5, none⟩ = some (.int .i64 a1_5) ∧ w'.cell? ⟨gb135, 6, none⟩ = some (.bool a1_6) ∧ w'.cell? ⟨gb135, 7, none⟩ = some (.bool a1_7) ∧ w'.cell? ⟨gb135, 8, none⟩ = some (.slice A1_8 l1_8.length c1_8)) (ds := [7]) #[false, false, false, false, false, false, false, false] (by kernel_rfl) rfl rfl ⟨bc_ BK141 0, bc_ BK141 1, bc_ BK135 0, bc_ BK135 1, bc_ BK135 2, bc_ BK135 3, bc_ BK135 4, bc_ BK135 5, bc_ BK135 6, bc_ BK135 7, bc_ BK135 8⟩ (fun hHeld => ?_); refine with_tabW spec_PartPut.tab15 spec_PartPut.bits15 (fun HT_ HW_ => ?_)
                 generalize wc.drew = w100 at HO_142000 BK134 BK135 BK136 BK141 HB hHeld ⊢
                 refine pu_ (i := 0) (N := some 85) HT_ ?_; refine tk_ (i := 1) (N := some 86) HT_ HW_ hHeld ?_; refine tk_ (i := 2) (N := some 87) HT_ HW_ hHeld ?_
                 refine on_ (i := 3) (N := some 88) HT_ (fun K hK => ?_)
                 refine goes_ Try.func48 (by kernel_rfl) rfl #[.agg #[.int .i64 a1_0, .int .i64 a1_1, .int .i64 a1_2, .int .i64 a1_3, .int .i64 a1_4, .int .i64 a1_5, .bool a1_6, .bool a1_7, .slice A1_8 l1_8.length c1_8]] (by rfl) rfl rfl ar_ ?_
                 with_reducible refine (spec_l5Copy.calls a1_0 a1_1 a1_2 a1_3 a1_4 a1_5 a1_6 a1_7 _ _ l1_8 t145 t146 t147 t148 t149 t150 t151 t152 t153 _ ?side1 ?side2 A94.out).mono ?_
                 (case side1 => exact kC_ (Kd.C_below HR1_8.out HB.out))
                 (case side2 => exact HC1_8.out)
                 rintro e w101 ⟨v154, rfl, ho0, hb⟩
                 refine ⟨_, rfl, ?_⟩
                 replace HO_142000 := Aside0.mk (Kd.S_elder' (kS_ HO_142000.out) (Kd.R_base ho0) hb); have HO155 := Aside0.mk (Kd.R_lower ho0 (below_size (hbA_ HB.out))); replace BK134 := (bbA_ BK134 hb); replace BK135 := (bbA_ BK135 hb); replace BK136 := (bbA_ BK136 hb); replace BK141 := (bbA_ BK141 hb); replace HB := (bs_ HB hb); (try clear hb); (try clear hb2); (try clear hk); (try clear hi); (try clear ho0)
                 obtain ⟨Ao103, co103, eo103⟩ := Kd.R_slice HO155.out
                 (first | subst eo103 | (injection eo103 with f1_ f2_ f3_; have f4_ := f1_.symm; have f5_ := f3_.symm; clear f1_ f2_ f3_; subst f4_; subst f5_))
                 refine hK.out _ _ ⟨bc_ BK141 0, bc_ BK141 1, bc_ BK135 0, bc_ BK135 1, bc_ BK135 2, bc_ BK135 3, bc_ BK135 4, bc_ BK135 5, bc_ BK135 6, bc_ BK135 7, bc_ BK135 8⟩ (fun hHeld => ?_)
                 clear hK K; refine nm_ 88 ?_
                 refine on_ (i := 4) (N := some 89) HT_ (fun K hK => ?_)
                 refine value_ (w1 := ?_) (v := ?_) (by rfl) rfl ?_ ?_
                 rotate_left 2
                 ·go_simp
                  constructor
                  ·rfl
                  ·rfl
                 refine hK.out _ _ ⟨(blk_cell (blk_alloc BK141.out _) 0).trans rfl, (blk_cell (blk_alloc BK141.out _) 1).trans rfl, (blk_cell (blk_alloc BK135.out _) 0).trans rfl, (blk_cell (blk_alloc BK135.out _) 1).trans rfl, (blk_cell (blk_alloc BK135.out _) 2).trans rfl, (blk_cell (blk_alloc BK135.out _) 3).trans rfl, (blk_cell (blk_alloc BK135.out _) 4).trans rfl, (blk_cell (blk_alloc BK135.out _) 5).trans rfl, (blk_cell (blk_alloc BK135.out _) 6).trans rfl, (blk_cell (blk_alloc BK135.out _) 7).trans rfl, (blk_cell (blk_alloc BK135.out _) 8).trans rfl⟩ (fun hHeld => ?_)
                 clear hK K; refine nm_ 89 ?_
                 refine on_ (i := 5) (N := some 90) HT_ (fun K hK => ?_)
                 refine Kd.S_append_step k36 (w0 := w) w.heap.size (by rfl) (.tmp 86) (.tmp 89) 30 36 (.agg #[(.int .i64 0), (.int .i64 0), (.int .i64 0), (.int .i64 0), (.int .i64 0), (.int .i64 0), (.bool false), (.bool false), (.slice none 0 0)]) 80 rfl Try.underlying30 info36 rfl (by decide) (by omega) u142000 x142000_3 (⟨t145, t146, t147, t148, t149, t150, t151, t152, t153⟩ : S36) [.int .i64 t145, .int .i64 t146, .int .i64 t147, .int .i64 t148, .int .i64 t149, .int .i64 t150, .bool t151, .bool t152, .slice Ao103 t153.length co103] (fun k_ => k_ ≠ gb135) (fun k_ => some k_ = (.slice Ao103 t153.length co103 : Value).ownBlock) rfl rfl ?aP (fun k_ hk_ => ((Kd.R_mono (ok' := fun k_ => ((fun k_ => k_ ≠ gb135)) k_ ∧ some k_ ≠ (u142000 : Value).ownBlock) (Kd.R_types (Kd.R_apart' (HO155.out) (Kd.S_typed HO_142000.out) (by decide)) BK135.out (by decide)) (fun k_ hk => ⟨hk.2, hk.1.2⟩))).1 k_ hk_.symm) ?aF ?aO ?aB ?aS ?aL ?_
                 (case aP => exact k36_mkM _ _ _ (⟨t145, t146, t147, t148, t149, t150, t151, t152, t153⟩ : S36) (Kd.R_mono (Kd.R_tight rfl (Kd.R_mono (ok' := fun k_ => ((fun k_ => k_ ≠ gb135)) k_ ∧ some k_ ≠ (u142000 : Value).ownBlock) (Kd.R_types (Kd.R_apart' (HO155.out) (Kd.S_typed HO_142000.out) (by decide)) BK135.out (by decide)) (fun k_ hk => ⟨hk.2, hk.1.2⟩))) (fun _ h_ => h_)))
                 (case aB => exact (hbA_ HB.out))
                 (case aF => exact (fun k_ hk => fb_ BK135 k_ hk))
                 (case aO => exact (by refine kS_ ?_; exact Kd.S_mono HO_142000.out (fun k_ hk => ⟨hk.1, fun e_ => hk.2 e_⟩)))
                 (case aS => exact (below_size (hbA_ HB.out)))
                 (case aL => have := LMc95.out; omega)
                 intro v157 w102 ho hb hg hat
                 rw [← Ny156.out] at ho
                 have n0_ := (bgA_ BK134 hg (Kd.S_ne HO_142000.out BK134.out (by decide))); have n1_ := (bgA_ BK135 hg (Kd.S_away HO_142000.out (fun _ hk => hk.1))); have n2_ := (bgA_ BK136 hg (Kd.S_ne HO_142000.out BK136.out (by decide))); have n3_ := (bgA_ BK141 hg (Kd.S_ne HO_142000.out BK141.out (by decide))); have n4_ := Aside0.mk (hb); have n5_ := Aside0.mk (ho); clear BK134 BK135 BK136 BK141 HB HO_142000 HO155; have BK134 := n0_; have BK135 := n1_; have BK136 := n2_; have BK141 := n3_; have HB := n4_; have HO158 := n5_; clear n0_ n1_ n2_ n3_ n4_ n5_ ho hb hg hat
                 obtain ⟨Ao104, co104, eo104⟩ := Kd.S_slice HO158.out
                 (first | subst eo104 | (injection eo104 with f1_ f2_ f3_; have f4_ := f1_.symm; have f5_ := f3_.symm; clear f1_ f2_ f3_; subst f4_; subst f5_))
                 refine hK.out _ _ ⟨bc_ BK141 0, bc_ BK141 1, bc_ BK135 0, bc_ BK135 1, bc_ BK135 2, bc_ BK135 3, bc_ BK135 4, bc_ BK135 5, bc_ BK135 6, bc_ BK135 7, bc_ BK135 8⟩ (fun hHeld => ?_)
                 clear hK K; refine nm_ 90 ?_; refine pu_ (i := 6) (N := some 91) HT_ ?_
                 refine last_ (i := 7) (N := none) #[true, true, true, true, true, true, true, true] rfl rfl (one_of HT_.out (by kernel_rfl)) (by decide) (fun K hK => ?_)
                 have hs105 : w102.cell? ⟨gb141, 0, none⟩ = some (u142000) := bc_ BK141 0
                 have hfs105 := blk_frozen BK141.out 0
                 have hns105_0 := NB134_141.out; have hns105_1 := NB135_141.out; have hns105_2 := NB136_141.out; have hms105_0 := NB141_134.out; have hms105_1 := NB141_135.out; have hms105_2 := NB141_136.out
                 refine skip_ (w1 := ?_) (by rfl) rfl ?_ ?_
                 rotate_left
                 ·go_simp
                  rfl
                 refine hK.out _ _ ?_
                 clear hK K
                 refine done_ (done_of HT_.out (by kernel_rfl)) ?_
                 try go_wp2
                 obtain ⟨w106, h_w106⟩ : ∃ w_, (w102.setCell ⟨gb141, 0, none⟩ (.slice Ao104 y156.length co104)) = w_ := ⟨_, rfl⟩
                 have n0_ : Aside0 (Kd.S k36 36 w106 w.heap.size (fun k_ => k_ ≠ gb135) (.slice Ao104 y156.length co104) y156) := ⟨by subst h_w106; refine kS_ ?_; exact Kd.S_mono (Kd.S_far (p := ⟨gb141, 0, none⟩) (Kd.S_types HO158.out BK141.out (by decide)) (fun _ hk => hk.2) (.slice Ao104 y156.length co104)) (fun _ hk => hk.1)⟩
                 have n1_ : Aside0 (w106.heap[gb134]? = some (.cells #[.slice A0_0 l0_0.length c0_0, .int .i64 a0_1] 32 (0, 0))) := ⟨by subst h_w106; exact kf_ BK134.out⟩
                 have n2_ : Aside0 (w106.heap[gb135]? = some (.cells #[.int .i64 a1_0, .int .i64 a1_1, .int .i64 a1_2, .int .i64 a1_3, .int .i64 a1_4, .int .i64 a1_5, .bool a1_6, .bool a1_7, .slice A1_8 l1_8.length c1_8] 36 (0, 0))) := ⟨by subst h_w106; exact kf_ BK135.out⟩
                 have n3_ : Aside0 (w106.heap[gb136]? = some (.cells #[.slice none 0 0, .int .i64 0] 32 (0, 0))) := ⟨by subst h_w106; exact kf_ BK136.out⟩
                 have n4_ : Aside0 (w106.heap[gb141]? = some (.cells #[.slice Ao104 y156.length co104, .int .i64 a0_1] 32 (0, 0))) := ⟨by subst h_w106; refine kb_ ?_; refine blk_put (cs := #[u142000, .int .i64 a0_1]) ?_ 0 _ rfl; refine kb_ ?_; exact BK141.out⟩
                 have n5_ : Aside0 (Below w.heap.size w w106) := ⟨by subst h_w106; exact hbA_ HB.out⟩
                 (try clear HO158); (try clear BK134); (try clear BK135); (try clear BK136); (try clear BK141); (try clear HB)
                 (try rw [h_w106]); clear h_w106
                 have HO158 := n0_; have BK134 := n1_; have BK135 := n2_; have BK136 := n3_; have BK141 := n4_; have HB := n5_; clear n0_ n1_ n2_ n3_ n4_ n5_; replace HO158 := Aside0.mk (Kd.S_drew HO158.out); replace BK134 := Aside0.mk (blk_drew BK134.out); replace BK135 := Aside0.mk (blk_drew BK135.out); replace BK136 := Aside0.mk (blk_drew BK136.out); replace BK141 := Aside0.mk (blk_drew BK141.out); replace HB := (bd_ HB)
                 have p159 : 0 ≤ (x10_3 : Int) := of_decide_eq_true (by first | (with_reducible assumption) | assumption)
                 have q159 : x10_3 < (l0_0.length : Int) := of_decide_eq_true (by first | (with_reducible assumption) | assumption)
                 obtain ⟨ad159, A159_8, c159_8, e159, hx159_0, hx159_1, hx159_2, hx159_3, hx159_4, hx159_5, hx159_6, hx159_7, hx159_8, hl159_8, hi159_8⟩ := at_T36 HR0_0.out x10_3 p159 q159
                 have hw159_8 := hx159_8; have hw159_7 := hx159_7; have hw159_6 := hx159_6; have hw159_5 := hx159_5; have hw159_4 := hx159_4; have hw159_3 := hx159_3; have hw159_2 := hx159_2; have hw159_1 := hx159_1; have hw159_0 := hx159_0
                 cases e159
                 replace hx159_0 := cc_ HB hx159_0
                 replace hx159_1 := cc_ HB hx159_1
                 replace hx159_2 := cc_ HB hx159_2
                 replace hx159_3 := cc_ HB hx159_3
                 replace hx159_4 := cc_ HB hx159_4
                 replace hx159_5 := cc_ HB hx159_5
                 replace hx159_6 := cc_ HB hx159_6
                 replace hx159_7 := cc_ HB hx159_7
                 replace hx159_8 := cc_ HB hx159_8
                 have HR159_8 := Aside0.mk hi159_8; have HC159_8 := Aside0.mk hl159_8; clear hi159_8 hl159_8
                 replace p159 := eq_true p159
                 replace q159 := eq_true q159
                 refine start_ (n := 12) (S := fun w' => w'.cell? ⟨gb141, 0, none⟩ = some (.slice Ao104 y156.length co104) ∧ w'.cell? ⟨gb141, 1, none⟩ = some (.int .i64 a0_1) ∧ w'.cell? ⟨gb134, 0, none⟩ = some (.slice (some ad159) l0_0.length c0_0) ∧ w'.cell? ⟨gb134, 1, none⟩ = some (.int .i64 a0_1) ∧ w'.cell? (ad159.add ((x10_3).toNat * 9)) = some (.int .i64 ((rd_T36 l0_0 x10_3).f0)) ∧ w'.cell? ⟨(ad159.add ((x10_3).toNat * 9)).block, (ad159.add ((x10_3).toNat * 9)).off + 1, none⟩ = some (.int .i64 ((rd_T36 l0_0 x10_3).f1)) ∧ w'.cell? ⟨(ad159.add ((x10_3).toNat * 9)).block, (ad159.add ((x10_3).toNat * 9)).off + 2, none⟩ = some (.int .i64 ((rd_T36 l0_0 x10_3).f2)) ∧ w'.cell? ⟨(ad159.add ((x10_3).toNat * 9)).block, (ad159.add ((x10_3).toNat * 9)).off + 3, none⟩ = some (.int .i64 ((rd_T36 l0_0 x10_3).f3)) ∧ w'.cell? ⟨(ad159.add ((x10_3).toNat * 9)).block, (ad159.add ((x10_3).toNat * 9)).off + 4, none⟩ = some (.int .i64 ((rd_T36 l0_0 x10_3).f4)) ∧ w'.cell? ⟨(ad159.add ((x10_3).toNat * 9)).block, (ad159.add ((x10_3).toNat * 9)).off + 5, none⟩ = some (.int .i64 ((rd_T36 l0_0 x10_3).f5)) ∧ w'.cell? ⟨(ad159.add ((x10_3).toNat * 9)).block, (ad159.add ((x10_3).toNat * 9)).off + 6, none⟩ = some (.bool ((rd_T36 l0_0 x10_3).f6)) ∧ w'.cell? ⟨(ad159.add ((x10_3).toNat * 9)).block, (ad159.add ((x10_3).toNat * 9)).off + 7, none⟩ = some (.bool ((rd_T36 l0_0 x10_3).f7)) ∧ w'.cell? ⟨(ad159.add ((x10_3).toNat * 9)).block, (ad159.add ((x10_3).toNat * 9)).off + 8, none⟩ = some (.slice A159_8 ((rd_T36 l0_0 x10_3).f8).length c159_8)) (ds := [11]) #[false, false, false, false, false, false, false, false, false, false, false, false] (by kernel_rfl) rfl rfl ⟨bc_ BK141 0, bc_ BK141 1, bc_ BK134 0, bc_ BK134 1, (cc_ HB hw159_0), (cc_ HB hw159_1), (cc_ HB hw159_2), (cc_ HB hw159_3), (cc_ HB hw159_4), (cc_ HB hw159_5), (cc_ HB hw159_6), (cc_ HB hw159_7), (cc_ HB hw159_8)⟩ (fun hHeld => ?_); refine with_tabW spec_PartPut.tab17 spec_PartPut.bits17 (fun HT_ HW_ => ?_)
                 generalize w106.drew = w107 at HO158 BK134 BK135 BK136 BK141 HB HR159_8 hx159_0 hx159_1 hx159_2 hx159_3 hx159_4 hx159_5 hx159_6 hx159_7 hx159_8 hHeld ⊢
                 refine pu_ (i := 0) (N := some 92) HT_ ?_; refine pu_ (i := 2) (N := some 94) HT_ ?_; refine pu_ (i := 4) (N := some 96) HT_ ?_; refine tk_ (i := 1) (N := some 93) HT_ HW_ hHeld ?_; refine tk_ (i := 3) (N := some 95) HT_ HW_ hHeld ?_; refine pu_ (i := 5) (N := some 97) HT_ ?_; refine tk_ (i := 6) (N := some 98) HT_ HW_ hHeld ?_
                 refine on_ (i := 7) (N := some 99) HT_ (fun K hK => ?_)
                 refine goes_ Try.func48 (by kernel_rfl) rfl #[.agg #[.int .i64 ((rd_T36 l0_0 x10_3).f0), .int .i64 ((rd_T36 l0_0 x10_3).f1), .int .i64 ((rd_T36 l0_0 x10_3).f2), .int .i64 ((rd_T36 l0_0 x10_3).f3), .int .i64 ((rd_T36 l0_0 x10_3).f4), .int .i64 ((rd_T36 l0_0 x10_3).f5), .bool ((rd_T36 l0_0 x10_3).f6), .bool ((rd_T36 l0_0 x10_3).f7), .slice A159_8 ((rd_T36 l0_0 x10_3).f8).length c159_8]] (by rfl) rfl rfl ar_ ?_
                 with_reducible refine (spec_l5Copy.calls ((rd_T36 l0_0 x10_3).f0) ((rd_T36 l0_0 x10_3).f1) ((rd_T36 l0_0 x10_3).f2) ((rd_T36 l0_0 x10_3).f3) ((rd_T36 l0_0 x10_3).f4) ((rd_T36 l0_0 x10_3).f5) ((rd_T36 l0_0 x10_3).f6) ((rd_T36 l0_0 x10_3).f7) _ _ ((rd_T36 l0_0 x10_3).f8) t160 t161 t162 t163 t164 t165 t166 t167 t168 _ ?side1 ?side2 A98.out).mono ?_
                 (case side1 => exact kC_ (Kd.C_below HR159_8.out HB.out))
                 (case side2 => exact HC159_8.out)
                 rintro e w108 ⟨v169, rfl, ho0, hb⟩
                 refine ⟨_, rfl, ?_⟩
                 replace HO158 := Aside0.mk (Kd.S_elder' (kS_ HO158.out) (Kd.R_base ho0) hb); have HO170 := Aside0.mk (Kd.R_lower ho0 (below_size (hbA_ HB.out))); replace BK134 := (bbA_ BK134 hb); replace BK135 := (bbA_ BK135 hb); replace BK136 := (bbA_ BK136 hb); replace BK141 := (bbA_ BK141 hb); replace HB := (bs_ HB hb); (try clear hb); (try clear hb2); (try clear hk); (try clear hi); (try clear ho0)
                 obtain ⟨Ao110, co110, eo110⟩ := Kd.R_slice HO170.out
                 (first | subst eo110 | (injection eo110 with f1_ f2_ f3_; have f4_ := f1_.symm; have f5_ := f3_.symm; clear f1_ f2_ f3_; subst f4_; subst f5_))
                 refine hK.out _ _ ⟨bc_ BK141 0, bc_ BK141 1, bc_ BK134 0, bc_ BK134 1, (by first | exact cc_ HB hw159_0 | exact cc_ ⟨hbA_ HB.out⟩ hw159_0), (by first | exact cc_ HB hw159_1 | exact cc_ ⟨hbA_ HB.out⟩ hw159_1), (by first | exact cc_ HB hw159_2 | exact cc_ ⟨hbA_ HB.out⟩ hw159_2), (by first | exact cc_ HB hw159_3 | exact cc_ ⟨hbA_ HB.out⟩ hw159_3), (by first | exact cc_ HB hw159_4 | exact cc_ ⟨hbA_ HB.out⟩ hw159_4), (by first | exact cc_ HB hw159_5 | exact cc_ ⟨hbA_ HB.out⟩ hw159_5), (by first | exact cc_ HB hw159_6 | exact cc_ ⟨hbA_ HB.out⟩ hw159_6), (by first | exact cc_ HB hw159_7 | exact cc_ ⟨hbA_ HB.out⟩ hw159_7), (by first | exact cc_ HB hw159_8 | exact cc_ ⟨hbA_ HB.out⟩ hw159_8)⟩ (fun hHeld => ?_)
                 clear hK K; refine nm_ 99 ?_
                 refine on_ (i := 8) (N := some 100) HT_ (fun K hK => ?_)
                 refine value_ (w1 := ?_) (v := ?_) (by rfl) rfl ?_ ?_
                 rotate_left 2
                 ·go_simp
                  constructor
                  ·rfl
                  ·rfl
                 refine hK.out _ _ ⟨(blk_cell (blk_alloc BK141.out _) 0).trans rfl, (blk_cell (blk_alloc BK141.out _) 1).trans rfl, (blk_cell (blk_alloc BK134.out _) 0).trans rfl, (blk_cell (blk_alloc BK134.out _) 1).trans rfl, (World.cell?_alloc_lt _ _ _ (World.block_lt_of_cell? _ _ ((by first | exact cc_ HB hw159_0 | exact cc_ ⟨hbA_ HB.out⟩ hw159_0)))).trans ((by first | exact cc_ HB hw159_0 | exact cc_ ⟨hbA_ HB.out⟩ hw159_0)), (World.cell?_alloc_lt _ _ _ (World.block_lt_of_cell? _ _ ((by first | exact cc_ HB hw159_1 | exact cc_ ⟨hbA_ HB.out⟩ hw159_1)))).trans ((by first | exact cc_ HB hw159_1 | exact cc_ ⟨hbA_ HB.out⟩ hw159_1)), (World.cell?_alloc_lt _ _ _ (World.block_lt_of_cell? _ _ ((by first | exact cc_ HB hw159_2 | exact cc_ ⟨hbA_ HB.out⟩ hw159_2)))).trans ((by first | exact cc_ HB hw159_2 | exact cc_ ⟨hbA_ HB.out⟩ hw159_2)), (World.cell?_alloc_lt _ _ _ (World.block_lt_of_cell? _ _ ((by first | exact cc_ HB hw159_3 | exact cc_ ⟨hbA_ HB.out⟩ hw159_3)))).trans ((by first | exact cc_ HB hw159_3 | exact cc_ ⟨hbA_ HB.out⟩ hw159_3)), (World.cell?_alloc_lt _ _ _ (World.block_lt_of_cell? _ _ ((by first | exact cc_ HB hw159_4 | exact cc_ ⟨hbA_ HB.out⟩ hw159_4)))).trans ((by first | exact cc_ HB hw159_4 | exact cc_ ⟨hbA_ HB.out⟩ hw159_4)), (World.cell?_alloc_lt _ _ _ (World.block_lt_of_cell? _ _ ((by first | exact cc_ HB hw159_5 | exact cc_ ⟨hbA_ HB.out⟩ hw159_5)))).trans ((by first | exact cc_ HB hw159_5 | exact cc_ ⟨hbA_ HB.out⟩ hw159_5)), (World.cell?_alloc_lt _ _ _ (World.block_lt_of_cell? _ _ ((by first | exact cc_ HB hw159_6 | exact cc_ ⟨hbA_ HB.out⟩ hw159_6)))).trans ((by first | exact cc_ HB hw159_6 | exact cc_ ⟨hbA_ HB.out⟩ hw159_6)), (World.cell?_alloc_lt _ _ _ (World.block_lt_of_cell? _ _ ((by first | exact cc_ HB hw159_7 | exact cc_ ⟨hbA_ HB.out⟩ hw159_7)))).trans ((by first | exact cc_ HB hw159_7 | exact cc_ ⟨hbA_ HB.out⟩ hw159_7)), (World.cell?_alloc_lt _ _ _ (World.block_lt_of_cell? _ _ ((by first | exact cc_ HB hw159_8 | exact cc_ ⟨hbA_ HB.out⟩ hw159_8)))).trans ((by first | exact cc_ HB hw159_8 | exact cc_ ⟨hbA_ HB.out⟩ hw159_8))⟩ (fun hHeld => ?_)
                 clear hK K; refine nm_ 100 ?_
                 refine on_ (i := 9) (N := some 101) HT_ (fun K hK => ?_)
                 refine Kd.S_append_step k36 (w0 := w) w.heap.size (by rfl) (.tmp 93) (.tmp 100) 30 36 (.agg #[(.int .i64 0), (.int .i64 0), (.int .i64 0), (.int .i64 0), (.int .i64 0), (.int .i64 0), (.bool false), (.bool false), (.slice none 0 0)]) 80 rfl Try.underlying30 info36 rfl (by decide) (by omega) (.slice Ao104 y156.length co104) y156 (⟨t160, t161, t162, t163, t164, t165, t166, t167, t168⟩ : S36) [.int .i64 t160, .int .i64 t161, .int .i64 t162, .int .i64 t163, .int .i64 t164, .int .i64 t165, .bool t166, .bool t167, .slice Ao110 t168.length co110] (fun k_ => k_ ≠ gb135) (fun k_ => some k_ = (.slice Ao110 t168.length co110 : Value).ownBlock) rfl rfl ?aP (fun k_ hk_ => ((Kd.R_mono (ok' := fun k_ => ((fun k_ => k_ ≠ gb135)) k_ ∧ some k_ ≠ (.slice Ao104 y156.length co104 : Value).ownBlock) (Kd.R_types (Kd.R_apart' (HO170.out) (Kd.S_typed HO158.out) (by decide)) BK135.out (by decide)) (fun k_ hk => ⟨hk.2, hk.1.2⟩))).1 k_ hk_.symm) ?aF ?aO ?aB ?aS ?aL ?_
                 (case aP => exact k36_mkM _ _ _ (⟨t160, t161, t162, t163, t164, t165, t166, t167, t168⟩ : S36) (Kd.R_mono (Kd.R_tight rfl (Kd.R_mono (ok' := fun k_ => ((fun k_ => k_ ≠ gb135)) k_ ∧ some k_ ≠ (.slice Ao104 y156.length co104 : Value).ownBlock) (Kd.R_types (Kd.R_apart' (HO170.out) (Kd.S_typed HO158.out) (by decide)) BK135.out (by decide)) (fun k_ hk => ⟨hk.2, hk.1.2⟩))) (fun _ h_ => h_)))
                 (case aB => exact (hbA_ HB.out))
                 (case aF => exact (fun k_ hk => fb_ BK135 k_ hk))
                 (case aO => exact (by refine kS_ ?_; exact Kd.S_mono HO158.out (fun k_ hk => ⟨hk.1, fun e_ => hk.2 e_⟩)))
                 (case aS => exact (below_size (hbA_ HB.out)))
                 (case aL => have := LMc99.out; omega)
                 intro v172 w109 ho hb hg hat
                 rw [← Ny171.out] at ho
                 have n0_ := (bgA_ BK134 hg (Kd.S_ne HO158.out BK134.out (by decide))); have n1_ := (bgA_ BK135 hg (Kd.S_away HO158.out (fun _ hk => hk.1))); have n2_ := (bgA_ BK136 hg (Kd.S_ne HO158.out BK136.out (by decide))); have n3_ := (bgA_ BK141 hg (Kd.S_ne HO158.out BK141.out (by decide))); have n4_ := Aside0.mk (hb); have n5_ := Aside0.mk (ho); clear BK134 BK135 BK136 BK141 HB HO158 HO170; have BK134 := n0_; have BK135 := n1_; have BK136 := n2_; have BK141 := n3_; have HB := n4_; have HO173 := n5_; clear n0_ n1_ n2_ n3_ n4_ n5_ ho hb hg hat
                 obtain ⟨Ao111, co111, eo111⟩ := Kd.S_slice HO173.out
                 (first | subst eo111 | (injection eo111 with f1_ f2_ f3_; have f4_ := f1_.symm; have f5_ := f3_.symm; clear f1_ f2_ f3_; subst f4_; subst f5_))
                 refine hK.out _ _ ⟨bc_ BK141 0, bc_ BK141 1, bc_ BK134 0, bc_ BK134 1, (by first | exact cc_ HB hw159_0 | exact cc_ ⟨hbA_ HB.out⟩ hw159_0), (by first | exact cc_ HB hw159_1 | exact cc_ ⟨hbA_ HB.out⟩ hw159_1), (by first | exact cc_ HB hw159_2 | exact cc_ ⟨hbA_ HB.out⟩ hw159_2), (by first | exact cc_ HB hw159_3 | exact cc_ ⟨hbA_ HB.out⟩ hw159_3), (by first | exact cc_ HB hw159_4 | exact cc_ ⟨hbA_ HB.out⟩ hw159_4), (by first | exact cc_ HB hw159_5 | exact cc_ ⟨hbA_ HB.out⟩ hw159_5), (by first | exact cc_ HB hw159_6 | exact cc_ ⟨hbA_ HB.out⟩ hw159_6), (by first | exact cc_ HB hw159_7 | exact cc_ ⟨hbA_ HB.out⟩ hw159_7), (by first | exact cc_ HB hw159_8 | exact cc_ ⟨hbA_ HB.out⟩ hw159_8)⟩ (fun hHeld => ?_)
                 clear hK K; refine nm_ 101 ?_; refine pu_ (i := 10) (N := some 102) HT_ ?_
                 refine last_ (i := 11) (N := none) #[true, true, true, true, true, true, true, true, true, true, true, true] rfl rfl (one_of HT_.out (by kernel_rfl)) (by decide) (fun K hK => ?_)
                 have hs112 : w109.cell? ⟨gb141, 0, none⟩ = some (.slice Ao104 y156.length co104) := bc_ BK141 0
                 have hfs112 := blk_frozen BK141.out 0
                 have hns112_0 := NB134_141.out; have hns112_1 := NB135_141.out; have hns112_2 := NB136_141.out; have hms112_0 := NB141_134.out; have hms112_1 := NB141_135.out; have hms112_2 := NB141_136.out
                 refine skip_ (w1 := ?_) (by rfl) rfl ?_ ?_
                 rotate_left
                 ·go_simp
                  rfl
                 refine hK.out _ _ ?_
                 clear hK K
                 refine done_ (done_of HT_.out (by kernel_rfl)) ?_
                 try go_wp2
                 go_roundg kj83
                 case measure => have := HJ2.out; have := HK2.out; have := HK3.out; have := HJ83.out; omega
                 case rel => exact ⟨(true), (wrap64 (x10_3 + 1)), (y171), (.slice Ao111 y171.length co111), (by first | rfl | (simp; done) | (simp [*]; done)), (by first | rfl | (simp; done) | (simp [*]; done)), H', ⟨by have := HJ2.out; have := HK2.out; have := HK3.out; have := HJ83.out; omega⟩, ⟨by refine kS_ ?_; exact Kd.S_mono (Kd.S_far (p := ⟨gb141, 0, none⟩) (Kd.S_types HO173.out BK141.out (by decide)) (fun _ hk => hk.2) (.slice Ao111 y171.length co111)) (fun _ hk => hk.1)⟩, ⟨by exact kf_ BK134.out⟩, ⟨by exact kf_ BK135.out⟩, ⟨by exact kf_ BK136.out⟩, ⟨by refine kb_ ?_; refine blk_put (cs := #[.slice Ao104 y156.length co104, .int .i64 a0_1]) ?_ 0 _ rfl; refine kb_ ?_; exact BK141.out⟩, ⟨hbA_ HB.out⟩⟩
                ·rw [if_neg c99] at H
                 exact absurd H (by simp)
               ·rw [if_neg c97] at H
                exact absurd H (by simp)
              ·rw [if_neg c96] at H
               exact absurd H (by simp)
             ·rw [if_neg c95] at H
              exact absurd H (by simp)
            ·replace c93 := Bool.eq_false_iff.mpr c93
             subst c93
             rw [if_neg (show ¬ (false = true) by decide)] at H
             by_cases c113 : 0 ≤ x10_3
             ·rw [if_pos c113] at H
              have c113b0 : decide (0 ≤ x10_3) = true := decide_eq_true c113
              clear c113
              by_cases c114 : x10_3 < (l0_0.length : Int)
              ·rw [if_pos c114] at H
               have c114b0 : decide (x10_3 < (l0_0.length : Int)) = true := decide_eq_true c114
               clear c114
               replace H := Option.bind_eq_some_iff.mp H
               obtain ⟨⟨t175, t176, t177, t178, t179, t180, t181, t182, t183⟩, A1150, H⟩ := H
               (try dsimp only at H)
               have A115 := Aside0.mk A1150; clear A1150
               by_cases c116 : x142000_3.length < 1759218604441
               ·rw [if_pos c116] at H
                have LMc116 := Aside0.mk c116; clear c116
                obtain ⟨y186, hy186⟩ : ∃ y_ : List (S36), y_ = (x142000_3 ++ [(⟨t175, t176, t177, t178, t179, t180, t181, t182, t183⟩ : S36)]) := ⟨_, rfl⟩
                (first | replace H := sb_ hy186 H | rw [← hy186] at H)
                have Ny186 := Aside0.mk hy186; clear hy186
                have H' := Aside0.mk H
                clear H
                try go_wp2
                replace HO_142000 := Aside0.mk (Kd.S_drew HO_142000.out); replace BK134 := Aside0.mk (blk_drew BK134.out); replace BK135 := Aside0.mk (blk_drew BK135.out); replace BK136 := Aside0.mk (blk_drew BK136.out); replace BK141 := Aside0.mk (blk_drew BK141.out); replace HB := (bd_ HB)
                have p174 : 0 ≤ (x10_3 : Int) := of_decide_eq_true (by first | (with_reducible assumption) | assumption)
                have q174 : x10_3 < (l0_0.length : Int) := of_decide_eq_true (by first | (with_reducible assumption) | assumption)
                obtain ⟨ad174, A174_8, c174_8, e174, hx174_0, hx174_1, hx174_2, hx174_3, hx174_4, hx174_5, hx174_6, hx174_7, hx174_8, hl174_8, hi174_8⟩ := at_T36 HR0_0.out x10_3 p174 q174
                have hw174_8 := hx174_8; have hw174_7 := hx174_7; have hw174_6 := hx174_6; have hw174_5 := hx174_5; have hw174_4 := hx174_4; have hw174_3 := hx174_3; have hw174_2 := hx174_2; have hw174_1 := hx174_1; have hw174_0 := hx174_0
                cases e174
                replace hx174_0 := cc_ HB hx174_0
                replace hx174_1 := cc_ HB hx174_1
                replace hx174_2 := cc_ HB hx174_2
                replace hx174_3 := cc_ HB hx174_3
                replace hx174_4 := cc_ HB hx174_4
                replace hx174_5 := cc_ HB hx174_5
                replace hx174_6 := cc_ HB hx174_6
                replace hx174_7 := cc_ HB hx174_7
                replace hx174_8 := cc_ HB hx174_8
                have HR174_8 := Aside0.mk hi174_8; have HC174_8 := Aside0.mk hl174_8; clear hi174_8 hl174_8
                replace p174 := eq_true p174
                replace q174 := eq_true q174
                refine start_ (n := 12) (S := fun w' => w'.cell? ⟨gb141, 0, none⟩ = some (u142000) ∧ w'.cell? ⟨gb141, 1, none⟩ = some (.int .i64 a0_1) ∧ w'.cell? ⟨gb134, 0, none⟩ = some (.slice (some ad174) l0_0.length c0_0) ∧ w'.cell? ⟨gb134, 1, none⟩ = some (.int .i64 a0_1) ∧ w'.cell? (ad174.add ((x10_3).toNat * 9)) = some (.int .i64 ((rd_T36 l0_0 x10_3).f0)) ∧ w'.cell? ⟨(ad174.add ((x10_3).toNat * 9)).block, (ad174.add ((x10_3).toNat * 9)).off + 1, none⟩ = some (.int .i64 ((rd_T36 l0_0 x10_3).f1)) ∧ w'.cell? ⟨(ad174.add ((x10_3).toNat * 9)).block, (ad174.add ((x10_3).toNat * 9)).off + 2, none⟩ = some (.int .i64 ((rd_T36 l0_0 x10_3).f2)) ∧ w'.cell? ⟨(ad174.add ((x10_3).toNat * 9)).block, (ad174.add ((x10_3).toNat * 9)).off + 3, none⟩ = some (.int .i64 ((rd_T36 l0_0 x10_3).f3)) ∧ w'.cell? ⟨(ad174.add ((x10_3).toNat * 9)).block, (ad174.add ((x10_3).toNat * 9)).off + 4, none⟩ = some (.int .i64 ((rd_T36 l0_0 x10_3).f4)) ∧ w'.cell? ⟨(ad174.add ((x10_3).toNat * 9)).block, (ad174.add ((x10_3).toNat * 9)).off + 5, none⟩ = some (.int .i64 ((rd_T36 l0_0 x10_3).f5)) ∧ w'.cell? ⟨(ad174.add ((x10_3).toNat * 9)).block, (ad174.add ((x10_3).toNat * 9)).off + 6, none⟩ = some (.bool ((rd_T36 l0_0 x10_3).f6)) ∧ w'.cell? ⟨(ad174.add ((x10_3).toNat * 9)).block, (ad174.add ((x10_3).toNat * 9)).off + 7, none⟩ = some (.bool ((rd_T36 l0_0 x10_3).f7)) ∧ w'.cell? ⟨(ad174.add ((x10_3).toNat * 9)).block, (ad174.add ((x10_3).toNat * 9)).off + 8, none⟩ = some (.slice A174_8 ((rd_T36 l0_0 x10_3).f8).length c174_8)) (ds := [11]) #[false, false, false, false, false, false, false, false, false, false, false, false] (by kernel_rfl) rfl rfl ⟨bc_ BK141 0, bc_ BK141 1, bc_ BK134 0, bc_ BK134 1, (cc_ HB hw174_0), (cc_ HB hw174_1), (cc_ HB hw174_2), (cc_ HB hw174_3), (cc_ HB hw174_4), (cc_ HB hw174_5), (cc_ HB hw174_6), (cc_ HB hw174_7), (cc_ HB hw174_8)⟩ (fun hHeld => ?_); refine with_tabW spec_PartPut.tab17 spec_PartPut.bits17 (fun HT_ HW_ => ?_)
                generalize wc.drew = w117 at HO_142000 BK134 BK135 BK136 BK141 HB HR174_8 hx174_0 hx174_1 hx174_2 hx174_3 hx174_4 hx174_5 hx174_6 hx174_7 hx174_8 hHeld ⊢
                refine pu_ (i := 0) (N := some 92) HT_ ?_; refine pu_ (i := 2) (N := some 94) HT_ ?_; refine pu_ (i := 4) (N := some 96) HT_ ?_; refine tk_ (i := 1) (N := some 93) HT_ HW_ hHeld ?_; refine tk_ (i := 3) (N := some 95) HT_ HW_ hHeld ?_; refine pu_ (i := 5) (N := some 97) HT_ ?_; refine tk_ (i := 6) (N := some 98) HT_ HW_ hHeld ?_
                refine on_ (i := 7) (N := some 99) HT_ (fun K hK => ?_)
                refine goes_ Try.func48 (by kernel_rfl) rfl #[.agg #[.int .i64 ((rd_T36 l0_0 x10_3).f0), .int .i64 ((rd_T36 l0_0 x10_3).f1), .int .i64 ((rd_T36 l0_0 x10_3).f2), .int .i64 ((rd_T36 l0_0 x10_3).f3), .int .i64 ((rd_T36 l0_0 x10_3).f4), .int .i64 ((rd_T36 l0_0 x10_3).f5), .bool ((rd_T36 l0_0 x10_3).f6), .bool ((rd_T36 l0_0 x10_3).f7), .slice A174_8 ((rd_T36 l0_0 x10_3).f8).length c174_8]] (by rfl) rfl rfl ar_ ?_
                with_reducible refine (spec_l5Copy.calls ((rd_T36 l0_0 x10_3).f0) ((rd_T36 l0_0 x10_3).f1) ((rd_T36 l0_0 x10_3).f2) ((rd_T36 l0_0 x10_3).f3) ((rd_T36 l0_0 x10_3).f4) ((rd_T36 l0_0 x10_3).f5) ((rd_T36 l0_0 x10_3).f6) ((rd_T36 l0_0 x10_3).f7) _ _ ((rd_T36 l0_0 x10_3).f8) t175 t176 t177 t178 t179 t180 t181 t182 t183 _ ?side1 ?side2 A115.out).mono ?_
                (case side1 => exact kC_ (Kd.C_below HR174_8.out HB.out))
                (case side2 => exact HC174_8.out)
                rintro e w118 ⟨v184, rfl, ho0, hb⟩
                refine ⟨_, rfl, ?_⟩
                replace HO_142000 := Aside0.mk (Kd.S_elder' (kS_ HO_142000.out) (Kd.R_base ho0) hb); have HO185 := Aside0.mk (Kd.R_lower ho0 (below_size (hbA_ HB.out))); replace BK134 := (bbA_ BK134 hb); replace BK135 := (bbA_ BK135 hb); replace BK136 := (bbA_ BK136 hb); replace BK141 := (bbA_ BK141 hb); replace HB := (bs_ HB hb); (try clear hb); (try clear hb2); (try clear hk); (try clear hi); (try clear ho0)
                obtain ⟨Ao120, co120, eo120⟩ := Kd.R_slice HO185.out
                (first | subst eo120 | (injection eo120 with f1_ f2_ f3_; have f4_ := f1_.symm; have f5_ := f3_.symm; clear f1_ f2_ f3_; subst f4_; subst f5_))
                refine hK.out _ _ ⟨bc_ BK141 0, bc_ BK141 1, bc_ BK134 0, bc_ BK134 1, (by first | exact cc_ HB hw174_0 | exact cc_ ⟨hbA_ HB.out⟩ hw174_0), (by first | exact cc_ HB hw174_1 | exact cc_ ⟨hbA_ HB.out⟩ hw174_1), (by first | exact cc_ HB hw174_2 | exact cc_ ⟨hbA_ HB.out⟩ hw174_2), (by first | exact cc_ HB hw174_3 | exact cc_ ⟨hbA_ HB.out⟩ hw174_3), (by first | exact cc_ HB hw174_4 | exact cc_ ⟨hbA_ HB.out⟩ hw174_4), (by first | exact cc_ HB hw174_5 | exact cc_ ⟨hbA_ HB.out⟩ hw174_5), (by first | exact cc_ HB hw174_6 | exact cc_ ⟨hbA_ HB.out⟩ hw174_6), (by first | exact cc_ HB hw174_7 | exact cc_ ⟨hbA_ HB.out⟩ hw174_7), (by first | exact cc_ HB hw174_8 | exact cc_ ⟨hbA_ HB.out⟩ hw174_8)⟩ (fun hHeld => ?_)
                clear hK K; refine nm_ 99 ?_
                refine on_ (i := 8) (N := some 100) HT_ (fun K hK => ?_)
                refine value_ (w1 := ?_) (v := ?_) (by rfl) rfl ?_ ?_
                rotate_left 2
                ·go_simp
                 constructor
                 ·rfl
                 ·rfl
                refine hK.out _ _ ⟨(blk_cell (blk_alloc BK141.out _) 0).trans rfl, (blk_cell (blk_alloc BK141.out _) 1).trans rfl, (blk_cell (blk_alloc BK134.out _) 0).trans rfl, (blk_cell (blk_alloc BK134.out _) 1).trans rfl, (World.cell?_alloc_lt _ _ _ (World.block_lt_of_cell? _ _ ((by first | exact cc_ HB hw174_0 | exact cc_ ⟨hbA_ HB.out⟩ hw174_0)))).trans ((by first | exact cc_ HB hw174_0 | exact cc_ ⟨hbA_ HB.out⟩ hw174_0)), (World.cell?_alloc_lt _ _ _ (World.block_lt_of_cell? _ _ ((by first | exact cc_ HB hw174_1 | exact cc_ ⟨hbA_ HB.out⟩ hw174_1)))).trans ((by first | exact cc_ HB hw174_1 | exact cc_ ⟨hbA_ HB.out⟩ hw174_1)), (World.cell?_alloc_lt _ _ _ (World.block_lt_of_cell? _ _ ((by first | exact cc_ HB hw174_2 | exact cc_ ⟨hbA_ HB.out⟩ hw174_2)))).trans ((by first | exact cc_ HB hw174_2 | exact cc_ ⟨hbA_ HB.out⟩ hw174_2)), (World.cell?_alloc_lt _ _ _ (World.block_lt_of_cell? _ _ ((by first | exact cc_ HB hw174_3 | exact cc_ ⟨hbA_ HB.out⟩ hw174_3)))).trans ((by first | exact cc_ HB hw174_3 | exact cc_ ⟨hbA_ HB.out⟩ hw174_3)), (World.cell?_alloc_lt _ _ _ (World.block_lt_of_cell? _ _ ((by first | exact cc_ HB hw174_4 | exact cc_ ⟨hbA_ HB.out⟩ hw174_4)))).trans ((by first | exact cc_ HB hw174_4 | exact cc_ ⟨hbA_ HB.out⟩ hw174_4)), (World.cell?_alloc_lt _ _ _ (World.block_lt_of_cell? _ _ ((by first | exact cc_ HB hw174_5 | exact cc_ ⟨hbA_ HB.out⟩ hw174_5)))).trans ((by first | exact cc_ HB hw174_5 | exact cc_ ⟨hbA_ HB.out⟩ hw174_5)), (World.cell?_alloc_lt _ _ _ (World.block_lt_of_cell? _ _ ((by first | exact cc_ HB hw174_6 | exact cc_ ⟨hbA_ HB.out⟩ hw174_6)))).trans ((by first | exact cc_ HB hw174_6 | exact cc_ ⟨hbA_ HB.out⟩ hw174_6)), (World.cell?_alloc_lt _ _ _ (World.block_lt_of_cell? _ _ ((by first | exact cc_ HB hw174_7 | exact cc_ ⟨hbA_ HB.out⟩ hw174_7)))).trans ((by first | exact cc_ HB hw174_7 | exact cc_ ⟨hbA_ HB.out⟩ hw174_7)), (World.cell?_alloc_lt _ _ _ (World.block_lt_of_cell? _ _ ((by first | exact cc_ HB hw174_8 | exact cc_ ⟨hbA_ HB.out⟩ hw174_8)))).trans ((by first | exact cc_ HB hw174_8 | exact cc_ ⟨hbA_ HB.out⟩ hw174_8))⟩ (fun hHeld => ?_)
                clear hK K; refine nm_ 100 ?_
                refine on_ (i := 9) (N := some 101) HT_ (fun K hK => ?_)
                refine Kd.S_append_step k36 (w0 := w) w.heap.size (by rfl) (.tmp 93) (.tmp 100) 30 36 (.agg #[(.int .i64 0), (.int .i64 0), (.int .i64 0), (.int .i64 0), (.int .i64 0), (.int .i64 0), (.bool false), (.bool false), (.slice none 0 0)]) 80 rfl Try.underlying30 info36 rfl (by decide) (by omega) u142000 x142000_3 (⟨t175, t176, t177, t178, t179, t180, t181, t182, t183⟩ : S36) [.int .i64 t175, .int .i64 t176, .int .i64 t177, .int .i64 t178, .int .i64 t179, .int .i64 t180, .bool t181, .bool t182, .slice Ao120 t183.length co120] (fun k_ => k_ ≠ gb135) (fun k_ => some k_ = (.slice Ao120 t183.length co120 : Value).ownBlock) rfl rfl ?aP (fun k_ hk_ => ((Kd.R_mono (ok' := fun k_ => ((fun k_ => k_ ≠ gb135)) k_ ∧ some k_ ≠ (u142000 : Value).ownBlock) (Kd.R_types (Kd.R_apart' (HO185.out) (Kd.S_typed HO_142000.out) (by decide)) BK135.out (by decide)) (fun k_ hk => ⟨hk.2, hk.1.2⟩))).1 k_ hk_.symm) ?aF ?aO ?aB ?aS ?aL ?_
                (case aP => exact k36_mkM _ _ _ (⟨t175, t176, t177, t178, t179, t180, t181, t182, t183⟩ : S36) (Kd.R_mono (Kd.R_tight rfl (Kd.R_mono (ok' := fun k_ => ((fun k_ => k_ ≠ gb135)) k_ ∧ some k_ ≠ (u142000 : Value).ownBlock) (Kd.R_types (Kd.R_apart' (HO185.out) (Kd.S_typed HO_142000.out) (by decide)) BK135.out (by decide)) (fun k_ hk => ⟨hk.2, hk.1.2⟩))) (fun _ h_ => h_)))
                (case aB => exact (hbA_ HB.out))
                (case aF => exact (fun k_ hk => fb_ BK135 k_ hk))
                (case aO => exact (by refine kS_ ?_; exact Kd.S_mono HO_142000.out (fun k_ hk => ⟨hk.1, fun e_ => hk.2 e_⟩)))
                (case aS => exact (below_size (hbA_ HB.out)))
                (case aL => have := LMc116.out; omega)
                intro v187 w119 ho hb hg hat
                rw [← Ny186.out] at ho
                have n0_ := (bgA_ BK134 hg (Kd.S_ne HO_142000.out BK134.out (by decide))); have n1_ := (bgA_ BK135 hg (Kd.S_away HO_142000.out (fun _ hk => hk.1))); have n2_ := (bgA_ BK136 hg (Kd.S_ne HO_142000.out BK136.out (by decide))); have n3_ := (bgA_ BK141 hg (Kd.S_ne HO_142000.out BK141.out (by decide))); have n4_ := Aside0.mk (hb); have n5_ := Aside0.mk (ho); clear BK134 BK135 BK136 BK141 HB HO_142000 HO185; have BK134 := n0_; have BK135 := n1_; have BK136 := n2_; have BK141 := n3_; have HB := n4_; have HO188 := n5_; clear n0_ n1_ n2_ n3_ n4_ n5_ ho hb hg hat
                obtain ⟨Ao121, co121, eo121⟩ := Kd.S_slice HO188.out
                (first | subst eo121 | (injection eo121 with f1_ f2_ f3_; have f4_ := f1_.symm; have f5_ := f3_.symm; clear f1_ f2_ f3_; subst f4_; subst f5_))
                refine hK.out _ _ ⟨bc_ BK141 0, bc_ BK141 1, bc_ BK134 0, bc_ BK134 1, (by first | exact cc_ HB hw174_0 | exact cc_ ⟨hbA_ HB.out⟩ hw174_0), (by first | exact cc_ HB hw174_1 | exact cc_ ⟨hbA_ HB.out⟩ hw174_1), (by first | exact cc_ HB hw174_2 | exact cc_ ⟨hbA_ HB.out⟩ hw174_2), (by first | exact cc_ HB hw174_3 | exact cc_ ⟨hbA_ HB.out⟩ hw174_3), (by first | exact cc_ HB hw174_4 | exact cc_ ⟨hbA_ HB.out⟩ hw174_4), (by first | exact cc_ HB hw174_5 | exact cc_ ⟨hbA_ HB.out⟩ hw174_5), (by first | exact cc_ HB hw174_6 | exact cc_ ⟨hbA_ HB.out⟩ hw174_6), (by first | exact cc_ HB hw174_7 | exact cc_ ⟨hbA_ HB.out⟩ hw174_7), (by first | exact cc_ HB hw174_8 | exact cc_ ⟨hbA_ HB.out⟩ hw174_8)⟩ (fun hHeld => ?_)
                clear hK K; refine nm_ 101 ?_; refine pu_ (i := 10) (N := some 102) HT_ ?_
                refine last_ (i := 11) (N := none) #[true, true, true, true, true, true, true, true, true, true, true, true] rfl rfl (one_of HT_.out (by kernel_rfl)) (by decide) (fun K hK => ?_)
                have hs122 : w119.cell? ⟨gb141, 0, none⟩ = some (u142000) := bc_ BK141 0
                have hfs122 := blk_frozen BK141.out 0
                have hns122_0 := NB134_141.out; have hns122_1 := NB135_141.out; have hns122_2 := NB136_141.out; have hms122_0 := NB141_134.out; have hms122_1 := NB141_135.out; have hms122_2 := NB141_136.out
                refine skip_ (w1 := ?_) (by rfl) rfl ?_ ?_
                rotate_left
                ·go_simp
                 rfl
                refine hK.out _ _ ?_
                clear hK K
                refine done_ (done_of HT_.out (by kernel_rfl)) ?_
                try go_wp2
                go_roundg kj83
                case measure => have := HJ2.out; have := HK2.out; have := HK3.out; have := HJ83.out; omega
                case rel => exact ⟨(x7_3), (wrap64 (x10_3 + 1)), (y186), (.slice Ao121 y186.length co121), (by first | rfl | (simp; done) | (simp [*]; done)), (by first | rfl | (simp; done) | (simp [*]; done)), H', ⟨by have := HJ2.out; have := HK2.out; have := HK3.out; have := HJ83.out; omega⟩, ⟨by refine kS_ ?_; exact Kd.S_mono (Kd.S_far (p := ⟨gb141, 0, none⟩) (Kd.S_types HO188.out BK141.out (by decide)) (fun _ hk => hk.2) (.slice Ao121 y186.length co121)) (fun _ hk => hk.1)⟩, ⟨by exact kf_ BK134.out⟩, ⟨by exact kf_ BK135.out⟩, ⟨by exact kf_ BK136.out⟩, ⟨by refine kb_ ?_; refine blk_put (cs := #[u142000, .int .i64 a0_1]) ?_ 0 _ rfl; refine kb_ ?_; exact BK141.out⟩, ⟨hbA_ HB.out⟩⟩
               ·rw [if_neg c116] at H
                exact absurd H (by simp)
              ·rw [if_neg c114] at H
               exact absurd H (by simp)
             ·rw [if_neg c113] at H
              exact absurd H (by simp)
         ·rw [if_neg c83] at H
          have c83b0 : decide (x10_3 < (l0_0.length : Int)) = false := decide_eq_false c83
          clear c83; have HC123 := Aside0.mk H; clear H; have hnb124 := NB134_135.out; have hnc124 := NB135_134.out; have hnb125 := NB134_136.out; have hnc125 := NB136_134.out; have hnb126 := NB134_141.out; have hnc126 := NB141_134.out; have Z127 := zz2 BK134
          go_upto_if 104 with (fail)
          go_cut [] (fun wc => ∃ (kq : Nat) (x142000_122 : List (S36)) (u142000 : Value), Aside0 (spec_PartPut.j5 kq x142000_122 a0_1 = some (r1, r2, r3)) ∧ Aside0 (kq ≤ k3) ∧ Aside0 (Kd.S k36 36 wc w.heap.size (fun k_ => k_ ≠ gb135) u142000 x142000_122) ∧ Aside0 (wc.heap[gb134]? = some (.cells #[(.slice A0_0 l0_0.length c0_0), .int .i64 a0_1] 32 (0, 0))) ∧ Aside0 (wc.heap[gb135]? = some (.cells #[.int .i64 a1_0, .int .i64 a1_1, .int .i64 a1_2, .int .i64 a1_3, .int .i64 a1_4, .int .i64 a1_5, .bool a1_6, .bool a1_7, (.slice A1_8 l1_8.length c1_8)] 36 (0, 0))) ∧ Aside0 (wc.heap[gb136]? = some (.cells #[(.slice none 0 0), .int .i64 0] 32 (0, 0))) ∧ Aside0 (wc.heap[gb141]? = some (.cells #[u142000, .int .i64 a0_1] 32 (0, 0))) ∧ Aside0 (Below w.heap.size w wc))
          case first =>
           have H := HC123.out; clear HC123
           by_cases c128 : x7_3 = true
           ·subst c128
            rw [if_pos rfl] at H
            have H' := Aside0.mk H
            clear H
            go_wp2
            go_meet
            case rel => exact ⟨_, (x142000_3), (u142000), H', ⟨by have := HJ2.out; have := HK2.out; have := HK3.out; first | omega | exact Nat.le_refl _⟩, ⟨by refine kS_ ?_; exact HO_142000.out⟩, ⟨by refine kb_ ?_; exact BK134.out⟩, ⟨by refine kb_ ?_; exact BK135.out⟩, ⟨by refine kb_ ?_; exact BK136.out⟩, ⟨by refine kb_ ?_; exact BK141.out⟩, ⟨hbA_ HB.out⟩⟩
           ·replace c128 := Bool.eq_false_iff.mpr c128
            subst c128
            rw [if_neg (show ¬ (false = true) by decide)] at H
            replace H := Option.bind_eq_some_iff.mp H
            obtain ⟨⟨t189, t190, t191, t192, t193, t194, t195, t196, t197⟩, A1290, H⟩ := H
            (try dsimp only at H)
            have A129 := Aside0.mk A1290; clear A1290
            by_cases c130 : x142000_3.length < 1759218604441
            ·rw [if_pos c130] at H
             have LMc130 := Aside0.mk c130; clear c130
             obtain ⟨y200, hy200⟩ : ∃ y_ : List (S36), y_ = (x142000_3 ++ [(⟨t189, t190, t191, t192, t193, t194, t195, t196, t197⟩ : S36)]) := ⟨_, rfl⟩
             (first | replace H := sb_ hy200 H | rw [← hy200] at H)
             have Ny200 := Aside0.mk hy200; clear hy200
             have H' := Aside0.mk H
             clear H
             try go_wp2
             replace HO_142000 := Aside0.mk (Kd.S_drew HO_142000.out); replace BK134 := Aside0.mk (blk_drew BK134.out); replace BK135 := Aside0.mk (blk_drew BK135.out); replace BK136 := Aside0.mk (blk_drew BK136.out); replace BK141 := Aside0.mk (blk_drew BK141.out); replace HB := (bd_ HB)
             refine start_ (n := 8) (S := fun w' => w'.cell? ⟨gb141, 0, none⟩ = some (u142000) ∧ w'.cell? ⟨gb141, 1, none⟩ = some (.int .i64 a0_1) ∧ w'.cell? ⟨gb135, 0, none⟩ = some (.int .i64 a1_0) ∧ w'.cell? ⟨gb135, 1, none⟩ = some (.int .i64 a1_1) ∧ w'.cell? ⟨gb135, 2, none⟩ = some (.int .i64 a1_2) ∧ w'.cell? ⟨gb135, 3, none⟩ = some (.int .i64 a1_3) ∧ w'.cell? ⟨gb135, 4, none⟩ = some (.int .i64 a1_4) ∧ w'.cell? ⟨gb135, 5, none⟩ = some (.int .i64 a1_5) ∧ w'.cell? ⟨gb135, 6, none⟩ = some (.bool a1_6) ∧ w'.cell? ⟨gb135, 7, none⟩ = some (.bool a1_7) ∧ w'.cell? ⟨gb135, 8, none⟩ = some (.slice A1_8 l1_8.length c1_8)) (ds := [7]) #[false, false, false, false, false, false, false, false] (by kernel_rfl) rfl rfl ⟨bc_ BK141 0, bc_ BK141 1, bc_ BK135 0, bc_ BK135 1, bc_ BK135 2, bc_ BK135 3, bc_ BK135 4, bc_ BK135 5, bc_ BK135 6, bc_ BK135 7, bc_ BK135 8⟩ (fun hHeld => ?_); refine with_tabW spec_PartPut.tab19 spec_PartPut.bits19 (fun HT_ HW_ => ?_)
             generalize wr.drew = w131 at HO_142000 BK134 BK135 BK136 BK141 HB hHeld ⊢
             refine pu_ (i := 0) (N := some 105) HT_ ?_; refine tk_ (i := 1) (N := some 106) HT_ HW_ hHeld ?_; refine tk_ (i := 2) (N := some 107) HT_ HW_ hHeld ?_
             refine on_ (i := 3) (N := some 108) HT_ (fun K hK => ?_)
             refine goes_ Try.func48 (by kernel_rfl) rfl #[.agg #[.int .i64 a1_0, .int .i64 a1_1, .int .i64 a1_2, .int .i64 a1_3, .int .i64 a1_4, .int .i64 a1_5, .bool a1_6, .bool a1_7, .slice A1_8 l1_8.length c1_8]] (by rfl) rfl rfl ar_ ?_
             with_reducible refine (spec_l5Copy.calls a1_0 a1_1 a1_2 a1_3 a1_4 a1_5 a1_6 a1_7 _ _ l1_8 t189 t190 t191 t192 t193 t194 t195 t196 t197 _ ?side1 ?side2 A129.out).mono ?_
             (case side1 => exact kC_ (Kd.C_below HR1_8.out HB.out))
             (case side2 => exact HC1_8.out)
             rintro e w132 ⟨v198, rfl, ho0, hb⟩
             refine ⟨_, rfl, ?_⟩
             replace HO_142000 := Aside0.mk (Kd.S_elder' (kS_ HO_142000.out) (Kd.R_base ho0) hb); have HO199 := Aside0.mk (Kd.R_lower ho0 (below_size (hbA_ HB.out))); replace BK134 := (bbA_ BK134 hb); replace BK135 := (bbA_ BK135 hb); replace BK136 := (bbA_ BK136 hb); replace BK141 := (bbA_ BK141 hb); replace HB := (bs_ HB hb); (try clear hb); (try clear hb2); (try clear hk); (try clear hi); (try clear ho0)
             obtain ⟨Ao134, co134, eo134⟩ := Kd.R_slice HO199.out
             (first | subst eo134 | (injection eo134 with f1_ f2_ f3_; have f4_ := f1_.symm; have f5_ := f3_.symm; clear f1_ f2_ f3_; subst f4_; subst f5_))
             refine hK.out _ _ ⟨bc_ BK141 0, bc_ BK141 1, bc_ BK135 0, bc_ BK135 1, bc_ BK135 2, bc_ BK135 3, bc_ BK135 4, bc_ BK135 5, bc_ BK135 6, bc_ BK135 7, bc_ BK135 8⟩ (fun hHeld => ?_)
             clear hK K; refine nm_ 108 ?_
             refine on_ (i := 4) (N := some 109) HT_ (fun K hK => ?_)
             refine value_ (w1 := ?_) (v := ?_) (by rfl) rfl ?_ ?_
             rotate_left 2
             ·go_simp
              constructor
              ·rfl
              ·rfl
             refine hK.out _ _ ⟨(blk_cell (blk_alloc BK141.out _) 0).trans rfl, (blk_cell (blk_alloc BK141.out _) 1).trans rfl, (blk_cell (blk_alloc BK135.out _) 0).trans rfl, (blk_cell (blk_alloc BK135.out _) 1).trans rfl, (blk_cell (blk_alloc BK135.out _) 2).trans rfl, (blk_cell (blk_alloc BK135.out _) 3).trans rfl, (blk_cell (blk_alloc BK135.out _) 4).trans rfl, (blk_cell (blk_alloc BK135.out _) 5).trans rfl, (blk_cell (blk_alloc BK135.out _) 6).trans rfl, (blk_cell (blk_alloc BK135.out _) 7).trans rfl, (blk_cell (blk_alloc BK135.out _) 8).trans rfl⟩ (fun hHeld => ?_)
             clear hK K; refine nm_ 109 ?_
             refine on_ (i := 5) (N := some 110) HT_ (fun K hK => ?_)
             refine Kd.S_append_step k36 (w0 := w) w.heap.size (by rfl) (.tmp 106) (.tmp 109) 30 36 (.agg #[(.int .i64 0), (.int .i64 0), (.int .i64 0), (.int .i64 0), (.int .i64 0), (.int .i64 0), (.bool false), (.bool false), (.slice none 0 0)]) 80 rfl Try.underlying30 info36 rfl (by decide) (by omega) u142000 x142000_3 (⟨t189, t190, t191, t192, t193, t194, t195, t196, t197⟩ : S36) [.int .i64 t189, .int .i64 t190, .int .i64 t191, .int .i64 t192, .int .i64 t193, .int .i64 t194, .bool t195, .bool t196, .slice Ao134 t197.length co134] (fun k_ => k_ ≠ gb135) (fun k_ => some k_ = (.slice Ao134 t197.length co134 : Value).ownBlock) rfl rfl ?aP (fun k_ hk_ => ((Kd.R_mono (ok' := fun k_ => ((fun k_ => k_ ≠ gb135)) k_ ∧ some k_ ≠ (u142000 : Value).ownBlock) (Kd.R_types (Kd.R_apart' (HO199.out) (Kd.S_typed HO_142000.out) (by decide)) BK135.out (by decide)) (fun k_ hk => ⟨hk.2, hk.1.2⟩))).1 k_ hk_.symm) ?aF ?aO ?aB ?aS ?aL ?_
             (case aP => exact k36_mkM _ _ _ (⟨t189, t190, t191, t192, t193, t194, t195, t196, t197⟩ : S36) (Kd.R_mono (Kd.R_tight rfl (Kd.R_mono (ok' := fun k_ => ((fun k_ => k_ ≠ gb135)) k_ ∧ some k_ ≠ (u142000 : Value).ownBlock) (Kd.R_types (Kd.R_apart' (HO199.out) (Kd.S_typed HO_142000.out) (by decide)) BK135.out (by decide)) (fun k_ hk => ⟨hk.2, hk.1.2⟩))) (fun _ h_ => h_)))
             (case aB => exact (hbA_ HB.out))
             (case aF => exact (fun k_ hk => fb_ BK135 k_ hk))
             (case aO => exact (by refine kS_ ?_; exact Kd.S_mono HO_142000.out (fun k_ hk => ⟨hk.1, fun e_ => hk.2 e_⟩)))
             (case aS => exact (below_size (hbA_ HB.out)))
             (case aL => have := LMc130.out; omega)
             intro v201 w133 ho hb hg hat
             rw [← Ny200.out] at ho
             have n0_ := (bgA_ BK134 hg (Kd.S_ne HO_142000.out BK134.out (by decide))); have n1_ := (bgA_ BK135 hg (Kd.S_away HO_142000.out (fun _ hk => hk.1))); have n2_ := (bgA_ BK136 hg (Kd.S_ne HO_142000.out BK136.out (by decide))); have n3_ := (bgA_ BK141 hg (Kd.S_ne HO_142000.out BK141.out (by decide))); have n4_ := Aside0.mk (hb); have n5_ := Aside0.mk (ho); clear BK134 BK135 BK136 BK141 HB HO_142000 HO199; have BK134 := n0_; have BK135 := n1_; have BK136 := n2_; have BK141 := n3_; have HB := n4_; have HO202 := n5_; clear n0_ n1_ n2_ n3_ n4_ n5_ ho hb hg hat
             obtain ⟨Ao135, co135, eo135⟩ := Kd.S_slice HO202.out
             (first | subst eo135 | (injection eo135 with f1_ f2_ f3_; have f4_ := f1_.symm; have f5_ := f3_.symm; clear f1_ f2_ f3_; subst f4_; subst f5_))
             refine hK.out _ _ ⟨bc_ BK141 0, bc_ BK141 1, bc_ BK135 0, bc_ BK135 1, bc_ BK135 2, bc_ BK135 3, bc_ BK135 4, bc_ BK135 5, bc_ BK135 6, bc_ BK135 7, bc_ BK135 8⟩ (fun hHeld => ?_)
             clear hK K; refine nm_ 110 ?_; refine pu_ (i := 6) (N := some 111) HT_ ?_
             refine last_ (i := 7) (N := none) #[true, true, true, true, true, true, true, true] rfl rfl (one_of HT_.out (by kernel_rfl)) (by decide) (fun K hK => ?_)
             have hs136 : w133.cell? ⟨gb141, 0, none⟩ = some (u142000) := bc_ BK141 0
             have hfs136 := blk_frozen BK141.out 0
             have hns136_0 := NB134_141.out; have hns136_1 := NB135_141.out; have hns136_2 := NB136_141.out; have hms136_0 := NB141_134.out; have hms136_1 := NB141_135.out; have hms136_2 := NB141_136.out
             refine skip_ (w1 := ?_) (by rfl) rfl ?_ ?_
             rotate_left
             ·go_simp
              rfl
             refine hK.out _ _ ?_
             clear hK K
             refine done_ (done_of HT_.out (by kernel_rfl)) ?_
             try go_wp2
             go_meet
             case rel => exact ⟨_, (y200), (.slice Ao135 y200.length co135), H', ⟨by have := HJ2.out; have := HK2.out; have := HK3.out; first | omega | exact Nat.le_refl _⟩, ⟨by refine kS_ ?_; exact Kd.S_mono (Kd.S_far (p := ⟨gb141, 0, none⟩) (Kd.S_types HO202.out BK141.out (by decide)) (fun _ hk => hk.2) (.slice Ao135 y200.length co135)) (fun _ hk => hk.1)⟩, ⟨by exact kf_ BK134.out⟩, ⟨by exact kf_ BK135.out⟩, ⟨by exact kf_ BK136.out⟩, ⟨by refine kb_ ?_; refine blk_put (cs := #[u142000, .int .i64 a0_1]) ?_ 0 _ rfl; refine kb_ ?_; exact BK141.out⟩, ⟨hbA_ HB.out⟩⟩
            ·rw [if_neg c130] at H
             exact absurd H (by simp)
          case rest =>
           clear HC123; (try clear c1); (try clear p1); (try clear q1); (try clear hx1); (try clear p2); (try clear c4); (try clear p6); (try clear c8); (try clear c9); (try clear c11); (try clear c12); (try clear c13); (try clear c17); (try clear p17); (try clear q17); (try clear hx17); (try clear c48); (try clear p64); (try clear c83); (try clear c83b0); (try clear c93); (try clear c95); (try clear c96); (try clear c97); (try clear c99); (try clear c113); (try clear c113b0); (try clear c114); (try clear c114b0); (try clear c116); (try clear c124); (try clear c125); (try clear c126); (try clear c128); (try clear c130); (try clear Z127); (try clear hx174_0); (try clear hx174_1); (try clear hx174_2); (try clear hx174_3); (try clear hx174_4); (try clear hx174_5); (try clear hx174_6); (try clear hx174_7); (try clear hx174_8); (try clear p174); (try clear q174)
           obtain ⟨kq, x142000_122, u142000, HA, HJ122, HO_142000, BK134, BK135, BK136, BK141, HB⟩ := hcut
           cases kq with
           | zero => exact absurd HA.out (by simp [spec_PartPut.j5])
           | succ kj122 =>
            have H := HA.out; clear HA
            simp only [spec_PartPut.j5] at H
            replace H := Option.bind_eq_some_iff.mp H
            obtain ⟨t203, A1370, H⟩ := H
            (try dsimp only at H)
            have A137 := Aside0.mk A1370; clear A1370
            by_cases c138 : t203 = true
            ·subst c138
             rw [if_pos rfl] at H
             simp only [Option.some.injEq, Prod.mk.injEq] at H
             obtain ⟨rfl, rfl, rfl⟩ := H
             have hnb139 := NB141_134.out; have hnc139 := NB134_141.out; have hnb140 := NB141_135.out; have hnc140 := NB135_141.out; have hnb141 := NB141_136.out; have hnc141 := NB136_141.out; have Z142 := zz2 BK141
             obtain ⟨Ao143, co143, eo143⟩ := Kd.S_slice HO_142000.out
             subst eo143
             go_wp2_with (first | ((with_reducible refine gate_callee (f := 45) rfl ?_); refine goesL_ (some 113) rfl rfl Try.func45 (by kernel_rfl) rfl #[.agg #[.slice Ao143 x142000_122.length co143, .int .i64 a0_1]] rfl ar_ ?_; (with_reducible refine (spec_PartOk.calls kj122 _ _ x142000_122 a0_1 true _ ?side1 ?side2 A137.out).mono ?_); (case side1 => exact kC_ (Kd.S_reads' HO_142000.out).2.2); (case side2 => exact (Kd.S_reads' HO_142000.out).2.1); rintro e w144 ⟨rfl, hb⟩; refine ⟨_, rfl, ?_⟩; replace HO_142000 := Aside0.mk (Kd.S_below (kS_ HO_142000.out) hb); replace BK134 := (bbA_ BK134 hb); replace BK135 := (bbA_ BK135 hb); replace BK136 := (bbA_ BK136 hb); replace BK141 := (bbA_ BK141 hb); replace HB := (bs_ HB hb); (try clear hb); (try clear hb2); (try clear hk); (try clear hi); have Z145 := zz2 BK141; have hnb146 := NB136_134.out; have hnc146 := NB134_136.out; have hnb147 := NB136_135.out; have hnc147 := NB135_136.out; have Z148 := zz2 BK136))
             refine bodyPost_ret (results_ct rfl _ _ gb136 32 #[.slice Ao143 x142000_122.length co143, .int .i64 a0_1] (0, 0) _ rfl (by refine kb_ ?_; refine pz2 (cs := #[.slice none 0 0, .int .i64 0]) ?_; refine kb_ ?_; exact BK136.out) Try.underlying32 rfl (by kernel_rfl)) rfl ?_
             exact ⟨_, by first | rfl | (simp [errW_none, errW_some] <;> rfl) | (simp [*, errW_none, errW_some] <;> rfl), by refine kS_ ?_; exact Kd.S_mono (Kd.S_far (p := ⟨gb136, 1, none⟩) (Kd.S_far (p := ⟨gb136, 0, none⟩) (Kd.S_types HO_142000.out BK136.out (by decide)) (fun _ hk => hk.2) (.slice Ao143 x142000_122.length co143)) (fun _ hk => hk.2) (.int .i64 a0_1)) (fun _ hk => trivial), hbA_ HB.out⟩
            ·replace c138 := Bool.eq_false_iff.mpr c138
             subst c138
             rw [if_neg (show ¬ (false = true) by decide)] at H
             simp only [Option.some.injEq, Prod.mk.injEq] at H
             obtain ⟨rfl, rfl, rfl⟩ := H
             have hnb149 := NB141_134.out; have hnc149 := NB134_141.out; have hnb150 := NB141_135.out; have hnc150 := NB135_141.out; have hnb151 := NB141_136.out; have hnc151 := NB136_141.out; have Z152 := zz2 BK141
             obtain ⟨Ao153, co153, eo153⟩ := Kd.S_slice HO_142000.out
             subst eo153
             go_wp2_with (first | ((with_reducible refine gate_callee (f := 45) rfl ?_); refine goesL_ (some 113) rfl rfl Try.func45 (by kernel_rfl) rfl #[.agg #[.slice Ao153 x142000_122.length co153, .int .i64 a0_1]] rfl ar_ ?_; (with_reducible refine (spec_PartOk.calls kj122 _ _ x142000_122 a0_1 false _ ?side1 ?side2 A137.out).mono ?_); (case side1 => exact kC_ (Kd.S_reads' HO_142000.out).2.2); (case side2 => exact (Kd.S_reads' HO_142000.out).2.1); rintro e w154 ⟨rfl, hb⟩; refine ⟨_, rfl, ?_⟩; replace HO_142000 := Aside0.mk (Kd.S_below (kS_ HO_142000.out) hb); replace BK134 := (bbA_ BK134 hb); replace BK135 := (bbA_ BK135 hb); replace BK136 := (bbA_ BK136 hb); replace BK141 := (bbA_ BK141 hb); replace HB := (bs_ HB hb); (try clear hb); (try clear hb2); (try clear hk); (try clear hi); have hnb155 := NB136_134.out; have hnc155 := NB134_136.out; have hnb156 := NB136_135.out; have hnc156 := NB135_136.out; have Z157 := zz2 BK136))
             refine bodyPost_ret (results_ct rfl _ _ gb136 32 #[.slice none 0 0, .int .i64 0] (0, 0) _ rfl (by refine kb_ ?_; refine pz2 (cs := #[.slice none 0 0, .int .i64 0]) ?_; refine kb_ ?_; exact BK136.out) Try.underlying32 rfl (by kernel_rfl)) rfl ?_
             exact ⟨_, by first | rfl | (simp [errW_none, errW_some] <;> rfl) | (simp [*, errW_none, errW_some] <;> rfl), by first | exact Kd.S_nil _ _ _ _ _ | exact Kd.N_nil _ _ _ _ _ | exact Kd.V_nil _ _ _ _ _ | exact Kd.Q_nil _ _ _ _ _ | exact Kd.R_nil _ _ _ _ _, hbA_ HB.out⟩
end Go.Proofs.Ytpdbnlmdohcgkaa.PFnExactPartPut
