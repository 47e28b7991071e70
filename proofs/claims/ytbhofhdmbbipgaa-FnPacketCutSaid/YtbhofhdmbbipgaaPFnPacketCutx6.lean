/- Printed by wip/xp/xprint.sh out of the translation, for this claim: what each function answers, as a plain function, and that the machine does just that. No condition. -/
import Derived.Test.YtbhofhdmbbipgaaPFnPacketCutx0
import Derived.Test.YtbhofhdmbbipgaaPFnPacketCutx2
import Derived.Test.YtbhofhdmbbipgaaPFnPacketCutx3
import Derived.Test.YtbhofhdmbbipgaaPFnPacketCutx4
import Derived.Test.YtbhofhdmbbipgaaPFnPacketCutx5
namespace Go.Proofs.Ytbhofhdmbbipgaa.PFnPacketCut
open Go.RowKit Go.Proofs.YtbhofhdmbbipgaaW.PrintWords Go.Proofs.YtbhofhdmbbipgaaW.PrintLast Go.Proofs.YtbhofhdmbbipgaaW.PrintMore
attribute [local go_sem] max2_int min2_int max_two min_two max_three min_three max_four min_four   -- for this text's walks alone
set_option linter.unusedVariables false
set_option linter.unusedSimpArgs false
mutual
def laws_FnPacketCut.j0 : Nat → Int → List (S24) → Bool → Bool → Int → Int → Int → Int → Int → Int → Bool → Bool → List Int → Option (Bool)
 | 0, _, _, _, _, _, _, _, _, _, _, _, _, _ => none
 | k + 1, x4, x5, x6, x44, x308000, x308001, x308002, x308003, x308004, x308005, x308006, x308007, x308008 => if x44 = true then (some false) else (if x6 = true then (laws_FnPacketCut.l0 k x4 x5 (([] : List Int)) (([] : List (S24))) 0 x308000 x308001 x308002 x308003 x308004 x308005 x308006 x308007 x308008) else (if (x5.length : Int) = 0 then ((laws_alive.f k).bind fun t317 => (some t317)) else (some false)))
def laws_FnPacketCut.l0 : Nat → Int → List (S24) → List Int → List (S24) → Int → Int → Int → Int → Int → Int → Int → Bool → Bool → List Int → Option (Bool)
 | 0, _, _, _, _, _, _, _, _, _, _, _, _, _, _ => none
 | k + 1, x4, x5, x9, x10, x11, x308000, x308001, x308002, x308003, x308004, x308005, x308006, x308007, x308008 => if x11 < (x5.length : Int) then (if 0 ≤ x11 then (if (((rd_T24 x5 x11).f8).length : Int) > x4 then (laws_FnPacketCut.j2 k x4 x5 x9 x10 x11 true x308000 x308001 x308002 x308003 x308004 x308005 x308006 x308007 x308008) else ((impl_PacketOk.f ((rd_T24 x5 x11).f0) ((rd_T24 x5 x11).f1) ((rd_T24 x5 x11).f2) ((rd_T24 x5 x11).f3) ((rd_T24 x5 x11).f4) ((rd_T24 x5 x11).f5) ((rd_T24 x5 x11).f6) ((rd_T24 x5 x11).f7) ((rd_T24 x5 x11).f8)).bind fun t326 => (if t326 = true then (if ((rd_T24 x5 x11).f5) = (wrap64 (x308005 + (x9.length : Int))) then (if x308006 = true then (laws_FnPacketCut.j2 k x4 x5 x9 x10 x11 (((rd_T24 x5 x11).f6) != true) x308000 x308001 x308002 x308003 x308004 x308005 x308006 x308007 x308008) else (laws_FnPacketCut.j2 k x4 x5 x9 x10 x11 (((rd_T24 x5 x11).f6) != (decide ((wrap64 (x11 + 1)) < (x5.length : Int)))) x308000 x308001 x308002 x308003 x308004 x308005 x308006 x308007 x308008)) else (laws_FnPacketCut.j2 k x4 x5 x9 x10 x11 true x308000 x308001 x308002 x308003 x308004 x308005 x308006 x308007 x308008)) else (laws_FnPacketCut.j2 k x4 x5 x9 x10 x11 true x308000 x308001 x308002 x308003 x308004 x308005 x308006 x308007 x308008)))) else (none)) else ((impl_PacketCut.f x308000 x308001 x308002 x308003 x308004 x308005 x308006 x308007 x308008 1).bind fun bt341 => ((laws_sameBytes.f x9 x308008).bind fun t345 => (if t345 = true then (if bt341.2 = true then (if (x5.length : Int) = 1 then ((laws_alive.f k).bind fun t346 => (some t346)) else ((laws_samePackets.f k x10 bt341.1).bind fun t347 => (if t347 = true then ((laws_alive.f k).bind fun t348 => (some t348)) else (some false)))) else ((laws_alive.f k).bind fun t349 => (some t349))) else (some false))))
def laws_FnPacketCut.j2 : Nat → Int → List (S24) → List Int → List (S24) → Int → Bool → Int → Int → Int → Int → Int → Int → Bool → Bool → List Int → Option (Bool)
 | 0, _, _, _, _, _, _, _, _, _, _, _, _, _, _, _ => none
 | k + 1, x4, x5, x9, x10, x11, x106, x308000, x308001, x308002, x308003, x308004, x308005, x308006, x308007, x308008 => if x106 = true then (some false) else (if 0 ≤ x11 then (if x11 < (x5.length : Int) then (if x9.length + ((rd_T24 x5 x11).f8).length < 140737488355328 then ((impl_PacketCut.f ((rd_T24 x5 x11).f0) ((rd_T24 x5 x11).f1) ((rd_T24 x5 x11).f2) ((rd_T24 x5 x11).f3) ((rd_T24 x5 x11).f4) ((rd_T24 x5 x11).f5) ((rd_T24 x5 x11).f6) ((rd_T24 x5 x11).f7) ((rd_T24 x5 x11).f8) 1).bind fun bt334 => (if x10.length + bt334.1.length < 1759218604441 then (laws_FnPacketCut.l0 k x4 x5 (x9 ++ ((rd_T24 x5 x11).f8)) (x10 ++ bt334.1) (wrap64 (x11 + 1)) x308000 x308001 x308002 x308003 x308004 x308005 x308006 x308007 x308008) else (none))) else (none)) else (none)) else (none))
end
def laws_FnPacketCut.f (k : Nat) (l0 : List Int) : Option (Bool) := if (l0.length : Int) > 1048576 then (some true) else ((spec_DrawPacketCut.f k l0).bind fun bt295 => ((impl_PacketCut.f bt295.1 bt295.2.1 bt295.2.2.1 bt295.2.2.2.1 bt295.2.2.2.2.1 bt295.2.2.2.2.2.1 bt295.2.2.2.2.2.2.1 bt295.2.2.2.2.2.2.2.1 bt295.2.2.2.2.2.2.2.2.1 bt295.2.2.2.2.2.2.2.2.2).bind fun bt308 => ((spec_PacketCut.f k bt295.1 bt295.2.1 bt295.2.2.1 bt295.2.2.2.1 bt295.2.2.2.2.1 bt295.2.2.2.2.2.1 bt295.2.2.2.2.2.2.1 bt295.2.2.2.2.2.2.2.1 bt295.2.2.2.2.2.2.2.2.1 bt295.2.2.2.2.2.2.2.2.2).bind fun bt312 => (if (bt308.2 != bt312.2) = true then (laws_FnPacketCut.j0 k bt295.2.2.2.2.2.2.2.2.2 bt308.1 bt308.2 true bt295.1 bt295.2.1 bt295.2.2.1 bt295.2.2.2.1 bt295.2.2.2.2.1 bt295.2.2.2.2.2.1 bt295.2.2.2.2.2.2.1 bt295.2.2.2.2.2.2.2.1 bt295.2.2.2.2.2.2.2.2.1) else ((laws_samePackets.f k bt308.1 bt312.1).bind fun t316 => (laws_FnPacketCut.j0 k bt295.2.2.2.2.2.2.2.2.2 bt308.1 bt308.2 (!t316) bt295.1 bt295.2.1 bt295.2.2.1 bt295.2.2.2.1 bt295.2.2.2.2.1 bt295.2.2.2.2.2.1 bt295.2.2.2.2.2.2.1 bt295.2.2.2.2.2.2.2.1 bt295.2.2.2.2.2.2.2.2.1))))))
theorem laws_FnPacketCut.mono_l : ∀ k, (∀ y0 y1 y2 y3 y4 y5 y6 y7 y8 y9 y10 y11 y12, LeO (laws_FnPacketCut.j0 k y0 y1 y2 y3 y4 y5 y6 y7 y8 y9 y10 y11 y12) (laws_FnPacketCut.j0 (k + 1) y0 y1 y2 y3 y4 y5 y6 y7 y8 y9 y10 y11 y12)) ∧ (∀ y0 y1 y2 y3 y4 y5 y6 y7 y8 y9 y10 y11 y12 y13, LeO (laws_FnPacketCut.l0 k y0 y1 y2 y3 y4 y5 y6 y7 y8 y9 y10 y11 y12 y13) (laws_FnPacketCut.l0 (k + 1) y0 y1 y2 y3 y4 y5 y6 y7 y8 y9 y10 y11 y12 y13)) ∧ (∀ y0 y1 y2 y3 y4 y5 y6 y7 y8 y9 y10 y11 y12 y13 y14, LeO (laws_FnPacketCut.j2 k y0 y1 y2 y3 y4 y5 y6 y7 y8 y9 y10 y11 y12 y13 y14) (laws_FnPacketCut.j2 (k + 1) y0 y1 y2 y3 y4 y5 y6 y7 y8 y9 y10 y11 y12 y13 y14))
 | 0 => ⟨fun _ _ _ _ _ _ _ _ _ _ _ _ _ r h => by simp [laws_FnPacketCut.j0] at h, fun _ _ _ _ _ _ _ _ _ _ _ _ _ _ r h => by simp [laws_FnPacketCut.l0] at h, fun _ _ _ _ _ _ _ _ _ _ _ _ _ _ _ r h => by simp [laws_FnPacketCut.j2] at h⟩
 | k + 1 => by
  obtain ⟨ih0, ih1, ih2⟩ := laws_FnPacketCut.mono_l k
  refine ⟨?_, ?_, ?_⟩
  ·intro y0 y1 y2 y3 y4 y5 y6 y7 y8 y9 y10 y11 y12
   unfold laws_FnPacketCut.j0
   repeat' first | (with_reducible first | apply ih0 | apply ih1 | apply ih2 | apply laws_alive.mono | apply laws_samePackets.mono | apply spec_DrawPacketCut.mono | apply spec_PacketCut.mono | exact LeO.refl _ | exact LeO.none _ | refine LeO.ite ?_ ?_ | refine LeO.bind ?_ fun _ => ?_) | apply ih0 | apply ih1 | apply ih2 | apply laws_alive.mono | apply laws_samePackets.mono | apply spec_DrawPacketCut.mono | apply spec_PacketCut.mono | exact LeO.none _ | refine LeO.ite ?_ ?_ | refine LeO.bind ?_ fun _ => ?_
  ·intro y0 y1 y2 y3 y4 y5 y6 y7 y8 y9 y10 y11 y12 y13
   unfold laws_FnPacketCut.l0
   repeat' first | (with_reducible first | apply ih0 | apply ih1 | apply ih2 | apply laws_alive.mono | apply laws_samePackets.mono | apply spec_DrawPacketCut.mono | apply spec_PacketCut.mono | exact LeO.refl _ | exact LeO.none _ | refine LeO.ite ?_ ?_ | refine LeO.bind ?_ fun _ => ?_) | apply ih0 | apply ih1 | apply ih2 | apply laws_alive.mono | apply laws_samePackets.mono | apply spec_DrawPacketCut.mono | apply spec_PacketCut.mono | exact LeO.none _ | refine LeO.ite ?_ ?_ | refine LeO.bind ?_ fun _ => ?_
  ·intro y0 y1 y2 y3 y4 y5 y6 y7 y8 y9 y10 y11 y12 y13 y14
   unfold laws_FnPacketCut.j2
   repeat' first | (with_reducible first | apply ih0 | apply ih1 | apply ih2 | apply laws_alive.mono | apply laws_samePackets.mono | apply spec_DrawPacketCut.mono | apply spec_PacketCut.mono | exact LeO.refl _ | exact LeO.none _ | refine LeO.ite ?_ ?_ | refine LeO.bind ?_ fun _ => ?_) | apply ih0 | apply ih1 | apply ih2 | apply laws_alive.mono | apply laws_samePackets.mono | apply spec_DrawPacketCut.mono | apply spec_PacketCut.mono | exact LeO.none _ | refine LeO.ite ?_ ?_ | refine LeO.bind ?_ fun _ => ?_
theorem laws_FnPacketCut.mono : ∀ a0 k, LeO (laws_FnPacketCut.f k a0) (laws_FnPacketCut.f (k + 1) a0) := by
 intro a0 k
 obtain ⟨ih0, ih1, ih2⟩ := laws_FnPacketCut.mono_l k
 unfold laws_FnPacketCut.f
 repeat' first | (with_reducible first | apply ih0 | apply ih1 | apply ih2 | apply laws_alive.mono | apply laws_samePackets.mono | apply spec_DrawPacketCut.mono | apply spec_PacketCut.mono | exact LeO.refl _ | exact LeO.none _ | refine LeO.ite ?_ ?_ | refine LeO.bind ?_ fun _ => ?_) | apply ih0 | apply ih1 | apply ih2 | apply laws_alive.mono | apply laws_samePackets.mono | apply spec_DrawPacketCut.mono | apply spec_PacketCut.mono | exact LeO.none _ | refine LeO.ite ?_ ?_ | refine LeO.bind ?_ fun _ => ?_
def laws_FnPacketCut.T15 : Bool × List (List Nat × List Nat) := (true, [([], []), ([], []), ([0, 1], [0, 1]), ([2], [2]), ([3], [3]), ([4], [4]), ([], []), ([5, 6], [5, 6]), ([7], [7]), ([8], [8]), ([8], [8]), ([9, 10, 8], [8, 9, 10]), ([11, 8], [8, 11]), ([12, 8, 8], [8, 12]), ([13, 8], [8, 13]), ([8, 14], [8, 14]), ([15, 13], [15]), ([16], [16]), ([16], [16]), ([17, 18, 16], [16, 17, 18]), ([19, 16], [16, 19]), ([20, 16], [16, 20]), ([16], [16]), ([22, 16], [16, 22]), ([16], [16]), ([24, 16], [16, 24]), ([23, 25, 16], [16, 23, 25]), ([21, 26, 16], [16, 21, 26]), ([16, 27], [16, 27]), ([28, 16], [28]), ([29], [29]), ([29], [29]), ([30, 31, 29], [29, 30, 31]), ([32, 29], [29, 32]), ([33, 29], [29, 33]), ([29], [29]), ([35, 29], [29, 35]), ([36, 29, 29], [29, 36]), ([37], [37]), ([38, 37], [37, 38]), ([37], [37]), ([40, 37], [37, 40]), ([39, 41, 37], [37, 39, 41]), ([37, 42, 29], [29, 37, 42]), ([34, 43, 29], [29, 34, 43]), ([29, 44], [29, 44])])
def laws_FnPacketCut.B15 : List Nat := [0, 0, 3, 7, 15, 31, 0, 127, 255, 511, 511, 2047, 4095, 8191, 16383, 32767, 65535, 131071, 131071, 524287, 1048575, 2097151, 131071, 4325375, 131071, 16908287, 63045631, 134217727, 268435455, 536870911, 1073741823, 1073741823, 4294967295, 8589934591, 17179869183, 1073741823, 35433480191, 104152956927, 241591910399, 516469817343, 241591910399, 1341103538175, 4364760514559, 8762807025663, 17592186044415, 35184372088831]
theorem laws_FnPacketCut.tab15 : rtab .any (opsOf Try.f3 15) = laws_FnPacketCut.T15 := by kernel_rfl
theorem laws_FnPacketCut.bits15 : waitsOk laws_FnPacketCut.T15.2 laws_FnPacketCut.B15 = true := by kernel_rfl
set_option maxHeartbeats 8000000 in
set_option maxRecDepth 100000 in
theorem laws_FnPacketCut.calls (k : Nat) (A0 : Option Addr) (c0 : Nat) (l0 : List Int) (r : Bool) (w : World) (hr0 : Kd.C (Kd.int .u8) w A0 l0.length l0) (hc0 : l0.length ≤ c0) (h : laws_FnPacketCut.f k l0 = some r) (hlw : r = true) :
  Calls Try.prog 3 #[.slice A0 l0.length c0] w fun e w' => e = .returned (.bool r) ∧ Below w.heap.size w w' := by
 have hu24 := Try.underlying24; have HLW := Aside0.mk hlw; clear hlw; have HR0 := Aside0.mk hr0; have HC0 := Aside0.mk hc0; clear hr0 hc0
 have HB := Aside0.mk (Below.refl w.heap.size w)
 have H : (if (l0.length : Int) > 1048576 then (some true) else ((spec_DrawPacketCut.f k l0).bind fun bt295 => ((impl_PacketCut.f bt295.1 bt295.2.1 bt295.2.2.1 bt295.2.2.2.1 bt295.2.2.2.2.1 bt295.2.2.2.2.2.1 bt295.2.2.2.2.2.2.1 bt295.2.2.2.2.2.2.2.1 bt295.2.2.2.2.2.2.2.2.1 bt295.2.2.2.2.2.2.2.2.2).bind fun bt308 => ((spec_PacketCut.f k bt295.1 bt295.2.1 bt295.2.2.1 bt295.2.2.2.1 bt295.2.2.2.2.1 bt295.2.2.2.2.2.1 bt295.2.2.2.2.2.2.1 bt295.2.2.2.2.2.2.2.1 bt295.2.2.2.2.2.2.2.2.1 bt295.2.2.2.2.2.2.2.2.2).bind fun bt312 => (if (bt308.2 != bt312.2) = true then (laws_FnPacketCut.j0 k bt295.2.2.2.2.2.2.2.2.2 bt308.1 bt308.2 true bt295.1 bt295.2.1 bt295.2.2.1 bt295.2.2.2.1 bt295.2.2.2.2.1 bt295.2.2.2.2.2.1 bt295.2.2.2.2.2.2.1 bt295.2.2.2.2.2.2.2.1 bt295.2.2.2.2.2.2.2.2.1) else ((laws_samePackets.f k bt308.1 bt312.1).bind fun t316 => (laws_FnPacketCut.j0 k bt295.2.2.2.2.2.2.2.2.2 bt308.1 bt308.2 (!t316) bt295.1 bt295.2.1 bt295.2.2.1 bt295.2.2.2.1 bt295.2.2.2.2.1 bt295.2.2.2.2.2.1 bt295.2.2.2.2.2.2.1 bt295.2.2.2.2.2.2.2.1 bt295.2.2.2.2.2.2.2.2.1))))))) = some r := h
 clear h
 by_cases c2 : (l0.length : Int) > 1048576
 ·rw [if_pos c2] at H
  have c2b0 : decide (1048576 < (l0.length : Int)) = true := decide_eq_true c2
  have c2b1 : decide (1048576 < l0.length) = true := decide_eq_true (by omega)
  clear c2
  obtain rfl := Option.some.inj H
  go_enter Try.func3, Try.ntmps3
  go_wp2
  go_ret
  exact ⟨by first | rfl | (simp [errW_none, errW_some] <;> rfl) | (simp [*, errW_none, errW_some] <;> rfl), hbA_ HB.out⟩
 ·rw [if_neg c2] at H
  have c2b0 : decide (1048576 < (l0.length : Int)) = false := decide_eq_false c2
  have c2b1 : decide (1048576 < l0.length) = false := decide_eq_false (by omega)
  clear c2
  replace H := Option.bind_eq_some_iff.mp H
  obtain ⟨⟨t295, t296, t297, t298, t299, t300, t301, t302, t303, t306⟩, A30, H⟩ := H
  (try dsimp only at H)
  have A3 := Aside0.mk A30; clear A30
  replace H := Option.bind_eq_some_iff.mp H
  obtain ⟨⟨t308, t311⟩, A40, H⟩ := H
  (try dsimp only at H)
  have A4 := Aside0.mk A40; clear A40
  replace H := Option.bind_eq_some_iff.mp H
  obtain ⟨⟨t312, t315⟩, A50, H⟩ := H
  (try dsimp only at H)
  have A5 := Aside0.mk A50; clear A50; have HC6 := Aside0.mk H; clear H
  go_enter Try.func3, Try.ntmps3
  go_upto_region 6 with (first | ((with_reducible refine gate_callee (f := 9) rfl ?_); refine goesL_ (some 21) rfl rfl Try.func9 (by kernel_rfl) rfl #[.slice A0 l0.length c0] rfl ar_ ?_; (with_reducible refine (spec_DrawPacketCut.calls k _ _ l0 t295 t296 t297 t298 t299 t300 t301 t302 t303 t306 _ ?side1 ?side2 A3.out).mono ?_); (case side1 => exact kC_ HR0.out); (case side2 => exact HC0.out); rintro e w7 ⟨v304, rfl, ho0, hb⟩; refine ⟨_, rfl, ?_⟩; have HO305 := Aside0.mk (Kd.R_lower ho0 (below_size (hbA_ HB.out))); replace HB := (bs_ HB hb); (try clear hb); (try clear hb2); (try clear hk); (try clear hi); (try clear ho0)) | ((with_reducible refine gate_dst (N := 3) rfl ?_); (try (refine gate_guard (by rfl) ?_; dsimp only)); refine box_ (N := 3) (cs := #[.int .i64 0, .int .i64 0, .int .i64 0, .int .i64 0, .int .i64 0, .int .i64 0, .bool false, .bool false, .slice none 0 0]) (t := 24) (fun gb307 hg w8 hbox hb => ?_); replace HO305 := Aside0.mk (Kd.R_below (kR_ HO305.out) hb); have BK307 := Aside0.mk (hbox); have GW307 := ge_ hg HB; have GE307 := ge_ hg HB; replace HB := (bs_ HB hb); clear hb hbox hg; have Z9 := zz9 BK307; obtain ⟨Ao10, co10, eo10⟩ := Kd.R_slice HO305.out; subst eo10) | ((with_reducible refine gate_callee (f := 10) rfl ?_); refine goesL_ (some 27) rfl rfl Try.func10 (by kernel_rfl) rfl #[.agg #[.int .i64 t295, .int .i64 t296, .int .i64 t297, .int .i64 t298, .int .i64 t299, .int .i64 t300, .bool t301, .bool t302, .slice Ao10 t303.length co10], .int .i64 t306] rfl ar_ ?_; (with_reducible refine (impl_PacketCut.calls t295 t296 t297 t298 t299 t300 t301 t302 _ _ t303 t306 t308 t311 _ ?side1 ?side2 A4.out).mono ?_); (case side1 => refine (Kd.R_reads' (e := 5) (base := w.heap.size) (ok := fun k_ => True) (n := t303.length) (c := co10) ?_).2.2; exact (by refine kR_ ?_; exact (rfm_ ((Kd.R_types HO305.out BK307.out (by decide))) (fun _ h_ => op1_ h_)))); (case side2 => exact (Kd.R_reads' HO305.out).2.1); rintro e w11 ⟨v309, rfl, ho0, hb⟩; refine ⟨_, rfl, ?_⟩; have HO310 := Aside0.mk (Kd.N_lower (Kd.N_mono (ok' := fun k_ => some k_ ≠ (.slice Ao10 t303.length co10 : Value).ownBlock ∧ k_ ≠ gb307) (Kd.S_N (Kd.S_bound ho0)) (fun k_ hk_ => ⟨(Kd.fresh' (Kd.R_lt (by refine kR_ ?_; exact (rfm_ ((Kd.R_types HO305.out BK307.out (by decide))) (fun _ h_ => op1_ h_)))) k_ hk_.2.1), (Kd.freshB (g := gb307) (o := .cells #[.int .i64 t295, .int .i64 t296, .int .i64 t297, .int .i64 t298, .int .i64 t299, .int .i64 t300, .bool t301, .bool t302, .slice Ao10 t303.length co10] 24 (0, 0)) (by refine kb_ ?_; refine pz9 (cs := #[.int .i64 0, .int .i64 0, .int .i64 0, .int .i64 0, .int .i64 0, .int .i64 0, .bool false, .bool false, .slice none 0 0]) ?_; refine kb_ ?_; exact BK307.out) k_ hk_.2.1)⟩)) (below_size (hbA_ HB.out))); replace HO305 := Aside0.mk (Kd.R_below (by refine kR_ ?_; exact (rfm_ ((Kd.R_types HO305.out BK307.out (by decide))) (fun _ h_ => op1_ h_))) hb); replace BK307 := Aside0.mk (blk_below (g := gb307) (o := .cells #[.int .i64 t295, .int .i64 t296, .int .i64 t297, .int .i64 t298, .int .i64 t299, .int .i64 t300, .bool t301, .bool t302, .slice Ao10 t303.length co10] 24 (0, 0)) (by refine kb_ ?_; refine pz9 (cs := #[.int .i64 0, .int .i64 0, .int .i64 0, .int .i64 0, .int .i64 0, .int .i64 0, .bool false, .bool false, .slice none 0 0]) ?_; refine kb_ ?_; exact BK307.out) hb); replace HB := (bs_ HB hb); (try clear hb); (try clear hb2); (try clear hk); (try clear hi); (try clear ho0); have Z12 := zz9 BK307) | ((with_reducible refine gate_callee (f := 11) rfl ?_); refine goesL_ (some 33) rfl rfl Try.func11 (by kernel_rfl) rfl #[.agg #[.int .i64 t295, .int .i64 t296, .int .i64 t297, .int .i64 t298, .int .i64 t299, .int .i64 t300, .bool t301, .bool t302, .slice Ao10 t303.length co10], .int .i64 t306] rfl ar_ ?_; (with_reducible refine (spec_PacketCut.calls k t295 t296 t297 t298 t299 t300 t301 t302 _ _ t303 t306 t312 t315 _ ?side1 ?side2 A5.out).mono ?_); (case side1 => exact kC_ (Kd.R_reads' HO305.out).2.2); (case side2 => exact (Kd.R_reads' HO305.out).2.1); rintro e w13 ⟨v313, rfl, ho0, hb⟩; refine ⟨_, rfl, ?_⟩; have HO314 := Aside0.mk (Kd.N_lower (Kd.N_mono (ok' := fun k_ => some k_ ≠ (.slice Ao10 t303.length co10 : Value).ownBlock ∧ some k_ ≠ (v309 : Value).ownBlock ∧ k_ ≠ gb307) (Kd.S_N (Kd.S_bound ho0)) (fun k_ hk_ => ⟨(Kd.fresh' (Kd.R_lt (kR_ HO305.out)) k_ hk_.2.1), (Kd.fresh' (Kd.N_lt (kN_ HO310.out)) k_ hk_.2.1), (fb_ BK307 k_ hk_.2.1)⟩)) (below_size (hbA_ HB.out))); replace HO305 := Aside0.mk (Kd.R_below (kR_ HO305.out) hb); replace HO310 := Aside0.mk (Kd.N_elder' (kN_ HO310.out) (Kd.base_ ho0) hb); replace BK307 := (bbA_ BK307 hb); replace HB := (bs_ HB hb); (try clear hb); (try clear hb2); (try clear hk); (try clear hi); (try clear ho0)))
  (try simp only [Act.put, List.setIfInBounds_toArray, List.set_cons_zero, List.set_cons_succ])
  go_cut [44] (fun v44 wc => ∃ (kq : Nat) (x44_5 : Bool), v44 = .bool x44_5 ∧ Aside0 (laws_FnPacketCut.j0 kq t306 t308 t311 x44_5 t295 t296 t297 t298 t299 t300 t301 t302 t303 = some r) ∧ Aside0 (kq ≤ k) ∧ Aside0 (Kd.N k24 24 wc w.heap.size (fun k_ => some k_ ≠ ((.slice Ao10 t303.length co10) : Value).ownBlock ∧ k_ ≠ gb307) v309 t308) ∧ Aside0 (Kd.R (Kd.int .u8) 5 wc w.heap.size (fun _ => True) (.slice Ao10 t303.length co10) t303) ∧ Aside0 (wc.heap[gb307]? = some (.cells #[.int .i64 t295, .int .i64 t296, .int .i64 t297, .int .i64 t298, .int .i64 t299, .int .i64 t300, .bool t301, .bool t302, (.slice Ao10 t303.length co10)] 24 (0, 0))) ∧ Aside0 (Below w.heap.size w wc))
  case first =>
   have H := HC6.out; clear HC6
   by_cases c14 : (t311 != t315) = true
   ·rw [if_pos c14] at H
    have c14b0 : (t311 != t315) = true := c14
    (try (have c14b1 : decide (t311 = t315) = false := by simpa using c14))
    (try (have c14b2 : (t311 == t315) = false := by simpa using c14))
    (try (have c14b3 : ¬ (t311 = t315) := by simpa using c14))
    clear c14
    (first | rw [c14b0] | (simp only [i64_w, i32_w]; rw [c14b0]) | skip)
    have H' := Aside0.mk H
    clear H
    go_wp2
    go_meet
    case rel => exact ⟨_, (true), (by first | rfl | (simp; done) | (simp [*]; done)), H', ⟨by first | omega | exact Nat.le_refl _⟩, ⟨by refine kN_ ?_; exact Kd.N_mono HO310.out (fun _ hk => ⟨hk.1.1, hk.1.2⟩)⟩, ⟨kR_ HO305.out⟩, ⟨by refine kb_ ?_; exact BK307.out⟩, ⟨hbA_ HB.out⟩⟩
   ·rw [if_neg c14] at H
    have c14b0 : (t311 != t315) = false := by simpa using c14
    (try (have c14b1 : decide (t311 = t315) = true := by simpa using c14))
    (try (have c14b2 : (t311 == t315) = true := by simpa using c14))
    clear c14
    (first | rw [c14b0] | (simp only [i64_w, i32_w]; rw [c14b0]) | skip)
    replace H := Option.bind_eq_some_iff.mp H
    obtain ⟨t316, A150, H⟩ := H
    (try dsimp only at H)
    have A15 := Aside0.mk A150; clear A150
    have H' := Aside0.mk H
    clear H
    obtain ⟨Ao16, co16, eo16⟩ := Kd.N_slice HO310.out
    subst eo16
    obtain ⟨Ao17, co17, eo17⟩ := Kd.N_slice HO314.out
    subst eo17
    go_wp2_with (first | (go_at_call 12; (with_reducible refine (laws_samePackets.calls k _ _ t308 _ _ t312 t316 _ ?side1 ?side2 ?side3 ?side4 A15.out).mono ?_); (case side1 => exact kC_ (Kd.N_reads' HO310.out).2.2); (case side2 => exact (Kd.N_reads' HO310.out).2.1); (case side3 => exact kC_ (Kd.N_reads' HO314.out).2.2); (case side4 => exact (Kd.N_reads' HO314.out).2.1); rintro e w18 ⟨rfl, hb⟩; replace HO305 := Aside0.mk (Kd.R_below (kR_ HO305.out) hb); replace HO310 := Aside0.mk (Kd.N_below (kN_ HO310.out) hb); replace HO314 := Aside0.mk (Kd.N_below (kN_ HO314.out) hb); replace BK307 := (bbA_ BK307 hb); replace HB := (bs_ HB hb); (try clear hb); (try clear hb2); (try clear hk); (try clear hi)))
    go_meet
    case rel => exact ⟨_, (!t316), (by first | rfl | (simp; done) | (simp [*]; done)), H', ⟨by first | omega | exact Nat.le_refl _⟩, ⟨by refine kN_ ?_; exact Kd.N_mono HO310.out (fun _ hk => ⟨hk.1.1, hk.1.2⟩)⟩, ⟨kR_ HO305.out⟩, ⟨by refine kb_ ?_; exact BK307.out⟩, ⟨hbA_ HB.out⟩⟩
  case rest =>
   clear HC6; (try clear c1); (try clear c2); (try clear c2b0); (try clear c2b1); (try clear p2); (try clear c3); (try clear c9); (try clear c10); (try clear c11); (try clear c14); (try clear c14b0); (try clear c14b1); (try clear c14b2); (try clear Z12); (try clear Z9)
   obtain ⟨kq, x44_5, rfl, HA, HJ5, HO_5, HO_308008, BK307, HB⟩ := hcut
   cases kq with
   | zero => exact absurd HA.out (by simp [laws_FnPacketCut.j0])
   | succ kj5 =>
    have H := HA.out; clear HA
    simp only [laws_FnPacketCut.j0] at H
    by_cases c19 : x44_5 = true
    ·subst c19
     rw [if_pos rfl] at H
     exact absurd (Option.some.inj H) (by rw [HLW.out]; exact Bool.false_ne_true)
    ·replace c19 := Bool.eq_false_iff.mpr c19
     subst c19
     rw [if_neg (show ¬ (false = true) by decide)] at H
     by_cases c20 : t311 = true
     ·subst c20
      rw [if_pos rfl] at H
      obtain ⟨y318, hy318⟩ : ∃ y_ : List Int, y_ = (([] : List Int)) := ⟨_, rfl⟩
      (first | replace H := sb_ hy318 H | rw [← hy318] at H)
      have Ny318 := Aside0.mk hy318; clear hy318
      obtain ⟨y321, hy321⟩ : ∃ y_ : List (S24), y_ = (([] : List (S24))) := ⟨_, rfl⟩
      (first | replace H := sb_ hy321 H | rw [← hy321] at H | skip)
      have Ny321 := Aside0.mk hy321; clear hy321
      have H' := Aside0.mk H
      clear H
      go_wp2_with (first | ((with_reducible refine gate_dst (N := 53) rfl ?_); (try (refine gate_guard (by rfl) ?_; dsimp only)); refine Kd.R_lit (Kd.int .u8) _ 5 ?hg (N := 53) ?hd (xs := ([] : List Int)) (inner := []) (ok := fun _ => True) (okp := fun _ => True) ?hr ?hp (fun _ hk => hk) trivial (Below.refl _ _) (Nat.le_refl _) (by simp) ?_; (case hd => rfl); (case hg => rfl); (case hr => first | (go_simp; done) | (go_simp; rfl)); (case hp => exact (Reps.none _ _)); intro v319 w21 ho22 hb hg_ hnew_; clear hg_ hnew_; (first | rw [← Ny318.out] at ho22 | (simp only [Int.reduceToNat] at ho22; rw [← Ny318.out] at ho22)); replace HO_5 := Aside0.mk (Kd.N_elder' (kN_ HO_5.out) (Kd.R_base ho22) hb); have HO320 := Aside0.mk (Kd.R_lower (Kd.R_new' ho22 (Kd.R_lt (kR_ HO_308008.out))) (below_size (hbA_ HB.out))); replace HO_308008 := Aside0.mk (Kd.R_elder' (kR_ HO_308008.out) (Kd.R_base ho22) hb); replace BK307 := (bbA_ BK307 hb); replace HB := (bs_ HB hb); clear hb ho22) | ((with_reducible refine gate_dst (N := 54) rfl ?_); (try (refine gate_guard (by rfl) ?_; dsimp only)); refine Kd.N_lit k24 _ 24 ?hg (N' := 54) ?hd (xs := ([] : List (S24))) (inner := []) (ok := (fun k_ => some k_ ≠ (v309 : Value).ownBlock ∧ some k_ ≠ (.slice Ao10 t303.length co10 : Value).ownBlock ∧ some k_ ≠ (v319 : Value).ownBlock ∧ k_ ≠ gb307)) (okp := (fun k_ => some k_ ≠ (v309 : Value).ownBlock ∧ some k_ ≠ (.slice Ao10 t303.length co10 : Value).ownBlock ∧ some k_ ≠ (v319 : Value).ownBlock ∧ k_ ≠ gb307)) ?hr ?hp (fun _ hk => hk) ((show ∀ k_, w21.heap.size ≤ k_ → (fun k_ => some k_ ≠ (v309 : Value).ownBlock ∧ some k_ ≠ (.slice Ao10 t303.length co10 : Value).ownBlock ∧ some k_ ≠ (v319 : Value).ownBlock ∧ k_ ≠ gb307) k_ from fun k_ hk => ⟨Kd.fresh' (Kd.N_lt (kN_ HO_5.out)) k_ hk, Kd.fresh' (Kd.R_lt (kR_ HO_308008.out)) k_ hk, Kd.fresh' (Kd.R_lt (kR_ HO320.out)) k_ hk, fb_ BK307 k_ hk⟩) _ (Nat.le_refl _)) (Below.refl _ _) (Nat.le_refl _) (by simp) ?_; (case hd => rfl); (case hg => rfl); (case hr => first | (go_simp; done) | (go_simp; rfl)); (case hp => exact (Reps.none _ _)); intro v322 w23 ho24 hb hg_ hnew_; clear hg_ hnew_; (first | rw [← Ny321.out] at ho24 | (simp only [Int.reduceToNat] at ho24; rw [← Ny321.out] at ho24)); replace HO_5 := Aside0.mk (Kd.N_elder' (kN_ HO_5.out) (Kd.base_ ho24) hb); replace HO_308008 := Aside0.mk (Kd.R_below (kR_ HO_308008.out) hb); replace HO320 := Aside0.mk (Kd.R_below (kR_ HO320.out) hb); have HO323 := Aside0.mk (Kd.N_lower ho24 (below_size (hbA_ HB.out))); replace BK307 := (bbA_ BK307 hb); replace HB := (bs_ HB hb); clear hb ho24))
      go_loopg [9, 10, 11] kj5 (fun kq v9 v10 v11 w' => ∃ (x9_2 : List Int) (x10_2 : List (S24)) (x11_2 : Int), v11 = .int .i64 x11_2 ∧ Aside0 (laws_FnPacketCut.l0 kq t306 t308 x9_2 x10_2 x11_2 t295 t296 t297 t298 t299 t300 t301 t302 t303 = some r) ∧ Aside0 (kq ≤ kj5) ∧ Aside0 (Kd.N k24 24 w' w.heap.size (fun k_ => some k_ ≠ (v9 : Value).ownBlock ∧ some k_ ≠ (v10 : Value).ownBlock ∧ some k_ ≠ ((.slice Ao10 t303.length co10) : Value).ownBlock ∧ k_ ≠ gb307) v309 t308) ∧ Aside0 (Kd.R (Kd.int .u8) 5 w' w.heap.size (fun k_ => some k_ ≠ ((.slice Ao10 t303.length co10) : Value).ownBlock) v9 x9_2) ∧ Aside0 (Kd.N k24 24 w' w.heap.size (fun k_ => some k_ ≠ (v309 : Value).ownBlock ∧ some k_ ≠ (v9 : Value).ownBlock ∧ some k_ ≠ ((.slice Ao10 t303.length co10) : Value).ownBlock ∧ k_ ≠ gb307) v10 x10_2) ∧ Aside0 (Kd.R (Kd.int .u8) 5 w' w.heap.size (fun k_ => some k_ ≠ (v9 : Value).ownBlock) (.slice Ao10 t303.length co10) t303) ∧ Aside0 (w'.heap[gb307]? = some (.cells #[.int .i64 t295, .int .i64 t296, .int .i64 t297, .int .i64 t298, .int .i64 t299, .int .i64 t300, .bool t301, .bool t302, (.slice Ao10 t303.length co10)] 24 (0, 0))) ∧ Aside0 (Below w.heap.size w w'))
      case atStart => exact ⟨(y318), (y321), (0), (by first | rfl | (simp; done) | (simp [*]; done)), (by first | exact H' | (have h_ := H'; simp only [Ny318.out, Ny321.out] at h_ ⊢; exact h_)), ⟨Nat.le_refl _⟩, ⟨by refine kN_ ?_; exact Kd.N_mono HO_5.out (fun _ hk => ⟨hk.1.2, ⟨hk.2, ⟨hk.1.1.1, hk.1.1.2⟩⟩⟩)⟩, ⟨by refine kR_ ?_; exact Kd.R_mono HO320.out (fun _ hk => hk.2)⟩, ⟨by refine kN_ ?_; exact Kd.N_mono HO323.out (fun _ hk => ⟨hk.1, ⟨hk.2.2.1, ⟨hk.2.1, hk.2.2.2⟩⟩⟩)⟩, ⟨by refine kR_ ?_; exact Kd.R_mono HO_308008.out (fun _ hk => hk.2)⟩, ⟨by refine kb_ ?_; exact BK307.out⟩, ⟨hbA_ HB.out⟩⟩
      case round =>
       clear H'; (try clear c1); (try clear c2); (try clear c2b0); (try clear c2b1); (try clear p2); (try clear c3); (try clear c9); (try clear c10); (try clear c11); (try clear c14); (try clear c14b0); (try clear c14b1); (try clear c14b2); (try clear c19); (try clear c20); (try clear Z12); (try clear Z9); (try clear p2)
       obtain ⟨x9_2, x10_2, x11_2, rfl, HA, HK2, HO_5, HO_9, HO_10, HO_308008, BK307, HB⟩ := hrel
       cases gk with
       | zero => exact absurd HA.out (by simp [laws_FnPacketCut.l0])
       | succ k2 =>
        have H := HA.out; clear HA
        simp only [laws_FnPacketCut.l0] at H
        by_cases c25 : x11_2 < (t308.length : Int)
        ·rw [if_pos c25] at H
         have c25b0 : decide (x11_2 < (t308.length : Int)) = true := decide_eq_true c25
         clear c25; have HC26 := Aside0.mk H; clear H
         obtain ⟨Ao27, co27, eo27⟩ := Kd.N_slice HO_5.out
         subst eo27
         go_upto_region 15 with (fail)
         go_cut [106] (fun v106 wc => ∃ (kq : Nat) (x106_25 : Bool), v106 = .bool x106_25 ∧ Aside0 (laws_FnPacketCut.j2 kq t306 t308 x9_2 x10_2 x11_2 x106_25 t295 t296 t297 t298 t299 t300 t301 t302 t303 = some r) ∧ Aside0 (kq ≤ k2) ∧ Aside0 (Kd.N k24 24 wc w.heap.size (fun k_ => some k_ ≠ (u9 : Value).ownBlock ∧ some k_ ≠ (u10 : Value).ownBlock ∧ some k_ ≠ ((.slice Ao10 t303.length co10) : Value).ownBlock ∧ k_ ≠ gb307) (.slice Ao27 t308.length co27) t308) ∧ Aside0 (Kd.R (Kd.int .u8) 5 wc w.heap.size (fun k_ => some k_ ≠ ((.slice Ao10 t303.length co10) : Value).ownBlock) u9 x9_2) ∧ Aside0 (Kd.N k24 24 wc w.heap.size (fun k_ => some k_ ≠ ((.slice Ao27 t308.length co27) : Value).ownBlock ∧ some k_ ≠ (u9 : Value).ownBlock ∧ some k_ ≠ ((.slice Ao10 t303.length co10) : Value).ownBlock ∧ k_ ≠ gb307) u10 x10_2) ∧ Aside0 (Kd.R (Kd.int .u8) 5 wc w.heap.size (fun k_ => some k_ ≠ (u9 : Value).ownBlock) (.slice Ao10 t303.length co10) t303) ∧ Aside0 (wc.heap[gb307]? = some (.cells #[.int .i64 t295, .int .i64 t296, .int .i64 t297, .int .i64 t298, .int .i64 t299, .int .i64 t300, .bool t301, .bool t302, (.slice Ao10 t303.length co10)] 24 (0, 0))) ∧ Aside0 (Below w.heap.size w wc))
         case first =>
          have H := HC26.out; clear HC26
          by_cases c28 : 0 ≤ x11_2
          ·rw [if_pos c28] at H
           have c28b0 : decide (0 ≤ x11_2) = true := decide_eq_true c28
           clear c28
           (first | rw [c28b0] | (simp only [i64_w, i32_w]; rw [c28b0]) | skip)
           by_cases c29 : (((rd_T24 t308 x11_2).f8).length : Int) > t306
           ·rw [if_pos c29] at H
            have c29b0 : decide (t306 < (((rd_T24 t308 x11_2).f8).length : Int)) = true := decide_eq_true c29
            clear c29
            have H' := Aside0.mk H
            clear H
            try go_wp2
            replace HO_5 := Aside0.mk (Kd.N_drew HO_5.out); replace HO_9 := Aside0.mk (Kd.R_drew HO_9.out); replace HO_10 := Aside0.mk (Kd.N_drew HO_10.out); replace HO_308008 := Aside0.mk (Kd.R_drew HO_308008.out); replace BK307 := Aside0.mk (blk_drew BK307.out); replace HB := (bd_ HB)
            have p324 : 0 ≤ (x11_2 : Int) := of_decide_eq_true (by first | (with_reducible assumption) | assumption)
            have q324 : x11_2 < (t308.length : Int) := of_decide_eq_true (by first | (with_reducible assumption) | assumption)
            obtain ⟨ad324, A324_8, c324_8, e324, hx324_0, hx324_1, hx324_2, hx324_3, hx324_4, hx324_5, hx324_6, hx324_7, hx324_8, hl324_8, hi324_8⟩ := at_T24 (Kd.N_reads' HO_5.out).2.2 x11_2 p324 q324
            cases e324
            obtain ⟨ce324, hce324, hMe324, hcc324⟩ := Kd.N_get HO_5.out z24 x11_2 p324 (by first | exact q324 | exact of_decide_eq_true (by first | (with_reducible assumption) | assumption) | (have e_ := (Kd.N_reads' HO_5.out).1; omega))
            obtain ⟨ua324_8, uc324_8, rfl, ul324_8, ge324_8⟩ := k24_openF hMe324
            have hv324_8 := hcc324 8 _ rfl
            rw [add_field _ _ 8 (by omega)] at hv324_8
            replace hv324_8 := Option.some.inj (hv324_8.symm.trans hx324_8)
            injection hv324_8 with hva_ hvn_ hvc_
            rw [hva_] at ge324_8
            rw [hvc_] at ul324_8
            have HL324_8 := Aside0.mk (show Kd.V (Kd.int .u8) 5 _ w.heap.size _ _ ((rd_T24 t308 x11_2).f8) from Kd.V_mk ul324_8 ge324_8)
            clear hva_ hvn_ hvc_ ge324_8 ul324_8 hcc324 hce324; have HR324_8 := Aside0.mk hi324_8; have HC324_8 := Aside0.mk hl324_8; clear hi324_8 hl324_8
            replace p324 := eq_true p324
            replace q324 := eq_true q324
            refine start_ (n := 46) (S := fun w' => w'.cell? (ad324.add ((x11_2).toNat * 9)) = some (.int .i64 ((rd_T24 t308 x11_2).f0)) ∧ w'.cell? ⟨(ad324.add ((x11_2).toNat * 9)).block, (ad324.add ((x11_2).toNat * 9)).off + 1, none⟩ = some (.int .i64 ((rd_T24 t308 x11_2).f1)) ∧ w'.cell? ⟨(ad324.add ((x11_2).toNat * 9)).block, (ad324.add ((x11_2).toNat * 9)).off + 2, none⟩ = some (.int .i64 ((rd_T24 t308 x11_2).f2)) ∧ w'.cell? ⟨(ad324.add ((x11_2).toNat * 9)).block, (ad324.add ((x11_2).toNat * 9)).off + 3, none⟩ = some (.int .i64 ((rd_T24 t308 x11_2).f3)) ∧ w'.cell? ⟨(ad324.add ((x11_2).toNat * 9)).block, (ad324.add ((x11_2).toNat * 9)).off + 4, none⟩ = some (.int .i64 ((rd_T24 t308 x11_2).f4)) ∧ w'.cell? ⟨(ad324.add ((x11_2).toNat * 9)).block, (ad324.add ((x11_2).toNat * 9)).off + 5, none⟩ = some (.int .i64 ((rd_T24 t308 x11_2).f5)) ∧ w'.cell? ⟨(ad324.add ((x11_2).toNat * 9)).block, (ad324.add ((x11_2).toNat * 9)).off + 6, none⟩ = some (.bool ((rd_T24 t308 x11_2).f6)) ∧ w'.cell? ⟨(ad324.add ((x11_2).toNat * 9)).block, (ad324.add ((x11_2).toNat * 9)).off + 7, none⟩ = some (.bool ((rd_T24 t308 x11_2).f7)) ∧ w'.cell? ⟨(ad324.add ((x11_2).toNat * 9)).block, (ad324.add ((x11_2).toNat * 9)).off + 8, none⟩ = some (.slice A324_8 ((rd_T24 t308 x11_2).f8).length c324_8)) (ds := []) #[false, false, false, false, false, false, false, false, false, false, false, false, false, false, false, false, false, false, false, false, false, false, false, false, false, false, false, false, false, false, false, false, false, false, false, false, false, false, false, false, false, false, false, false, false, false] (by kernel_rfl) rfl rfl ⟨hx324_0, hx324_1, hx324_2, hx324_3, hx324_4, hx324_5, hx324_6, hx324_7, hx324_8⟩ (fun hHeld => ?_); refine with_tabW laws_FnPacketCut.tab15 laws_FnPacketCut.bits15 (fun HT_ HW_ => ?_)
            generalize wr.drew = w30 at HO_5 HO_9 HO_10 HO_308008 BK307 HB HL324_8 HR324_8 hx324_0 hx324_1 hx324_2 hx324_3 hx324_4 hx324_5 hx324_6 hx324_7 hx324_8 hHeld ⊢
            refine pu_ (i := 0) (N := some 61) HT_ ?_; refine pu_ (i := 1) (N := some 62) HT_ ?_; refine pu_ (i := 2) (N := some 63) HT_ ?_; refine pu_ (i := 3) (N := some 64) HT_ ?_; refine pu_ (i := 6) (N := some 67) HT_ ?_; refine tk_ (i := 4) (N := some 65) HT_ HW_ hHeld ?_; refine pu_ (i := 5) (N := some 66) HT_ ?_; refine pu_ (i := 7) (N := some 68) HT_ ?_; refine pu_ (i := 8) (N := some 69) HT_ ?_; refine pn_ (i := 9) (N := some 70) HT_ ?_; refine pn_ (i := 10) (N := some 71) HT_ ?_; refine pn_ (i := 11) (N := some 72) HT_ ?_; refine pn_ (i := 12) (N := some 73) HT_ ?_; refine pn_ (i := 13) (N := some 74) HT_ ?_; refine pn_ (i := 14) (N := some 75) HT_ ?_; refine pu_ (i := 15) (N := some 76) HT_ ?_; refine pu_ (i := 16) (N := some 77) HT_ ?_; refine pn_ (i := 17) (N := some 78) HT_ ?_; refine pn_ (i := 18) (N := some 79) HT_ ?_; refine pn_ (i := 19) (N := some 80) HT_ ?_; refine pn_ (i := 20) (N := some 81) HT_ ?_; refine pn_ (i := 21) (N := some 82) HT_ ?_; refine pn_ (i := 22) (N := some 83) HT_ ?_; refine pn_ (i := 23) (N := some 84) HT_ ?_; refine pn_ (i := 24) (N := some 85) HT_ ?_; refine pn_ (i := 25) (N := some 86) HT_ ?_; refine pn_ (i := 26) (N := some 87) HT_ ?_; refine pn_ (i := 27) (N := some 88) HT_ ?_; refine pu_ (i := 28) (N := some 89) HT_ ?_; refine pu_ (i := 29) (N := some 90) HT_ ?_; refine pn_ (i := 30) (N := some 91) HT_ ?_; refine pn_ (i := 31) (N := some 92) HT_ ?_; refine pn_ (i := 32) (N := some 93) HT_ ?_; refine pn_ (i := 33) (N := some 94) HT_ ?_; refine pn_ (i := 34) (N := some 95) HT_ ?_; refine pn_ (i := 35) (N := some 96) HT_ ?_; refine pn_ (i := 36) (N := some 97) HT_ ?_; refine pn_ (i := 37) (N := some 98) HT_ ?_; refine pn_ (i := 38) (N := some 99) HT_ ?_; refine pn_ (i := 39) (N := some 100) HT_ ?_; refine pn_ (i := 40) (N := some 101) HT_ ?_; refine pn_ (i := 41) (N := some 102) HT_ ?_; refine pn_ (i := 42) (N := some 103) HT_ ?_; refine pn_ (i := 43) (N := some 104) HT_ ?_; refine pn_ (i := 44) (N := some 105) HT_ ?_; refine pu_ (i := 45) (N := some 106) HT_ ?_
            refine done_ (done_of HT_.out (by kernel_rfl)) ?_
            try go_wp2
            go_meet
            case rel => exact ⟨_, (true), (by first | rfl | (simp; done) | (simp [*]; done)), H', ⟨by have := HJ5.out; have := HK2.out; first | omega | exact Nat.le_refl _⟩, ⟨by refine kN_ ?_; exact HO_5.out⟩, ⟨kR_ HO_9.out⟩, ⟨by refine kN_ ?_; exact HO_10.out⟩, ⟨kR_ HO_308008.out⟩, ⟨by refine kb_ ?_; exact BK307.out⟩, ⟨hbA_ HB.out⟩⟩
           ·rw [if_neg c29] at H
            have c29b0 : decide (t306 < (((rd_T24 t308 x11_2).f8).length : Int)) = false := decide_eq_false c29
            clear c29
            replace H := Option.bind_eq_some_iff.mp H
            obtain ⟨t326, A310, H⟩ := H
            (try dsimp only at H)
            have A31 := Aside0.mk A310; clear A310
            by_cases c32 : t326 = true
            ·subst c32
             rw [if_pos rfl] at H
             by_cases c33 : ((rd_T24 t308 x11_2).f5) = (wrap64 (t300 + (x9_2.length : Int)))
             ·rw [if_pos c33] at H
              have c33b0 : (((rd_T24 t308 x11_2).f5) == (wrap64 (t300 + (x9_2.length : Int)))) = true := beq_iff_eq.mpr c33
              have c33b1 : (((rd_T24 t308 x11_2).f5) != (wrap64 (t300 + (x9_2.length : Int)))) = false := bne_eq_false_iff_eq.mpr c33
              clear c33
              by_cases c34 : t301 = true
              ·subst c34
               rw [if_pos rfl] at H
               have H' := Aside0.mk H
               clear H
               try go_wp2
               replace HO_5 := Aside0.mk (Kd.N_drew HO_5.out); replace HO_9 := Aside0.mk (Kd.R_drew HO_9.out); replace HO_10 := Aside0.mk (Kd.N_drew HO_10.out); replace HO_308008 := Aside0.mk (Kd.R_drew HO_308008.out); replace BK307 := Aside0.mk (blk_drew BK307.out); replace HB := (bd_ HB)
               have p324 : 0 ≤ (x11_2 : Int) := of_decide_eq_true (by first | (with_reducible assumption) | assumption)
               have q324 : x11_2 < (t308.length : Int) := of_decide_eq_true (by first | (with_reducible assumption) | assumption)
               obtain ⟨ad324, A324_8, c324_8, e324, hx324_0, hx324_1, hx324_2, hx324_3, hx324_4, hx324_5, hx324_6, hx324_7, hx324_8, hl324_8, hi324_8⟩ := at_T24 (Kd.N_reads' HO_5.out).2.2 x11_2 p324 q324
               cases e324
               obtain ⟨ce324, hce324, hMe324, hcc324⟩ := Kd.N_get HO_5.out z24 x11_2 p324 (by first | exact q324 | exact of_decide_eq_true (by first | (with_reducible assumption) | assumption) | (have e_ := (Kd.N_reads' HO_5.out).1; omega))
               obtain ⟨ua324_8, uc324_8, rfl, ul324_8, ge324_8⟩ := k24_openF hMe324
               have hv324_8 := hcc324 8 _ rfl
               rw [add_field _ _ 8 (by omega)] at hv324_8
               replace hv324_8 := Option.some.inj (hv324_8.symm.trans hx324_8)
               injection hv324_8 with hva_ hvn_ hvc_
               rw [hva_] at ge324_8
               rw [hvc_] at ul324_8
               have HL324_8 := Aside0.mk (show Kd.V (Kd.int .u8) 5 _ w.heap.size _ _ ((rd_T24 t308 x11_2).f8) from Kd.V_mk ul324_8 ge324_8)
               clear hva_ hvn_ hvc_ ge324_8 ul324_8 hcc324 hce324; have HR324_8 := Aside0.mk hi324_8; have HC324_8 := Aside0.mk hl324_8; clear hi324_8 hl324_8
               replace p324 := eq_true p324
               replace q324 := eq_true q324
               have p325 : 0 ≤ (x11_2 : Int) := of_decide_eq_true (by first | (with_reducible assumption) | assumption)
               have q325 : x11_2 < (t308.length : Int) := of_decide_eq_true (by first | (with_reducible assumption) | assumption)
               obtain ⟨ad325, A325_8, c325_8, e325, hx325_0, hx325_1, hx325_2, hx325_3, hx325_4, hx325_5, hx325_6, hx325_7, hx325_8, hl325_8, hi325_8⟩ := at_T24 (Kd.N_reads' HO_5.out).2.2 x11_2 p325 q325
               obtain rfl : ad324 = ad325 := (by injection e325)
               obtain ⟨ce325, hce325, hMe325, hcc325⟩ := Kd.N_get HO_5.out z24 x11_2 p325 (by first | exact q325 | exact of_decide_eq_true (by first | (with_reducible assumption) | assumption) | (have e_ := (Kd.N_reads' HO_5.out).1; omega))
               obtain ⟨ua325_8, uc325_8, rfl, ul325_8, ge325_8⟩ := k24_openF hMe325
               have hv325_8 := hcc325 8 _ rfl
               rw [add_field _ _ 8 (by omega)] at hv325_8
               replace hv325_8 := Option.some.inj (hv325_8.symm.trans hx325_8)
               injection hv325_8 with hva_ hvn_ hvc_
               rw [hva_] at ge325_8
               rw [hvc_] at ul325_8
               have HL325_8 := Aside0.mk (show Kd.V (Kd.int .u8) 5 _ w.heap.size _ _ ((rd_T24 t308 x11_2).f8) from Kd.V_mk ul325_8 ge325_8)
               clear hva_ hvn_ hvc_ ge325_8 ul325_8 hcc325 hce325; have HR325_8 := Aside0.mk hi325_8; have HC325_8 := Aside0.mk hl325_8; clear hi325_8 hl325_8
               replace p325 := eq_true p325
               replace q325 := eq_true q325
               have ea_ := Option.some.inj (hx324_8.symm.trans hx325_8)
               injection ea_ with ea_ en_ ec_
               subst ea_; subst ec_; clear en_
               have p327 : 0 ≤ (x11_2 : Int) := of_decide_eq_true (by first | (with_reducible assumption) | assumption)
               have q327 : x11_2 < (t308.length : Int) := of_decide_eq_true (by first | (with_reducible assumption) | assumption)
               obtain ⟨ad327, A327_8, c327_8, e327, hx327_0, hx327_1, hx327_2, hx327_3, hx327_4, hx327_5, hx327_6, hx327_7, hx327_8, hl327_8, hi327_8⟩ := at_T24 (Kd.N_reads' HO_5.out).2.2 x11_2 p327 q327
               obtain rfl : ad324 = ad327 := (by injection e327)
               obtain ⟨ce327, hce327, hMe327, hcc327⟩ := Kd.N_get HO_5.out z24 x11_2 p327 (by first | exact q327 | exact of_decide_eq_true (by first | (with_reducible assumption) | assumption) | (have e_ := (Kd.N_reads' HO_5.out).1; omega))
               obtain ⟨ua327_8, uc327_8, rfl, ul327_8, ge327_8⟩ := k24_openF hMe327
               have hv327_8 := hcc327 8 _ rfl
               rw [add_field _ _ 8 (by omega)] at hv327_8
               replace hv327_8 := Option.some.inj (hv327_8.symm.trans hx327_8)
               injection hv327_8 with hva_ hvn_ hvc_
               rw [hva_] at ge327_8
               rw [hvc_] at ul327_8
               have HL327_8 := Aside0.mk (show Kd.V (Kd.int .u8) 5 _ w.heap.size _ _ ((rd_T24 t308 x11_2).f8) from Kd.V_mk ul327_8 ge327_8)
               clear hva_ hvn_ hvc_ ge327_8 ul327_8 hcc327 hce327; have HR327_8 := Aside0.mk hi327_8; have HC327_8 := Aside0.mk hl327_8; clear hi327_8 hl327_8
               replace p327 := eq_true p327
               replace q327 := eq_true q327
               have p328 : 0 ≤ (x11_2 : Int) := of_decide_eq_true (by first | (with_reducible assumption) | assumption)
               have q328 : x11_2 < (t308.length : Int) := of_decide_eq_true (by first | (with_reducible assumption) | assumption)
               obtain ⟨ad328, A328_8, c328_8, e328, hx328_0, hx328_1, hx328_2, hx328_3, hx328_4, hx328_5, hx328_6, hx328_7, hx328_8, hl328_8, hi328_8⟩ := at_T24 (Kd.N_reads' HO_5.out).2.2 x11_2 p328 q328
               obtain rfl : ad324 = ad328 := (by injection e328)
               obtain ⟨ce328, hce328, hMe328, hcc328⟩ := Kd.N_get HO_5.out z24 x11_2 p328 (by first | exact q328 | exact of_decide_eq_true (by first | (with_reducible assumption) | assumption) | (have e_ := (Kd.N_reads' HO_5.out).1; omega))
               obtain ⟨ua328_8, uc328_8, rfl, ul328_8, ge328_8⟩ := k24_openF hMe328
               have hv328_8 := hcc328 8 _ rfl
               rw [add_field _ _ 8 (by omega)] at hv328_8
               replace hv328_8 := Option.some.inj (hv328_8.symm.trans hx328_8)
               injection hv328_8 with hva_ hvn_ hvc_
               rw [hva_] at ge328_8
               rw [hvc_] at ul328_8
               have HL328_8 := Aside0.mk (show Kd.V (Kd.int .u8) 5 _ w.heap.size _ _ ((rd_T24 t308 x11_2).f8) from Kd.V_mk ul328_8 ge328_8)
               clear hva_ hvn_ hvc_ ge328_8 ul328_8 hcc328 hce328; have HR328_8 := Aside0.mk hi328_8; have HC328_8 := Aside0.mk hl328_8; clear hi328_8 hl328_8
               replace p328 := eq_true p328
               replace q328 := eq_true q328
               have ea_ := Option.some.inj (hx327_8.symm.trans hx328_8)
               injection ea_ with ea_ en_ ec_
               subst ea_; subst ec_; clear en_
               refine start_ (n := 46) (S := fun w' => w'.cell? ⟨gb307, 0, none⟩ = some (.int .i64 t295) ∧ w'.cell? ⟨gb307, 1, none⟩ = some (.int .i64 t296) ∧ w'.cell? ⟨gb307, 2, none⟩ = some (.int .i64 t297) ∧ w'.cell? ⟨gb307, 3, none⟩ = some (.int .i64 t298) ∧ w'.cell? ⟨gb307, 4, none⟩ = some (.int .i64 t299) ∧ w'.cell? ⟨gb307, 5, none⟩ = some (.int .i64 t300) ∧ w'.cell? ⟨gb307, 6, none⟩ = some (.bool true) ∧ w'.cell? ⟨gb307, 7, none⟩ = some (.bool t302) ∧ w'.cell? ⟨gb307, 8, none⟩ = some (.slice Ao10 t303.length co10) ∧ w'.cell? (ad324.add ((x11_2).toNat * 9)) = some (.int .i64 ((rd_T24 t308 x11_2).f0)) ∧ w'.cell? ⟨(ad324.add ((x11_2).toNat * 9)).block, (ad324.add ((x11_2).toNat * 9)).off + 1, none⟩ = some (.int .i64 ((rd_T24 t308 x11_2).f1)) ∧ w'.cell? ⟨(ad324.add ((x11_2).toNat * 9)).block, (ad324.add ((x11_2).toNat * 9)).off + 2, none⟩ = some (.int .i64 ((rd_T24 t308 x11_2).f2)) ∧ w'.cell? ⟨(ad324.add ((x11_2).toNat * 9)).block, (ad324.add ((x11_2).toNat * 9)).off + 3, none⟩ = some (.int .i64 ((rd_T24 t308 x11_2).f3)) ∧ w'.cell? ⟨(ad324.add ((x11_2).toNat * 9)).block, (ad324.add ((x11_2).toNat * 9)).off + 4, none⟩ = some (.int .i64 ((rd_T24 t308 x11_2).f4)) ∧ w'.cell? ⟨(ad324.add ((x11_2).toNat * 9)).block, (ad324.add ((x11_2).toNat * 9)).off + 5, none⟩ = some (.int .i64 ((rd_T24 t308 x11_2).f5)) ∧ w'.cell? ⟨(ad324.add ((x11_2).toNat * 9)).block, (ad324.add ((x11_2).toNat * 9)).off + 6, none⟩ = some (.bool ((rd_T24 t308 x11_2).f6)) ∧ w'.cell? ⟨(ad324.add ((x11_2).toNat * 9)).block, (ad324.add ((x11_2).toNat * 9)).off + 7, none⟩ = some (.bool ((rd_T24 t308 x11_2).f7)) ∧ w'.cell? ⟨(ad324.add ((x11_2).toNat * 9)).block, (ad324.add ((x11_2).toNat * 9)).off + 8, none⟩ = some (.slice A324_8 ((rd_T24 t308 x11_2).f8).length c324_8) ∧ w'.cell? (ad324.add ((x11_2).toNat * 9)) = some (.int .i64 ((rd_T24 t308 x11_2).f0)) ∧ w'.cell? ⟨(ad324.add ((x11_2).toNat * 9)).block, (ad324.add ((x11_2).toNat * 9)).off + 1, none⟩ = some (.int .i64 ((rd_T24 t308 x11_2).f1)) ∧ w'.cell? ⟨(ad324.add ((x11_2).toNat * 9)).block, (ad324.add ((x11_2).toNat * 9)).off + 2, none⟩ = some (.int .i64 ((rd_T24 t308 x11_2).f2)) ∧ w'.cell? ⟨(ad324.add ((x11_2).toNat * 9)).block, (ad324.add ((x11_2).toNat * 9)).off + 3, none⟩ = some (.int .i64 ((rd_T24 t308 x11_2).f3)) ∧ w'.cell? ⟨(ad324.add ((x11_2).toNat * 9)).block, (ad324.add ((x11_2).toNat * 9)).off + 4, none⟩ = some (.int .i64 ((rd_T24 t308 x11_2).f4)) ∧ w'.cell? ⟨(ad324.add ((x11_2).toNat * 9)).block, (ad324.add ((x11_2).toNat * 9)).off + 5, none⟩ = some (.int .i64 ((rd_T24 t308 x11_2).f5)) ∧ w'.cell? ⟨(ad324.add ((x11_2).toNat * 9)).block, (ad324.add ((x11_2).toNat * 9)).off + 6, none⟩ = some (.bool ((rd_T24 t308 x11_2).f6)) ∧ w'.cell? ⟨(ad324.add ((x11_2).toNat * 9)).block, (ad324.add ((x11_2).toNat * 9)).off + 7, none⟩ = some (.bool ((rd_T24 t308 x11_2).f7)) ∧ w'.cell? ⟨(ad324.add ((x11_2).toNat * 9)).block, (ad324.add ((x11_2).toNat * 9)).off + 8, none⟩ = some (.slice A324_8 ((rd_T24 t308 x11_2).f8).length c324_8) ∧ w'.cell? (ad324.add ((x11_2).toNat * 9)) = some (.int .i64 ((rd_T24 t308 x11_2).f0)) ∧ w'.cell? ⟨(ad324.add ((x11_2).toNat * 9)).block, (ad324.add ((x11_2).toNat * 9)).off + 1, none⟩ = some (.int .i64 ((rd_T24 t308 x11_2).f1)) ∧ w'.cell? ⟨(ad324.add ((x11_2).toNat * 9)).block, (ad324.add ((x11_2).toNat * 9)).off + 2, none⟩ = some (.int .i64 ((rd_T24 t308 x11_2).f2)) ∧ w'.cell? ⟨(ad324.add ((x11_2).toNat * 9)).block, (ad324.add ((x11_2).toNat * 9)).off + 3, none⟩ = some (.int .i64 ((rd_T24 t308 x11_2).f3)) ∧ w'.cell? ⟨(ad324.add ((x11_2).toNat * 9)).block, (ad324.add ((x11_2).toNat * 9)).off + 4, none⟩ = some (.int .i64 ((rd_T24 t308 x11_2).f4)) ∧ w'.cell? ⟨(ad324.add ((x11_2).toNat * 9)).block, (ad324.add ((x11_2).toNat * 9)).off + 5, none⟩ = some (.int .i64 ((rd_T24 t308 x11_2).f5)) ∧ w'.cell? ⟨(ad324.add ((x11_2).toNat * 9)).block, (ad324.add ((x11_2).toNat * 9)).off + 6, none⟩ = some (.bool ((rd_T24 t308 x11_2).f6)) ∧ w'.cell? ⟨(ad324.add ((x11_2).toNat * 9)).block, (ad324.add ((x11_2).toNat * 9)).off + 7, none⟩ = some (.bool ((rd_T24 t308 x11_2).f7)) ∧ w'.cell? ⟨(ad324.add ((x11_2).toNat * 9)).block, (ad324.add ((x11_2).toNat * 9)).off + 8, none⟩ = some (.slice A327_8 ((rd_T24 t308 x11_2).f8).length c327_8) ∧ w'.cell? (ad324.add ((x11_2).toNat * 9)) = some (.int .i64 ((rd_T24 t308 x11_2).f0)) ∧ w'.cell? ⟨(ad324.add ((x11_2).toNat * 9)).block, (ad324.add ((x11_2).toNat * 9)).off + 1, none⟩ = some (.int .i64 ((rd_T24 t308 x11_2).f1)) ∧ w'.cell? ⟨(ad324.add ((x11_2).toNat * 9)).block, (ad324.add ((x11_2).toNat * 9)).off + 2, none⟩ = some (.int .i64 ((rd_T24 t308 x11_2).f2)) ∧ w'.cell? ⟨(ad324.add ((x11_2).toNat * 9)).block, (ad324.add ((x11_2).toNat * 9)).off + 3, none⟩ = some (.int .i64 ((rd_T24 t308 x11_2).f3)) ∧ w'.cell? ⟨(ad324.add ((x11_2).toNat * 9)).block, (ad324.add ((x11_2).toNat * 9)).off + 4, none⟩ = some (.int .i64 ((rd_T24 t308 x11_2).f4)) ∧ w'.cell? ⟨(ad324.add ((x11_2).toNat * 9)).block, (ad324.add ((x11_2).toNat * 9)).off + 5, none⟩ = some (.int .i64 ((rd_T24 t308 x11_2).f5)) ∧ w'.cell? ⟨(ad324.add ((x11_2).toNat * 9)).block, (ad324.add ((x11_2).toNat * 9)).off + 6, none⟩ = some (.bool ((rd_T24 t308 x11_2).f6)) ∧ w'.cell? ⟨(ad324.add ((x11_2).toNat * 9)).block, (ad324.add ((x11_2).toNat * 9)).off + 7, none⟩ = some (.bool ((rd_T24 t308 x11_2).f7)) ∧ w'.cell? ⟨(ad324.add ((x11_2).toNat * 9)).block, (ad324.add ((x11_2).toNat * 9)).off + 8, none⟩ = some (.slice A327_8 ((rd_T24 t308 x11_2).f8).length c327_8)) (ds := []) #[false, false, false, false, false, false, false, false, false, false, false, false, false, false, false, false, false, false, false, false, false, false, false, false, false, false, false, false, false, false, false, false, false, false, false, false, false, false, false, false, false, false, false, false, false, false] (by kernel_rfl) rfl rfl ⟨bc_ BK307 0, bc_ BK307 1, bc_ BK307 2, bc_ BK307 3, bc_ BK307 4, bc_ BK307 5, bc_ BK307 6, bc_ BK307 7, bc_ BK307 8, hx324_0, hx324_1, hx324_2, hx324_3, hx324_4, hx324_5, hx324_6, hx324_7, hx324_8, hx325_0, hx325_1, hx325_2, hx325_3, hx325_4, hx325_5, hx325_6, hx325_7, hx325_8, hx327_0, hx327_1, hx327_2, hx327_3, hx327_4, hx327_5, hx327_6, hx327_7, hx327_8, hx328_0, hx328_1, hx328_2, hx328_3, hx328_4, hx328_5, hx328_6, hx328_7, hx328_8⟩ (fun hHeld => ?_); refine with_tabW laws_FnPacketCut.tab15 laws_FnPacketCut.bits15 (fun HT_ HW_ => ?_)
               generalize wr.drew = w35 at HO_5 HO_9 HO_10 HO_308008 BK307 HB HL324_8 HL325_8 HL327_8 HL328_8 HR324_8 HR325_8 HR327_8 HR328_8 hx324_0 hx324_1 hx324_2 hx324_3 hx324_4 hx324_5 hx324_6 hx324_7 hx324_8 hx325_0 hx325_1 hx325_2 hx325_3 hx325_4 hx325_5 hx325_6 hx325_7 hx325_8 hx327_0 hx327_1 hx327_2 hx327_3 hx327_4 hx327_5 hx327_6 hx327_7 hx327_8 hx328_0 hx328_1 hx328_2 hx328_3 hx328_4 hx328_5 hx328_6 hx328_7 hx328_8 hHeld ⊢
               refine pu_ (i := 0) (N := some 61) HT_ ?_; refine pu_ (i := 1) (N := some 62) HT_ ?_; refine pu_ (i := 2) (N := some 63) HT_ ?_; refine pu_ (i := 3) (N := some 64) HT_ ?_; refine pu_ (i := 6) (N := some 67) HT_ ?_; refine tk_ (i := 4) (N := some 65) HT_ HW_ hHeld ?_; refine pu_ (i := 5) (N := some 66) HT_ ?_; refine pu_ (i := 7) (N := some 68) HT_ ?_; refine pu_ (i := 8) (N := some 69) HT_ ?_; refine pu_ (i := 9) (N := some 70) HT_ ?_; refine pu_ (i := 10) (N := some 71) HT_ ?_; refine pu_ (i := 11) (N := some 72) HT_ ?_; refine tk_ (i := 12) (N := some 73) HT_ HW_ hHeld ?_
               refine on_ (i := 13) (N := some 74) HT_ (fun K hK => ?_)
               refine goes_ Try.func14 (by kernel_rfl) rfl #[.agg #[.int .i64 ((rd_T24 t308 x11_2).f0), .int .i64 ((rd_T24 t308 x11_2).f1), .int .i64 ((rd_T24 t308 x11_2).f2), .int .i64 ((rd_T24 t308 x11_2).f3), .int .i64 ((rd_T24 t308 x11_2).f4), .int .i64 ((rd_T24 t308 x11_2).f5), .bool ((rd_T24 t308 x11_2).f6), .bool ((rd_T24 t308 x11_2).f7), .slice A324_8 ((rd_T24 t308 x11_2).f8).length c324_8]] (by rfl) rfl rfl ar_ ?_
               with_reducible refine (impl_PacketOk.calls ((rd_T24 t308 x11_2).f0) ((rd_T24 t308 x11_2).f1) ((rd_T24 t308 x11_2).f2) ((rd_T24 t308 x11_2).f3) ((rd_T24 t308 x11_2).f4) ((rd_T24 t308 x11_2).f5) ((rd_T24 t308 x11_2).f6) ((rd_T24 t308 x11_2).f7) _ _ ((rd_T24 t308 x11_2).f8) true _ ?side1 ?side2 A31.out).mono ?_
               (case side1 => exact kC_ (by repeat (first | (with_reducible exact HR325_8.out) | (with_reducible exact Kd.C_drewN HR325_8.out _) | (with_reducible refine Kd.C_alloc ?_ _) | (with_reducible refine Kd.C_drewN ?_ _) | (with_reducible refine Kd.C_drew ?_) | exact HR325_8.out)))
               (case side2 => exact HC325_8.out)
               rintro e w36 ⟨rfl, hb⟩
               have HS9_ := (hb.cell (World.block_lt_of_cell? _ _ (hHeld.2.2.2.2.2.2.2.2.2.1))).trans (hHeld.2.2.2.2.2.2.2.2.2.1)
               have HS10_ := (hb.cell (World.block_lt_of_cell? _ _ (hHeld.2.2.2.2.2.2.2.2.2.2.1))).trans (hHeld.2.2.2.2.2.2.2.2.2.2.1)
               have HS11_ := (hb.cell (World.block_lt_of_cell? _ _ (hHeld.2.2.2.2.2.2.2.2.2.2.2.1))).trans (hHeld.2.2.2.2.2.2.2.2.2.2.2.1)
               have HS12_ := (hb.cell (World.block_lt_of_cell? _ _ (hHeld.2.2.2.2.2.2.2.2.2.2.2.2.1))).trans (hHeld.2.2.2.2.2.2.2.2.2.2.2.2.1)
               have HS13_ := (hb.cell (World.block_lt_of_cell? _ _ (hHeld.2.2.2.2.2.2.2.2.2.2.2.2.2.1))).trans (hHeld.2.2.2.2.2.2.2.2.2.2.2.2.2.1)
               have HS14_ := (hb.cell (World.block_lt_of_cell? _ _ (hHeld.2.2.2.2.2.2.2.2.2.2.2.2.2.2.1))).trans (hHeld.2.2.2.2.2.2.2.2.2.2.2.2.2.2.1)
               have HS15_ := (hb.cell (World.block_lt_of_cell? _ _ (hHeld.2.2.2.2.2.2.2.2.2.2.2.2.2.2.2.1))).trans (hHeld.2.2.2.2.2.2.2.2.2.2.2.2.2.2.2.1)
               have HS16_ := (hb.cell (World.block_lt_of_cell? _ _ (hHeld.2.2.2.2.2.2.2.2.2.2.2.2.2.2.2.2.1))).trans (hHeld.2.2.2.2.2.2.2.2.2.2.2.2.2.2.2.2.1)
               have HS17_ := (hb.cell (World.block_lt_of_cell? _ _ (hHeld.2.2.2.2.2.2.2.2.2.2.2.2.2.2.2.2.2.1))).trans (hHeld.2.2.2.2.2.2.2.2.2.2.2.2.2.2.2.2.2.1)
               have HS18_ := (hb.cell (World.block_lt_of_cell? _ _ (hHeld.2.2.2.2.2.2.2.2.2.2.2.2.2.2.2.2.2.2.1))).trans (hHeld.2.2.2.2.2.2.2.2.2.2.2.2.2.2.2.2.2.2.1)
               have HS19_ := (hb.cell (World.block_lt_of_cell? _ _ (hHeld.2.2.2.2.2.2.2.2.2.2.2.2.2.2.2.2.2.2.2.1))).trans (hHeld.2.2.2.2.2.2.2.2.2.2.2.2.2.2.2.2.2.2.2.1)
               have HS20_ := (hb.cell (World.block_lt_of_cell? _ _ (hHeld.2.2.2.2.2.2.2.2.2.2.2.2.2.2.2.2.2.2.2.2.1))).trans (hHeld.2.2.2.2.2.2.2.2.2.2.2.2.2.2.2.2.2.2.2.2.1)
               have HS21_ := (hb.cell (World.block_lt_of_cell? _ _ (hHeld.2.2.2.2.2.2.2.2.2.2.2.2.2.2.2.2.2.2.2.2.2.1))).trans (hHeld.2.2.2.2.2.2.2.2.2.2.2.2.2.2.2.2.2.2.2.2.2.1)
               have HS22_ := (hb.cell (World.block_lt_of_cell? _ _ (hHeld.2.2.2.2.2.2.2.2.2.2.2.2.2.2.2.2.2.2.2.2.2.2.1))).trans (hHeld.2.2.2.2.2.2.2.2.2.2.2.2.2.2.2.2.2.2.2.2.2.2.1)
               have HS23_ := (hb.cell (World.block_lt_of_cell? _ _ (hHeld.2.2.2.2.2.2.2.2.2.2.2.2.2.2.2.2.2.2.2.2.2.2.2.1))).trans (hHeld.2.2.2.2.2.2.2.2.2.2.2.2.2.2.2.2.2.2.2.2.2.2.2.1)
               have HS24_ := (hb.cell (World.block_lt_of_cell? _ _ (hHeld.2.2.2.2.2.2.2.2.2.2.2.2.2.2.2.2.2.2.2.2.2.2.2.2.1))).trans (hHeld.2.2.2.2.2.2.2.2.2.2.2.2.2.2.2.2.2.2.2.2.2.2.2.2.1)
               have HS25_ := (hb.cell (World.block_lt_of_cell? _ _ (hHeld.2.2.2.2.2.2.2.2.2.2.2.2.2.2.2.2.2.2.2.2.2.2.2.2.2.1))).trans (hHeld.2.2.2.2.2.2.2.2.2.2.2.2.2.2.2.2.2.2.2.2.2.2.2.2.2.1)
               have HS26_ := (hb.cell (World.block_lt_of_cell? _ _ (hHeld.2.2.2.2.2.2.2.2.2.2.2.2.2.2.2.2.2.2.2.2.2.2.2.2.2.2.1))).trans (hHeld.2.2.2.2.2.2.2.2.2.2.2.2.2.2.2.2.2.2.2.2.2.2.2.2.2.2.1)
               have HS27_ := (hb.cell (World.block_lt_of_cell? _ _ (hHeld.2.2.2.2.2.2.2.2.2.2.2.2.2.2.2.2.2.2.2.2.2.2.2.2.2.2.2.1))).trans (hHeld.2.2.2.2.2.2.2.2.2.2.2.2.2.2.2.2.2.2.2.2.2.2.2.2.2.2.2.1)
               have HS28_ := (hb.cell (World.block_lt_of_cell? _ _ (hHeld.2.2.2.2.2.2.2.2.2.2.2.2.2.2.2.2.2.2.2.2.2.2.2.2.2.2.2.2.1))).trans (hHeld.2.2.2.2.2.2.2.2.2.2.2.2.2.2.2.2.2.2.2.2.2.2.2.2.2.2.2.2.1)
               have HS29_ := (hb.cell (World.block_lt_of_cell? _ _ (hHeld.2.2.2.2.2.2.2.2.2.2.2.2.2.2.2.2.2.2.2.2.2.2.2.2.2.2.2.2.2.1))).trans (hHeld.2.2.2.2.2.2.2.2.2.2.2.2.2.2.2.2.2.2.2.2.2.2.2.2.2.2.2.2.2.1)
               have HS30_ := (hb.cell (World.block_lt_of_cell? _ _ (hHeld.2.2.2.2.2.2.2.2.2.2.2.2.2.2.2.2.2.2.2.2.2.2.2.2.2.2.2.2.2.2.1))).trans (hHeld.2.2.2.2.2.2.2.2.2.2.2.2.2.2.2.2.2.2.2.2.2.2.2.2.2.2.2.2.2.2.1)
               have HS31_ := (hb.cell (World.block_lt_of_cell? _ _ (hHeld.2.2.2.2.2.2.2.2.2.2.2.2.2.2.2.2.2.2.2.2.2.2.2.2.2.2.2.2.2.2.2.1))).trans (hHeld.2.2.2.2.2.2.2.2.2.2.2.2.2.2.2.2.2.2.2.2.2.2.2.2.2.2.2.2.2.2.2.1)
               have HS32_ := (hb.cell (World.block_lt_of_cell? _ _ (hHeld.2.2.2.2.2.2.2.2.2.2.2.2.2.2.2.2.2.2.2.2.2.2.2.2.2.2.2.2.2.2.2.2.1))).trans (hHeld.2.2.2.2.2.2.2.2.2.2.2.2.2.2.2.2.2.2.2.2.2.2.2.2.2.2.2.2.2.2.2.2.1)
               have HS33_ := (hb.cell (World.block_lt_of_cell? _ _ (hHeld.2.2.2.2.2.2.2.2.2.2.2.2.2.2.2.2.2.2.2.2.2.2.2.2.2.2.2.2.2.2.2.2.2.1))).trans (hHeld.2.2.2.2.2.2.2.2.2.2.2.2.2.2.2.2.2.2.2.2.2.2.2.2.2.2.2.2.2.2.2.2.2.1)
               have HS34_ := (hb.cell (World.block_lt_of_cell? _ _ (hHeld.2.2.2.2.2.2.2.2.2.2.2.2.2.2.2.2.2.2.2.2.2.2.2.2.2.2.2.2.2.2.2.2.2.2.1))).trans (hHeld.2.2.2.2.2.2.2.2.2.2.2.2.2.2.2.2.2.2.2.2.2.2.2.2.2.2.2.2.2.2.2.2.2.2.1)
               have HS35_ := (hb.cell (World.block_lt_of_cell? _ _ (hHeld.2.2.2.2.2.2.2.2.2.2.2.2.2.2.2.2.2.2.2.2.2.2.2.2.2.2.2.2.2.2.2.2.2.2.2.1))).trans (hHeld.2.2.2.2.2.2.2.2.2.2.2.2.2.2.2.2.2.2.2.2.2.2.2.2.2.2.2.2.2.2.2.2.2.2.2.1)
               have HS36_ := (hb.cell (World.block_lt_of_cell? _ _ (hHeld.2.2.2.2.2.2.2.2.2.2.2.2.2.2.2.2.2.2.2.2.2.2.2.2.2.2.2.2.2.2.2.2.2.2.2.2.1))).trans (hHeld.2.2.2.2.2.2.2.2.2.2.2.2.2.2.2.2.2.2.2.2.2.2.2.2.2.2.2.2.2.2.2.2.2.2.2.2.1)
               have HS37_ := (hb.cell (World.block_lt_of_cell? _ _ (hHeld.2.2.2.2.2.2.2.2.2.2.2.2.2.2.2.2.2.2.2.2.2.2.2.2.2.2.2.2.2.2.2.2.2.2.2.2.2.1))).trans (hHeld.2.2.2.2.2.2.2.2.2.2.2.2.2.2.2.2.2.2.2.2.2.2.2.2.2.2.2.2.2.2.2.2.2.2.2.2.2.1)
               have HS38_ := (hb.cell (World.block_lt_of_cell? _ _ (hHeld.2.2.2.2.2.2.2.2.2.2.2.2.2.2.2.2.2.2.2.2.2.2.2.2.2.2.2.2.2.2.2.2.2.2.2.2.2.2.1))).trans (hHeld.2.2.2.2.2.2.2.2.2.2.2.2.2.2.2.2.2.2.2.2.2.2.2.2.2.2.2.2.2.2.2.2.2.2.2.2.2.2.1)
               have HS39_ := (hb.cell (World.block_lt_of_cell? _ _ (hHeld.2.2.2.2.2.2.2.2.2.2.2.2.2.2.2.2.2.2.2.2.2.2.2.2.2.2.2.2.2.2.2.2.2.2.2.2.2.2.2.1))).trans (hHeld.2.2.2.2.2.2.2.2.2.2.2.2.2.2.2.2.2.2.2.2.2.2.2.2.2.2.2.2.2.2.2.2.2.2.2.2.2.2.2.1)
               have HS40_ := (hb.cell (World.block_lt_of_cell? _ _ (hHeld.2.2.2.2.2.2.2.2.2.2.2.2.2.2.2.2.2.2.2.2.2.2.2.2.2.2.2.2.2.2.2.2.2.2.2.2.2.2.2.2.1))).trans (hHeld.2.2.2.2.2.2.2.2.2.2.2.2.2.2.2.2.2.2.2.2.2.2.2.2.2.2.2.2.2.2.2.2.2.2.2.2.2.2.2.2.1)
               have HS41_ := (hb.cell (World.block_lt_of_cell? _ _ (hHeld.2.2.2.2.2.2.2.2.2.2.2.2.2.2.2.2.2.2.2.2.2.2.2.2.2.2.2.2.2.2.2.2.2.2.2.2.2.2.2.2.2.1))).trans (hHeld.2.2.2.2.2.2.2.2.2.2.2.2.2.2.2.2.2.2.2.2.2.2.2.2.2.2.2.2.2.2.2.2.2.2.2.2.2.2.2.2.2.1)
               have HS42_ := (hb.cell (World.block_lt_of_cell? _ _ (hHeld.2.2.2.2.2.2.2.2.2.2.2.2.2.2.2.2.2.2.2.2.2.2.2.2.2.2.2.2.2.2.2.2.2.2.2.2.2.2.2.2.2.2.1))).trans (hHeld.2.2.2.2.2.2.2.2.2.2.2.2.2.2.2.2.2.2.2.2.2.2.2.2.2.2.2.2.2.2.2.2.2.2.2.2.2.2.2.2.2.2.1)
               have HS43_ := (hb.cell (World.block_lt_of_cell? _ _ (hHeld.2.2.2.2.2.2.2.2.2.2.2.2.2.2.2.2.2.2.2.2.2.2.2.2.2.2.2.2.2.2.2.2.2.2.2.2.2.2.2.2.2.2.2.1))).trans (hHeld.2.2.2.2.2.2.2.2.2.2.2.2.2.2.2.2.2.2.2.2.2.2.2.2.2.2.2.2.2.2.2.2.2.2.2.2.2.2.2.2.2.2.2.1)
               have HS44_ := (hb.cell (World.block_lt_of_cell? _ _ (hHeld.2.2.2.2.2.2.2.2.2.2.2.2.2.2.2.2.2.2.2.2.2.2.2.2.2.2.2.2.2.2.2.2.2.2.2.2.2.2.2.2.2.2.2.2))).trans (hHeld.2.2.2.2.2.2.2.2.2.2.2.2.2.2.2.2.2.2.2.2.2.2.2.2.2.2.2.2.2.2.2.2.2.2.2.2.2.2.2.2.2.2.2.2)
               refine ⟨_, rfl, ?_⟩
               replace HO_5 := Aside0.mk (Kd.N_below (kN_ HO_5.out) hb); replace HO_9 := Aside0.mk (Kd.R_below (kR_ HO_9.out) hb); replace HO_10 := Aside0.mk (Kd.N_below (kN_ HO_10.out) hb); replace HO_308008 := Aside0.mk (Kd.R_below (kR_ HO_308008.out) hb); replace HL324_8 := Aside0.mk (Kd.V_below (kV_ HL324_8.out) hb); replace HL325_8 := Aside0.mk (Kd.V_below (kV_ HL325_8.out) hb); replace BK307 := (bbA_ BK307 hb); replace HR324_8 := Aside0.mk (Kd.C_below (by repeat (first | (with_reducible exact HR324_8.out) | (with_reducible exact Kd.C_drewN HR324_8.out _) | (with_reducible refine Kd.C_alloc ?_ _) | (with_reducible refine Kd.C_drewN ?_ _) | (with_reducible refine Kd.C_drew ?_) | exact HR324_8.out)) hb); replace HR325_8 := Aside0.mk (Kd.C_below (by repeat (first | (with_reducible exact HR325_8.out) | (with_reducible exact Kd.C_drewN HR325_8.out _) | (with_reducible refine Kd.C_alloc ?_ _) | (with_reducible refine Kd.C_drewN ?_ _) | (with_reducible refine Kd.C_drew ?_) | exact HR325_8.out)) hb); replace HB := (bs_ HB hb); (try clear hb); (try clear hb2); (try clear hk); (try clear hi)
               obtain ⟨Ao37, co37, eo37⟩ := Kd.R_slice HO_9.out
               (first | subst eo37 | (injection eo37 with f1_ f2_ f3_; have f4_ := f1_.symm; have f5_ := f3_.symm; clear f1_ f2_ f3_; subst f4_; subst f5_))
               refine hK.out _ _ ⟨bc_ BK307 0, bc_ BK307 1, bc_ BK307 2, bc_ BK307 3, bc_ BK307 4, bc_ BK307 5, bc_ BK307 6, bc_ BK307 7, bc_ BK307 8, HS9_, HS10_, HS11_, HS12_, HS13_, HS14_, HS15_, HS16_, HS17_, HS18_, HS19_, HS20_, HS21_, HS22_, HS23_, HS24_, HS25_, HS26_, HS27_, HS28_, HS29_, HS30_, HS31_, HS32_, HS33_, HS34_, HS35_, HS36_, HS37_, HS38_, HS39_, HS40_, HS41_, HS42_, HS43_, HS44_⟩ (fun hHeld => ?_)
               clear hK K; refine nm_ 74 ?_; refine pu_ (i := 14) (N := some 75) HT_ ?_; refine pu_ (i := 15) (N := some 76) HT_ ?_; refine pu_ (i := 16) (N := some 77) HT_ ?_; refine pu_ (i := 17) (N := some 78) HT_ ?_; refine pu_ (i := 18) (N := some 79) HT_ ?_; refine pu_ (i := 19) (N := some 80) HT_ ?_; refine pu_ (i := 20) (N := some 81) HT_ ?_; refine pu_ (i := 22) (N := some 83) HT_ ?_; refine pu_ (i := 24) (N := some 85) HT_ ?_; refine pu_ (i := 25) (N := some 86) HT_ ?_; refine tk_ (i := 21) (N := some 82) HT_ HW_ hHeld ?_; refine tk_ (i := 23) (N := some 84) HT_ HW_ hHeld ?_; refine pu_ (i := 26) (N := some 87) HT_ ?_; refine pu_ (i := 27) (N := some 88) HT_ ?_; refine pu_ (i := 28) (N := some 89) HT_ ?_; refine pu_ (i := 29) (N := some 90) HT_ ?_; refine pu_ (i := 30) (N := some 91) HT_ ?_; refine pu_ (i := 31) (N := some 92) HT_ ?_; refine pu_ (i := 32) (N := some 93) HT_ ?_; refine pu_ (i := 33) (N := some 94) HT_ ?_; refine pu_ (i := 35) (N := some 96) HT_ ?_; refine tk_ (i := 34) (N := some 95) HT_ HW_ hHeld ?_; refine tk_ (i := 36) (N := some 97) HT_ HW_ hHeld ?_; refine pu_ (i := 37) (N := some 98) HT_ ?_; refine pn_ (i := 38) (N := some 99) HT_ ?_; refine pn_ (i := 39) (N := some 100) HT_ ?_; refine pn_ (i := 40) (N := some 101) HT_ ?_; refine pn_ (i := 41) (N := some 102) HT_ ?_; refine pn_ (i := 42) (N := some 103) HT_ ?_; refine pu_ (i := 43) (N := some 104) HT_ ?_; refine pu_ (i := 44) (N := some 105) HT_ ?_; refine pu_ (i := 45) (N := some 106) HT_ ?_
               refine done_ (done_of HT_.out (by kernel_rfl)) ?_
               try go_wp2
               go_meet
               case rel => exact ⟨_, ((((rd_T24 t308 x11_2).f6) != true)), (by first | rfl | (simp; done) | (simp [*]; done)), H', ⟨by have := HJ5.out; have := HK2.out; first | omega | exact Nat.le_refl _⟩, ⟨by refine kN_ ?_; exact HO_5.out⟩, ⟨kR_ HO_9.out⟩, ⟨by refine kN_ ?_; exact HO_10.out⟩, ⟨kR_ HO_308008.out⟩, ⟨by refine kb_ ?_; exact BK307.out⟩, ⟨hbA_ HB.out⟩⟩
              ·replace c34 := Bool.eq_false_iff.mpr c34
               subst c34
               rw [if_neg (show ¬ (false = true) by decide)] at H
               have H' := Aside0.mk H
               clear H
               try go_wp2
               replace HO_5 := Aside0.mk (Kd.N_drew HO_5.out); replace HO_9 := Aside0.mk (Kd.R_drew HO_9.out); replace HO_10 := Aside0.mk (Kd.N_drew HO_10.out); replace HO_308008 := Aside0.mk (Kd.R_drew HO_308008.out); replace BK307 := Aside0.mk (blk_drew BK307.out); replace HB := (bd_ HB)
               have p324 : 0 ≤ (x11_2 : Int) := of_decide_eq_true (by first | (with_reducible assumption) | assumption)
               have q324 : x11_2 < (t308.length : Int) := of_decide_eq_true (by first | (with_reducible assumption) | assumption)
               obtain ⟨ad324, A324_8, c324_8, e324, hx324_0, hx324_1, hx324_2, hx324_3, hx324_4, hx324_5, hx324_6, hx324_7, hx324_8, hl324_8, hi324_8⟩ := at_T24 (Kd.N_reads' HO_5.out).2.2 x11_2 p324 q324
               cases e324
               obtain ⟨ce324, hce324, hMe324, hcc324⟩ := Kd.N_get HO_5.out z24 x11_2 p324 (by first | exact q324 | exact of_decide_eq_true (by first | (with_reducible assumption) | assumption) | (have e_ := (Kd.N_reads' HO_5.out).1; omega))
               obtain ⟨ua324_8, uc324_8, rfl, ul324_8, ge324_8⟩ := k24_openF hMe324
               have hv324_8 := hcc324 8 _ rfl
               rw [add_field _ _ 8 (by omega)] at hv324_8
               replace hv324_8 := Option.some.inj (hv324_8.symm.trans hx324_8)
               injection hv324_8 with hva_ hvn_ hvc_
               rw [hva_] at ge324_8
               rw [hvc_] at ul324_8
               have HL324_8 := Aside0.mk (show Kd.V (Kd.int .u8) 5 _ w.heap.size _ _ ((rd_T24 t308 x11_2).f8) from Kd.V_mk ul324_8 ge324_8)
               clear hva_ hvn_ hvc_ ge324_8 ul324_8 hcc324 hce324; have HR324_8 := Aside0.mk hi324_8; have HC324_8 := Aside0.mk hl324_8; clear hi324_8 hl324_8
               replace p324 := eq_true p324
               replace q324 := eq_true q324
               have p325 : 0 ≤ (x11_2 : Int) := of_decide_eq_true (by first | (with_reducible assumption) | assumption)
               have q325 : x11_2 < (t308.length : Int) := of_decide_eq_true (by first | (with_reducible assumption) | assumption)
               obtain ⟨ad325, A325_8, c325_8, e325, hx325_0, hx325_1, hx325_2, hx325_3, hx325_4, hx325_5, hx325_6, hx325_7, hx325_8, hl325_8, hi325_8⟩ := at_T24 (Kd.N_reads' HO_5.out).2.2 x11_2 p325 q325
               obtain rfl : ad324 = ad325 := (by injection e325)
               obtain ⟨ce325, hce325, hMe325, hcc325⟩ := Kd.N_get HO_5.out z24 x11_2 p325 (by first | exact q325 | exact of_decide_eq_true (by first | (with_reducible assumption) | assumption) | (have e_ := (Kd.N_reads' HO_5.out).1; omega))
               obtain ⟨ua325_8, uc325_8, rfl, ul325_8, ge325_8⟩ := k24_openF hMe325
               have hv325_8 := hcc325 8 _ rfl
               rw [add_field _ _ 8 (by omega)] at hv325_8
               replace hv325_8 := Option.some.inj (hv325_8.symm.trans hx325_8)
               injection hv325_8 with hva_ hvn_ hvc_
               rw [hva_] at ge325_8
               rw [hvc_] at ul325_8
               have HL325_8 := Aside0.mk (show Kd.V (Kd.int .u8) 5 _ w.heap.size _ _ ((rd_T24 t308 x11_2).f8) from Kd.V_mk ul325_8 ge325_8)
               clear hva_ hvn_ hvc_ ge325_8 ul325_8 hcc325 hce325; have HR325_8 := Aside0.mk hi325_8; have HC325_8 := Aside0.mk hl325_8; clear hi325_8 hl325_8
               replace p325 := eq_true p325
               replace q325 := eq_true q325
               have ea_ := Option.some.inj (hx324_8.symm.trans hx325_8)
               injection ea_ with ea_ en_ ec_
               subst ea_; subst ec_; clear en_
               have p327 : 0 ≤ (x11_2 : Int) := of_decide_eq_true (by first | (with_reducible assumption) | assumption)
               have q327 : x11_2 < (t308.length : Int) := of_decide_eq_true (by first | (with_reducible assumption) | assumption)
               obtain ⟨ad327, A327_8, c327_8, e327, hx327_0, hx327_1, hx327_2, hx327_3, hx327_4, hx327_5, hx327_6, hx327_7, hx327_8, hl327_8, hi327_8⟩ := at_T24 (Kd.N_reads' HO_5.out).2.2 x11_2 p327 q327
               obtain rfl : ad324 = ad327 := (by injection e327)
               obtain ⟨ce327, hce327, hMe327, hcc327⟩ := Kd.N_get HO_5.out z24 x11_2 p327 (by first | exact q327 | exact of_decide_eq_true (by first | (with_reducible assumption) | assumption) | (have e_ := (Kd.N_reads' HO_5.out).1; omega))
               obtain ⟨ua327_8, uc327_8, rfl, ul327_8, ge327_8⟩ := k24_openF hMe327
               have hv327_8 := hcc327 8 _ rfl
               rw [add_field _ _ 8 (by omega)] at hv327_8
               replace hv327_8 := Option.some.inj (hv327_8.symm.trans hx327_8)
               injection hv327_8 with hva_ hvn_ hvc_
               rw [hva_] at ge327_8
               rw [hvc_] at ul327_8
               have HL327_8 := Aside0.mk (show Kd.V (Kd.int .u8) 5 _ w.heap.size _ _ ((rd_T24 t308 x11_2).f8) from Kd.V_mk ul327_8 ge327_8)
               clear hva_ hvn_ hvc_ ge327_8 ul327_8 hcc327 hce327; have HR327_8 := Aside0.mk hi327_8; have HC327_8 := Aside0.mk hl327_8; clear hi327_8 hl327_8
               replace p327 := eq_true p327
               replace q327 := eq_true q327
               have p328 : 0 ≤ (x11_2 : Int) := of_decide_eq_true (by first | (with_reducible assumption) | assumption)
               have q328 : x11_2 < (t308.length : Int) := of_decide_eq_true (by first | (with_reducible assumption) | assumption)
               obtain ⟨ad328, A328_8, c328_8, e328, hx328_0, hx328_1, hx328_2, hx328_3, hx328_4, hx328_5, hx328_6, hx328_7, hx328_8, hl328_8, hi328_8⟩ := at_T24 (Kd.N_reads' HO_5.out).2.2 x11_2 p328 q328
               obtain rfl : ad324 = ad328 := (by injection e328)
               obtain ⟨ce328, hce328, hMe328, hcc328⟩ := Kd.N_get HO_5.out z24 x11_2 p328 (by first | exact q328 | exact of_decide_eq_true (by first | (with_reducible assumption) | assumption) | (have e_ := (Kd.N_reads' HO_5.out).1; omega))
               obtain ⟨ua328_8, uc328_8, rfl, ul328_8, ge328_8⟩ := k24_openF hMe328
               have hv328_8 := hcc328 8 _ rfl
               rw [add_field _ _ 8 (by omega)] at hv328_8
               replace hv328_8 := Option.some.inj (hv328_8.symm.trans hx328_8)
               injection hv328_8 with hva_ hvn_ hvc_
               rw [hva_] at ge328_8
               rw [hvc_] at ul328_8
               have HL328_8 := Aside0.mk (show Kd.V (Kd.int .u8) 5 _ w.heap.size _ _ ((rd_T24 t308 x11_2).f8) from Kd.V_mk ul328_8 ge328_8)
               clear hva_ hvn_ hvc_ ge328_8 ul328_8 hcc328 hce328; have HR328_8 := Aside0.mk hi328_8; have HC328_8 := Aside0.mk hl328_8; clear hi328_8 hl328_8
               replace p328 := eq_true p328
               replace q328 := eq_true q328
               have ea_ := Option.some.inj (hx327_8.symm.trans hx328_8)
               injection ea_ with ea_ en_ ec_
               subst ea_; subst ec_; clear en_
               refine start_ (n := 46) (S := fun w' => w'.cell? ⟨gb307, 0, none⟩ = some (.int .i64 t295) ∧ w'.cell? ⟨gb307, 1, none⟩ = some (.int .i64 t296) ∧ w'.cell? ⟨gb307, 2, none⟩ = some (.int .i64 t297) ∧ w'.cell? ⟨gb307, 3, none⟩ = some (.int .i64 t298) ∧ w'.cell? ⟨gb307, 4, none⟩ = some (.int .i64 t299) ∧ w'.cell? ⟨gb307, 5, none⟩ = some (.int .i64 t300) ∧ w'.cell? ⟨gb307, 6, none⟩ = some (.bool false) ∧ w'.cell? ⟨gb307, 7, none⟩ = some (.bool t302) ∧ w'.cell? ⟨gb307, 8, none⟩ = some (.slice Ao10 t303.length co10) ∧ w'.cell? (ad324.add ((x11_2).toNat * 9)) = some (.int .i64 ((rd_T24 t308 x11_2).f0)) ∧ w'.cell? ⟨(ad324.add ((x11_2).toNat * 9)).block, (ad324.add ((x11_2).toNat * 9)).off + 1, none⟩ = some (.int .i64 ((rd_T24 t308 x11_2).f1)) ∧ w'.cell? ⟨(ad324.add ((x11_2).toNat * 9)).block, (ad324.add ((x11_2).toNat * 9)).off + 2, none⟩ = some (.int .i64 ((rd_T24 t308 x11_2).f2)) ∧ w'.cell? ⟨(ad324.add ((x11_2).toNat * 9)).block, (ad324.add ((x11_2).toNat * 9)).off + 3, none⟩ = some (.int .i64 ((rd_T24 t308 x11_2).f3)) ∧ w'.cell? ⟨(ad324.add ((x11_2).toNat * 9)).block, (ad324.add ((x11_2).toNat * 9)).off + 4, none⟩ = some (.int .i64 ((rd_T24 t308 x11_2).f4)) ∧ w'.cell? ⟨(ad324.add ((x11_2).toNat * 9)).block, (ad324.add ((x11_2).toNat * 9)).off + 5, none⟩ = some (.int .i64 ((rd_T24 t308 x11_2).f5)) ∧ w'.cell? ⟨(ad324.add ((x11_2).toNat * 9)).block, (ad324.add ((x11_2).toNat * 9)).off + 6, none⟩ = some (.bool ((rd_T24 t308 x11_2).f6)) ∧ w'.cell? ⟨(ad324.add ((x11_2).toNat * 9)).block, (ad324.add ((x11_2).toNat * 9)).off + 7, none⟩ = some (.bool ((rd_T24 t308 x11_2).f7)) ∧ w'.cell? ⟨(ad324.add ((x11_2).toNat * 9)).block, (ad324.add ((x11_2).toNat * 9)).off + 8, none⟩ = some (.slice A324_8 ((rd_T24 t308 x11_2).f8).length c324_8) ∧ w'.cell? (ad324.add ((x11_2).toNat * 9)) = some (.int .i64 ((rd_T24 t308 x11_2).f0)) ∧ w'.cell? ⟨(ad324.add ((x11_2).toNat * 9)).block, (ad324.add ((x11_2).toNat * 9)).off + 1, none⟩ = some (.int .i64 ((rd_T24 t308 x11_2).f1)) ∧ w'.cell? ⟨(ad324.add ((x11_2).toNat * 9)).block, (ad324.add ((x11_2).toNat * 9)).off + 2, none⟩ = some (.int .i64 ((rd_T24 t308 x11_2).f2)) ∧ w'.cell? ⟨(ad324.add ((x11_2).toNat * 9)).block, (ad324.add ((x11_2).toNat * 9)).off + 3, none⟩ = some (.int .i64 ((rd_T24 t308 x11_2).f3)) ∧ w'.cell? ⟨(ad324.add ((x11_2).toNat * 9)).block, (ad324.add ((x11_2).toNat * 9)).off + 4, none⟩ = some (.int .i64 ((rd_T24 t308 x11_2).f4)) ∧ w'.cell? ⟨(ad324.add ((x11_2).toNat * 9)).block, (ad324.add ((x11_2).toNat * 9)).off + 5, none⟩ = some (.int .i64 ((rd_T24 t308 x11_2).f5)) ∧ w'.cell? ⟨(ad324.add ((x11_2).toNat * 9)).block, (ad324.add ((x11_2).toNat * 9)).off + 6, none⟩ = some (.bool ((rd_T24 t308 x11_2).f6)) ∧ w'.cell? ⟨(ad324.add ((x11_2).toNat * 9)).block, (ad324.add ((x11_2).toNat * 9)).off + 7, none⟩ = some (.bool ((rd_T24 t308 x11_2).f7)) ∧ w'.cell? ⟨(ad324.add ((x11_2).toNat * 9)).block, (ad324.add ((x11_2).toNat * 9)).off + 8, none⟩ = some (.slice A324_8 ((rd_T24 t308 x11_2).f8).length c324_8) ∧ w'.cell? (ad324.add ((x11_2).toNat * 9)) = some (.int .i64 ((rd_T24 t308 x11_2).f0)) ∧ w'.cell? ⟨(ad324.add ((x11_2).toNat * 9)).block, (ad324.add ((x11_2).toNat * 9)).off + 1, none⟩ = some (.int .i64 ((rd_T24 t308 x11_2).f1)) ∧ w'.cell? ⟨(ad324.add ((x11_2).toNat * 9)).block, (ad324.add ((x11_2).toNat * 9)).off + 2, none⟩ = some (.int .i64 ((rd_T24 t308 x11_2).f2)) ∧ w'.cell? ⟨(ad324.add ((x11_2).toNat * 9)).block, (ad324.add ((x11_2).toNat * 9)).off + 3, none⟩ = some (.int .i64 ((rd_T24 t308 x11_2).f3)) ∧ w'.cell? ⟨(ad324.add ((x11_2).toNat * 9)).block, (ad324.add ((x11_2).toNat * 9)).off + 4, none⟩ = some (.int .i64 ((rd_T24 t308 x11_2).f4)) ∧ w'.cell? ⟨(ad324.add ((x11_2).toNat * 9)).block, (ad324.add ((x11_2).toNat * 9)).off + 5, none⟩ = some (.int .i64 ((rd_T24 t308 x11_2).f5)) ∧ w'.cell? ⟨(ad324.add ((x11_2).toNat * 9)).block, (ad324.add ((x11_2).toNat * 9)).off + 6, none⟩ = some (.bool ((rd_T24 t308 x11_2).f6)) ∧ w'.cell? ⟨(ad324.add ((x11_2).toNat * 9)).block, (ad324.add ((x11_2).toNat * 9)).off + 7, none⟩ = some (.bool ((rd_T24 t308 x11_2).f7)) ∧ w'.cell? ⟨(ad324.add ((x11_2).toNat * 9)).block, (ad324.add ((x11_2).toNat * 9)).off + 8, none⟩ = some (.slice A327_8 ((rd_T24 t308 x11_2).f8).length c327_8) ∧ w'.cell? (ad324.add ((x11_2).toNat * 9)) = some (.int .i64 ((rd_T24 t308 x11_2).f0)) ∧ w'.cell? ⟨(ad324.add ((x11_2).toNat * 9)).block, (ad324.add ((x11_2).toNat * 9)).off + 1, none⟩ = some (.int .i64 ((rd_T24 t308 x11_2).f1)) ∧ w'.cell? ⟨(ad324.add ((x11_2).toNat * 9)).block, (ad324.add ((x11_2).toNat * 9)).off + 2, none⟩ = some (.int .i64 ((rd_T24 t308 x11_2).f2)) ∧ w'.cell? ⟨(ad324.add ((x11_2).toNat * 9)).block, (ad324.add ((x11_2).toNat * 9)).off + 3, none⟩ = some (.int .i64 ((rd_T24 t308 x11_2).f3)) ∧ w'.cell? ⟨(ad324.add ((x11_2).toNat * 9)).block, (ad324.add ((x11_2).toNat * 9)).off + 4, none⟩ = some (.int .i64 ((rd_T24 t308 x11_2).f4)) ∧ w'.cell? ⟨(ad324.add ((x11_2).toNat * 9)).block, (ad324.add ((x11_2).toNat * 9)).off + 5, none⟩ = some (.int .i64 ((rd_T24 t308 x11_2).f5)) ∧ w'.cell? ⟨(ad324.add ((x11_2).toNat * 9)).block, (ad324.add ((x11_2).toNat * 9)).off + 6, none⟩ = some (.bool ((rd_T24 t308 x11_2).f6)) ∧ w'.cell? ⟨(ad324.add ((x11_2).toNat * 9)).block, (ad324.add ((x11_2).toNat * 9)).off + 7, none⟩ = some (.bool ((rd_T24 t308 x11_2).f7)) ∧ w'.cell? ⟨(ad324.add ((x11_2).toNat * 9)).block, (ad324.add ((x11_2).toNat * 9)).off + 8, none⟩ = some (.slice A327_8 ((rd_T24 t308 x11_2).f8).length c327_8)) (ds := []) #[false, false, false, false, false, false, false, false, false, false, false, false, false, false, false, false, false, false, false, false, false, false, false, false, false, false, false, false, false, false, false, false, false, false, false, false, false, false, false, false, false, false, false, false, false, false] (by kernel_rfl) rfl rfl ⟨bc_ BK307 0, bc_ BK307 1, bc_ BK307 2, bc_ BK307 3, bc_ BK307 4, bc_ BK307 5, bc_ BK307 6, bc_ BK307 7, bc_ BK307 8, hx324_0, hx324_1, hx324_2, hx324_3, hx324_4, hx324_5, hx324_6, hx324_7, hx324_8, hx325_0, hx325_1, hx325_2, hx325_3, hx325_4, hx325_5, hx325_6, hx325_7, hx325_8, hx327_0, hx327_1, hx327_2, hx327_3, hx327_4, hx327_5, hx327_6, hx327_7, hx327_8, hx328_0, hx328_1, hx328_2, hx328_3, hx328_4, hx328_5, hx328_6, hx328_7, hx328_8⟩ (fun hHeld => ?_); refine with_tabW laws_FnPacketCut.tab15 laws_FnPacketCut.bits15 (fun HT_ HW_ => ?_)
               generalize wr.drew = w38 at HO_5 HO_9 HO_10 HO_308008 BK307 HB HL324_8 HL325_8 HL327_8 HL328_8 HR324_8 HR325_8 HR327_8 HR328_8 hx324_0 hx324_1 hx324_2 hx324_3 hx324_4 hx324_5 hx324_6 hx324_7 hx324_8 hx325_0 hx325_1 hx325_2 hx325_3 hx325_4 hx325_5 hx325_6 hx325_7 hx325_8 hx327_0 hx327_1 hx327_2 hx327_3 hx327_4 hx327_5 hx327_6 hx327_7 hx327_8 hx328_0 hx328_1 hx328_2 hx328_3 hx328_4 hx328_5 hx328_6 hx328_7 hx328_8 hHeld ⊢
               refine pu_ (i := 0) (N := some 61) HT_ ?_; refine pu_ (i := 1) (N := some 62) HT_ ?_; refine pu_ (i := 2) (N := some 63) HT_ ?_; refine pu_ (i := 3) (N := some 64) HT_ ?_; refine pu_ (i := 6) (N := some 67) HT_ ?_; refine tk_ (i := 4) (N := some 65) HT_ HW_ hHeld ?_; refine pu_ (i := 5) (N := some 66) HT_ ?_; refine pu_ (i := 7) (N := some 68) HT_ ?_; refine pu_ (i := 8) (N := some 69) HT_ ?_; refine pu_ (i := 9) (N := some 70) HT_ ?_; refine pu_ (i := 10) (N := some 71) HT_ ?_; refine pu_ (i := 11) (N := some 72) HT_ ?_; refine tk_ (i := 12) (N := some 73) HT_ HW_ hHeld ?_
               refine on_ (i := 13) (N := some 74) HT_ (fun K hK => ?_)
               refine goes_ Try.func14 (by kernel_rfl) rfl #[.agg #[.int .i64 ((rd_T24 t308 x11_2).f0), .int .i64 ((rd_T24 t308 x11_2).f1), .int .i64 ((rd_T24 t308 x11_2).f2), .int .i64 ((rd_T24 t308 x11_2).f3), .int .i64 ((rd_T24 t308 x11_2).f4), .int .i64 ((rd_T24 t308 x11_2).f5), .bool ((rd_T24 t308 x11_2).f6), .bool ((rd_T24 t308 x11_2).f7), .slice A324_8 ((rd_T24 t308 x11_2).f8).length c324_8]] (by rfl) rfl rfl ar_ ?_
               with_reducible refine (impl_PacketOk.calls ((rd_T24 t308 x11_2).f0) ((rd_T24 t308 x11_2).f1) ((rd_T24 t308 x11_2).f2) ((rd_T24 t308 x11_2).f3) ((rd_T24 t308 x11_2).f4) ((rd_T24 t308 x11_2).f5) ((rd_T24 t308 x11_2).f6) ((rd_T24 t308 x11_2).f7) _ _ ((rd_T24 t308 x11_2).f8) true _ ?side1 ?side2 A31.out).mono ?_
               (case side1 => exact kC_ (by repeat (first | (with_reducible exact HR325_8.out) | (with_reducible exact Kd.C_drewN HR325_8.out _) | (with_reducible refine Kd.C_alloc ?_ _) | (with_reducible refine Kd.C_drewN ?_ _) | (with_reducible refine Kd.C_drew ?_) | exact HR325_8.out)))
               (case side2 => exact HC325_8.out)
               rintro e w39 ⟨rfl, hb⟩
               have HS9_ := (hb.cell (World.block_lt_of_cell? _ _ (hHeld.2.2.2.2.2.2.2.2.2.1))).trans (hHeld.2.2.2.2.2.2.2.2.2.1)
               have HS10_ := (hb.cell (World.block_lt_of_cell? _ _ (hHeld.2.2.2.2.2.2.2.2.2.2.1))).trans (hHeld.2.2.2.2.2.2.2.2.2.2.1)
               have HS11_ := (hb.cell (World.block_lt_of_cell? _ _ (hHeld.2.2.2.2.2.2.2.2.2.2.2.1))).trans (hHeld.2.2.2.2.2.2.2.2.2.2.2.1)
               have HS12_ := (hb.cell (World.block_lt_of_cell? _ _ (hHeld.2.2.2.2.2.2.2.2.2.2.2.2.1))).trans (hHeld.2.2.2.2.2.2.2.2.2.2.2.2.1)
               have HS13_ := (hb.cell (World.block_lt_of_cell? _ _ (hHeld.2.2.2.2.2.2.2.2.2.2.2.2.2.1))).trans (hHeld.2.2.2.2.2.2.2.2.2.2.2.2.2.1)
               have HS14_ := (hb.cell (World.block_lt_of_cell? _ _ (hHeld.2.2.2.2.2.2.2.2.2.2.2.2.2.2.1))).trans (hHeld.2.2.2.2.2.2.2.2.2.2.2.2.2.2.1)
               have HS15_ := (hb.cell (World.block_lt_of_cell? _ _ (hHeld.2.2.2.2.2.2.2.2.2.2.2.2.2.2.2.1))).trans (hHeld.2.2.2.2.2.2.2.2.2.2.2.2.2.2.2.1)
               have HS16_ := (hb.cell (World.block_lt_of_cell? _ _ (hHeld.2.2.2.2.2.2.2.2.2.2.2.2.2.2.2.2.1))).trans (hHeld.2.2.2.2.2.2.2.2.2.2.2.2.2.2.2.2.1)
               have HS17_ := (hb.cell (World.block_lt_of_cell? _ _ (hHeld.2.2.2.2.2.2.2.2.2.2.2.2.2.2.2.2.2.1))).trans (hHeld.2.2.2.2.2.2.2.2.2.2.2.2.2.2.2.2.2.1)
               have HS18_ := (hb.cell (World.block_lt_of_cell? _ _ (hHeld.2.2.2.2.2.2.2.2.2.2.2.2.2.2.2.2.2.2.1))).trans (hHeld.2.2.2.2.2.2.2.2.2.2.2.2.2.2.2.2.2.2.1)
               have HS19_ := (hb.cell (World.block_lt_of_cell? _ _ (hHeld.2.2.2.2.2.2.2.2.2.2.2.2.2.2.2.2.2.2.2.1))).trans (hHeld.2.2.2.2.2.2.2.2.2.2.2.2.2.2.2.2.2.2.2.1)
               have HS20_ := (hb.cell (World.block_lt_of_cell? _ _ (hHeld.2.2.2.2.2.2.2.2.2.2.2.2.2.2.2.2.2.2.2.2.1))).trans (hHeld.2.2.2.2.2.2.2.2.2.2.2.2.2.2.2.2.2.2.2.2.1)
               have HS21_ := (hb.cell (World.block_lt_of_cell? _ _ (hHeld.2.2.2.2.2.2.2.2.2.2.2.2.2.2.2.2.2.2.2.2.2.1))).trans (hHeld.2.2.2.2.2.2.2.2.2.2.2.2.2.2.2.2.2.2.2.2.2.1)
               have HS22_ := (hb.cell (World.block_lt_of_cell? _ _ (hHeld.2.2.2.2.2.2.2.2.2.2.2.2.2.2.2.2.2.2.2.2.2.2.1))).trans (hHeld.2.2.2.2.2.2.2.2.2.2.2.2.2.2.2.2.2.2.2.2.2.2.1)
               have HS23_ := (hb.cell (World.block_lt_of_cell? _ _ (hHeld.2.2.2.2.2.2.2.2.2.2.2.2.2.2.2.2.2.2.2.2.2.2.2.1))).trans (hHeld.2.2.2.2.2.2.2.2.2.2.2.2.2.2.2.2.2.2.2.2.2.2.2.1)
               have HS24_ := (hb.cell (World.block_lt_of_cell? _ _ (hHeld.2.2.2.2.2.2.2.2.2.2.2.2.2.2.2.2.2.2.2.2.2.2.2.2.1))).trans (hHeld.2.2.2.2.2.2.2.2.2.2.2.2.2.2.2.2.2.2.2.2.2.2.2.2.1)
               have HS25_ := (hb.cell (World.block_lt_of_cell? _ _ (hHeld.2.2.2.2.2.2.2.2.2.2.2.2.2.2.2.2.2.2.2.2.2.2.2.2.2.1))).trans (hHeld.2.2.2.2.2.2.2.2.2.2.2.2.2.2.2.2.2.2.2.2.2.2.2.2.2.1)
               have HS26_ := (hb.cell (World.block_lt_of_cell? _ _ (hHeld.2.2.2.2.2.2.2.2.2.2.2.2.2.2.2.2.2.2.2.2.2.2.2.2.2.2.1))).trans (hHeld.2.2.2.2.2.2.2.2.2.2.2.2.2.2.2.2.2.2.2.2.2.2.2.2.2.2.1)
               have HS27_ := (hb.cell (World.block_lt_of_cell? _ _ (hHeld.2.2.2.2.2.2.2.2.2.2.2.2.2.2.2.2.2.2.2.2.2.2.2.2.2.2.2.1))).trans (hHeld.2.2.2.2.2.2.2.2.2.2.2.2.2.2.2.2.2.2.2.2.2.2.2.2.2.2.2.1)
               have HS28_ := (hb.cell (World.block_lt_of_cell? _ _ (hHeld.2.2.2.2.2.2.2.2.2.2.2.2.2.2.2.2.2.2.2.2.2.2.2.2.2.2.2.2.1))).trans (hHeld.2.2.2.2.2.2.2.2.2.2.2.2.2.2.2.2.2.2.2.2.2.2.2.2.2.2.2.2.1)
               have HS29_ := (hb.cell (World.block_lt_of_cell? _ _ (hHeld.2.2.2.2.2.2.2.2.2.2.2.2.2.2.2.2.2.2.2.2.2.2.2.2.2.2.2.2.2.1))).trans (hHeld.2.2.2.2.2.2.2.2.2.2.2.2.2.2.2.2.2.2.2.2.2.2.2.2.2.2.2.2.2.1)
               have HS30_ := (hb.cell (World.block_lt_of_cell? _ _ (hHeld.2.2.2.2.2.2.2.2.2.2.2.2.2.2.2.2.2.2.2.2.2.2.2.2.2.2.2.2.2.2.1))).trans (hHeld.2.2.2.2.2.2.2.2.2.2.2.2.2.2.2.2.2.2.2.2.2.2.2.2.2.2.2.2.2.2.1)
               have HS31_ := (hb.cell (World.block_lt_of_cell? _ _ (hHeld.2.2.2.2.2.2.2.2.2.2.2.2.2.2.2.2.2.2.2.2.2.2.2.2.2.2.2.2.2.2.2.1))).trans (hHeld.2.2.2.2.2.2.2.2.2.2.2.2.2.2.2.2.2.2.2.2.2.2.2.2.2.2.2.2.2.2.2.1)
               have HS32_ := (hb.cell (World.block_lt_of_cell? _ _ (hHeld.2.2.2.2.2.2.2.2.2.2.2.2.2.2.2.2.2.2.2.2.2.2.2.2.2.2.2.2.2.2.2.2.1))).trans (hHeld.2.2.2.2.2.2.2.2.2.2.2.2.2.2.2.2.2.2.2.2.2.2.2.2.2.2.2.2.2.2.2.2.1)
               have HS33_ := (hb.cell (World.block_lt_of_cell? _ _ (hHeld.2.2.2.2.2.2.2.2.2.2.2.2.2.2.2.2.2.2.2.2.2.2.2.2.2.2.2.2.2.2.2.2.2.1))).trans (hHeld.2.2.2.2.2.2.2.2.2.2.2.2.2.2.2.2.2.2.2.2.2.2.2.2.2.2.2.2.2.2.2.2.2.1)
               have HS34_ := (hb.cell (World.block_lt_of_cell? _ _ (hHeld.2.2.2.2.2.2.2.2.2.2.2.2.2.2.2.2.2.2.2.2.2.2.2.2.2.2.2.2.2.2.2.2.2.2.1))).trans (hHeld.2.2.2.2.2.2.2.2.2.2.2.2.2.2.2.2.2.2.2.2.2.2.2.2.2.2.2.2.2.2.2.2.2.2.1)
               have HS35_ := (hb.cell (World.block_lt_of_cell? _ _ (hHeld.2.2.2.2.2.2.2.2.2.2.2.2.2.2.2.2.2.2.2.2.2.2.2.2.2.2.2.2.2.2.2.2.2.2.2.1))).trans (hHeld.2.2.2.2.2.2.2.2.2.2.2.2.2.2.2.2.2.2.2.2.2.2.2.2.2.2.2.2.2.2.2.2.2.2.2.1)
               have HS36_ := (hb.cell (World.block_lt_of_cell? _ _ (hHeld.2.2.2.2.2.2.2.2.2.2.2.2.2.2.2.2.2.2.2.2.2.2.2.2.2.2.2.2.2.2.2.2.2.2.2.2.1))).trans (hHeld.2.2.2.2.2.2.2.2.2.2.2.2.2.2.2.2.2.2.2.2.2.2.2.2.2.2.2.2.2.2.2.2.2.2.2.2.1)
               have HS37_ := (hb.cell (World.block_lt_of_cell? _ _ (hHeld.2.2.2.2.2.2.2.2.2.2.2.2.2.2.2.2.2.2.2.2.2.2.2.2.2.2.2.2.2.2.2.2.2.2.2.2.2.1))).trans (hHeld.2.2.2.2.2.2.2.2.2.2.2.2.2.2.2.2.2.2.2.2.2.2.2.2.2.2.2.2.2.2.2.2.2.2.2.2.2.1)
               have HS38_ := (hb.cell (World.block_lt_of_cell? _ _ (hHeld.2.2.2.2.2.2.2.2.2.2.2.2.2.2.2.2.2.2.2.2.2.2.2.2.2.2.2.2.2.2.2.2.2.2.2.2.2.2.1))).trans (hHeld.2.2.2.2.2.2.2.2.2.2.2.2.2.2.2.2.2.2.2.2.2.2.2.2.2.2.2.2.2.2.2.2.2.2.2.2.2.2.1)
               have HS39_ := (hb.cell (World.block_lt_of_cell? _ _ (hHeld.2.2.2.2.2.2.2.2.2.2.2.2.2.2.2.2.2.2.2.2.2.2.2.2.2.2.2.2.2.2.2.2.2.2.2.2.2.2.2.1))).trans (hHeld.2.2.2.2.2.2.2.2.2.2.2.2.2.2.2.2.2.2.2.2.2.2.2.2.2.2.2.2.2.2.2.2.2.2.2.2.2.2.2.1)
               have HS40_ := (hb.cell (World.block_lt_of_cell? _ _ (hHeld.2.2.2.2.2.2.2.2.2.2.2.2.2.2.2.2.2.2.2.2.2.2.2.2.2.2.2.2.2.2.2.2.2.2.2.2.2.2.2.2.1))).trans (hHeld.2.2.2.2.2.2.2.2.2.2.2.2.2.2.2.2.2.2.2.2.2.2.2.2.2.2.2.2.2.2.2.2.2.2.2.2.2.2.2.2.1)
               have HS41_ := (hb.cell (World.block_lt_of_cell? _ _ (hHeld.2.2.2.2.2.2.2.2.2.2.2.2.2.2.2.2.2.2.2.2.2.2.2.2.2.2.2.2.2.2.2.2.2.2.2.2.2.2.2.2.2.1))).trans (hHeld.2.2.2.2.2.2.2.2.2.2.2.2.2.2.2.2.2.2.2.2.2.2.2.2.2.2.2.2.2.2.2.2.2.2.2.2.2.2.2.2.2.1)
               have HS42_ := (hb.cell (World.block_lt_of_cell? _ _ (hHeld.2.2.2.2.2.2.2.2.2.2.2.2.2.2.2.2.2.2.2.2.2.2.2.2.2.2.2.2.2.2.2.2.2.2.2.2.2.2.2.2.2.2.1))).trans (hHeld.2.2.2.2.2.2.2.2.2.2.2.2.2.2.2.2.2.2.2.2.2.2.2.2.2.2.2.2.2.2.2.2.2.2.2.2.2.2.2.2.2.2.1)
               have HS43_ := (hb.cell (World.block_lt_of_cell? _ _ (hHeld.2.2.2.2.2.2.2.2.2.2.2.2.2.2.2.2.2.2.2.2.2.2.2.2.2.2.2.2.2.2.2.2.2.2.2.2.2.2.2.2.2.2.2.1))).trans (hHeld.2.2.2.2.2.2.2.2.2.2.2.2.2.2.2.2.2.2.2.2.2.2.2.2.2.2.2.2.2.2.2.2.2.2.2.2.2.2.2.2.2.2.2.1)
               have HS44_ := (hb.cell (World.block_lt_of_cell? _ _ (hHeld.2.2.2.2.2.2.2.2.2.2.2.2.2.2.2.2.2.2.2.2.2.2.2.2.2.2.2.2.2.2.2.2.2.2.2.2.2.2.2.2.2.2.2.2))).trans (hHeld.2.2.2.2.2.2.2.2.2.2.2.2.2.2.2.2.2.2.2.2.2.2.2.2.2.2.2.2.2.2.2.2.2.2.2.2.2.2.2.2.2.2.2.2)
               refine ⟨_, rfl, ?_⟩
               replace HO_5 := Aside0.mk (Kd.N_below (kN_ HO_5.out) hb); replace HO_9 := Aside0.mk (Kd.R_below (kR_ HO_9.out) hb); replace HO_10 := Aside0.mk (Kd.N_below (kN_ HO_10.out) hb); replace HO_308008 := Aside0.mk (Kd.R_below (kR_ HO_308008.out) hb); replace HL324_8 := Aside0.mk (Kd.V_below (kV_ HL324_8.out) hb); replace HL325_8 := Aside0.mk (Kd.V_below (kV_ HL325_8.out) hb); replace BK307 := (bbA_ BK307 hb); replace HR324_8 := Aside0.mk (Kd.C_below (by repeat (first | (with_reducible exact HR324_8.out) | (with_reducible exact Kd.C_drewN HR324_8.out _) | (with_reducible refine Kd.C_alloc ?_ _) | (with_reducible refine Kd.C_drewN ?_ _) | (with_reducible refine Kd.C_drew ?_) | exact HR324_8.out)) hb); replace HR325_8 := Aside0.mk (Kd.C_below (by repeat (first | (with_reducible exact HR325_8.out) | (with_reducible exact Kd.C_drewN HR325_8.out _) | (with_reducible refine Kd.C_alloc ?_ _) | (with_reducible refine Kd.C_drewN ?_ _) | (with_reducible refine Kd.C_drew ?_) | exact HR325_8.out)) hb); replace HB := (bs_ HB hb); (try clear hb); (try clear hb2); (try clear hk); (try clear hi)
               obtain ⟨Ao40, co40, eo40⟩ := Kd.R_slice HO_9.out
               (first | subst eo40 | (injection eo40 with f1_ f2_ f3_; have f4_ := f1_.symm; have f5_ := f3_.symm; clear f1_ f2_ f3_; subst f4_; subst f5_))
               refine hK.out _ _ ⟨bc_ BK307 0, bc_ BK307 1, bc_ BK307 2, bc_ BK307 3, bc_ BK307 4, bc_ BK307 5, bc_ BK307 6, bc_ BK307 7, bc_ BK307 8, HS9_, HS10_, HS11_, HS12_, HS13_, HS14_, HS15_, HS16_, HS17_, HS18_, HS19_, HS20_, HS21_, HS22_, HS23_, HS24_, HS25_, HS26_, HS27_, HS28_, HS29_, HS30_, HS31_, HS32_, HS33_, HS34_, HS35_, HS36_, HS37_, HS38_, HS39_, HS40_, HS41_, HS42_, HS43_, HS44_⟩ (fun hHeld => ?_)
               clear hK K; refine nm_ 74 ?_; refine pu_ (i := 14) (N := some 75) HT_ ?_; refine pu_ (i := 15) (N := some 76) HT_ ?_; refine pu_ (i := 16) (N := some 77) HT_ ?_; refine pu_ (i := 17) (N := some 78) HT_ ?_; refine pu_ (i := 18) (N := some 79) HT_ ?_; refine pu_ (i := 19) (N := some 80) HT_ ?_; refine pu_ (i := 20) (N := some 81) HT_ ?_; refine pu_ (i := 22) (N := some 83) HT_ ?_; refine pu_ (i := 24) (N := some 85) HT_ ?_; refine pu_ (i := 25) (N := some 86) HT_ ?_; refine tk_ (i := 21) (N := some 82) HT_ HW_ hHeld ?_; refine tk_ (i := 23) (N := some 84) HT_ HW_ hHeld ?_; refine pu_ (i := 26) (N := some 87) HT_ ?_; refine pu_ (i := 27) (N := some 88) HT_ ?_; refine pu_ (i := 28) (N := some 89) HT_ ?_; refine pu_ (i := 29) (N := some 90) HT_ ?_; refine pu_ (i := 30) (N := some 91) HT_ ?_; refine pu_ (i := 31) (N := some 92) HT_ ?_; refine pu_ (i := 32) (N := some 93) HT_ ?_; refine pu_ (i := 33) (N := some 94) HT_ ?_; refine pu_ (i := 35) (N := some 96) HT_ ?_; refine tk_ (i := 34) (N := some 95) HT_ HW_ hHeld ?_; refine tk_ (i := 36) (N := some 97) HT_ HW_ hHeld ?_; refine pu_ (i := 37) (N := some 98) HT_ ?_; refine pu_ (i := 38) (N := some 99) HT_ ?_; refine pu_ (i := 39) (N := some 100) HT_ ?_; refine pu_ (i := 40) (N := some 101) HT_ ?_; refine pu_ (i := 41) (N := some 102) HT_ ?_; refine pu_ (i := 42) (N := some 103) HT_ ?_; refine pu_ (i := 43) (N := some 104) HT_ ?_; refine pu_ (i := 44) (N := some 105) HT_ ?_; refine pu_ (i := 45) (N := some 106) HT_ ?_
               refine done_ (done_of HT_.out (by kernel_rfl)) ?_
               try go_wp2
               go_meet
               case rel => exact ⟨_, ((((rd_T24 t308 x11_2).f6) != (decide ((wrap64 (x11_2 + 1)) < (t308.length : Int))))), (by first | rfl | (simp; done) | (simp [*]; done)), H', ⟨by have := HJ5.out; have := HK2.out; first | omega | exact Nat.le_refl _⟩, ⟨by refine kN_ ?_; exact HO_5.out⟩, ⟨kR_ HO_9.out⟩, ⟨by refine kN_ ?_; exact HO_10.out⟩, ⟨kR_ HO_308008.out⟩, ⟨by refine kb_ ?_; exact BK307.out⟩, ⟨hbA_ HB.out⟩⟩
             ·rw [if_neg c33] at H
              have c33b0 : (((rd_T24 t308 x11_2).f5) == (wrap64 (t300 + (x9_2.length : Int)))) = false := beq_eq_false_iff_ne.mpr c33
              have c33b1 : (((rd_T24 t308 x11_2).f5) != (wrap64 (t300 + (x9_2.length : Int)))) = true := bne_iff_ne.mpr c33
              have H' := Aside0.mk H
              clear H
              try go_wp2
              replace HO_5 := Aside0.mk (Kd.N_drew HO_5.out); replace HO_9 := Aside0.mk (Kd.R_drew HO_9.out); replace HO_10 := Aside0.mk (Kd.N_drew HO_10.out); replace HO_308008 := Aside0.mk (Kd.R_drew HO_308008.out); replace BK307 := Aside0.mk (blk_drew BK307.out); replace HB := (bd_ HB)
              have p324 : 0 ≤ (x11_2 : Int) := of_decide_eq_true (by first | (with_reducible assumption) | assumption)
              have q324 : x11_2 < (t308.length : Int) := of_decide_eq_true (by first | (with_reducible assumption) | assumption)
              obtain ⟨ad324, A324_8, c324_8, e324, hx324_0, hx324_1, hx324_2, hx324_3, hx324_4, hx324_5, hx324_6, hx324_7, hx324_8, hl324_8, hi324_8⟩ := at_T24 (Kd.N_reads' HO_5.out).2.2 x11_2 p324 q324
              cases e324
              obtain ⟨ce324, hce324, hMe324, hcc324⟩ := Kd.N_get HO_5.out z24 x11_2 p324 (by first | exact q324 | exact of_decide_eq_true (by first | (with_reducible assumption) | assumption) | (have e_ := (Kd.N_reads' HO_5.out).1; omega))
              obtain ⟨ua324_8, uc324_8, rfl, ul324_8, ge324_8⟩ := k24_openF hMe324
              have hv324_8 := hcc324 8 _ rfl
              rw [add_field _ _ 8 (by omega)] at hv324_8
              replace hv324_8 := Option.some.inj (hv324_8.symm.trans hx324_8)
              injection hv324_8 with hva_ hvn_ hvc_
              rw [hva_] at ge324_8
              rw [hvc_] at ul324_8
              have HL324_8 := Aside0.mk (show Kd.V (Kd.int .u8) 5 _ w.heap.size _ _ ((rd_T24 t308 x11_2).f8) from Kd.V_mk ul324_8 ge324_8)
              clear hva_ hvn_ hvc_ ge324_8 ul324_8 hcc324 hce324; have HR324_8 := Aside0.mk hi324_8; have HC324_8 := Aside0.mk hl324_8; clear hi324_8 hl324_8
              replace p324 := eq_true p324
              replace q324 := eq_true q324
              have p325 : 0 ≤ (x11_2 : Int) := of_decide_eq_true (by first | (with_reducible assumption) | assumption)
              have q325 : x11_2 < (t308.length : Int) := of_decide_eq_true (by first | (with_reducible assumption) | assumption)
              obtain ⟨ad325, A325_8, c325_8, e325, hx325_0, hx325_1, hx325_2, hx325_3, hx325_4, hx325_5, hx325_6, hx325_7, hx325_8, hl325_8, hi325_8⟩ := at_T24 (Kd.N_reads' HO_5.out).2.2 x11_2 p325 q325
              obtain rfl : ad324 = ad325 := (by injection e325)
              obtain ⟨ce325, hce325, hMe325, hcc325⟩ := Kd.N_get HO_5.out z24 x11_2 p325 (by first | exact q325 | exact of_decide_eq_true (by first | (with_reducible assumption) | assumption) | (have e_ := (Kd.N_reads' HO_5.out).1; omega))
              obtain ⟨ua325_8, uc325_8, rfl, ul325_8, ge325_8⟩ := k24_openF hMe325
              have hv325_8 := hcc325 8 _ rfl
              rw [add_field _ _ 8 (by omega)] at hv325_8
              replace hv325_8 := Option.some.inj (hv325_8.symm.trans hx325_8)
              injection hv325_8 with hva_ hvn_ hvc_
              rw [hva_] at ge325_8
              rw [hvc_] at ul325_8
              have HL325_8 := Aside0.mk (show Kd.V (Kd.int .u8) 5 _ w.heap.size _ _ ((rd_T24 t308 x11_2).f8) from Kd.V_mk ul325_8 ge325_8)
              clear hva_ hvn_ hvc_ ge325_8 ul325_8 hcc325 hce325; have HR325_8 := Aside0.mk hi325_8; have HC325_8 := Aside0.mk hl325_8; clear hi325_8 hl325_8
              replace p325 := eq_true p325
              replace q325 := eq_true q325
              have ea_ := Option.some.inj (hx324_8.symm.trans hx325_8)
              injection ea_ with ea_ en_ ec_
              subst ea_; subst ec_; clear en_
              have p327 : 0 ≤ (x11_2 : Int) := of_decide_eq_true (by first | (with_reducible assumption) | assumption)
              have q327 : x11_2 < (t308.length : Int) := of_decide_eq_true (by first | (with_reducible assumption) | assumption)
              obtain ⟨ad327, A327_8, c327_8, e327, hx327_0, hx327_1, hx327_2, hx327_3, hx327_4, hx327_5, hx327_6, hx327_7, hx327_8, hl327_8, hi327_8⟩ := at_T24 (Kd.N_reads' HO_5.out).2.2 x11_2 p327 q327
              obtain rfl : ad324 = ad327 := (by injection e327)
              obtain ⟨ce327, hce327, hMe327, hcc327⟩ := Kd.N_get HO_5.out z24 x11_2 p327 (by first | exact q327 | exact of_decide_eq_true (by first | (with_reducible assumption) | assumption) | (have e_ := (Kd.N_reads' HO_5.out).1; omega))
              obtain ⟨ua327_8, uc327_8, rfl, ul327_8, ge327_8⟩ := k24_openF hMe327
              have hv327_8 := hcc327 8 _ rfl
              rw [add_field _ _ 8 (by omega)] at hv327_8
              replace hv327_8 := Option.some.inj (hv327_8.symm.trans hx327_8)
              injection hv327_8 with hva_ hvn_ hvc_
              rw [hva_] at ge327_8
              rw [hvc_] at ul327_8
              have HL327_8 := Aside0.mk (show Kd.V (Kd.int .u8) 5 _ w.heap.size _ _ ((rd_T24 t308 x11_2).f8) from Kd.V_mk ul327_8 ge327_8)
              clear hva_ hvn_ hvc_ ge327_8 ul327_8 hcc327 hce327; have HR327_8 := Aside0.mk hi327_8; have HC327_8 := Aside0.mk hl327_8; clear hi327_8 hl327_8
              replace p327 := eq_true p327
              replace q327 := eq_true q327
              refine start_ (n := 46) (S := fun w' => w'.cell? ⟨gb307, 0, none⟩ = some (.int .i64 t295) ∧ w'.cell? ⟨gb307, 1, none⟩ = some (.int .i64 t296) ∧ w'.cell? ⟨gb307, 2, none⟩ = some (.int .i64 t297) ∧ w'.cell? ⟨gb307, 3, none⟩ = some (.int .i64 t298) ∧ w'.cell? ⟨gb307, 4, none⟩ = some (.int .i64 t299) ∧ w'.cell? ⟨gb307, 5, none⟩ = some (.int .i64 t300) ∧ w'.cell? ⟨gb307, 6, none⟩ = some (.bool t301) ∧ w'.cell? ⟨gb307, 7, none⟩ = some (.bool t302) ∧ w'.cell? ⟨gb307, 8, none⟩ = some (.slice Ao10 t303.length co10) ∧ w'.cell? (ad324.add ((x11_2).toNat * 9)) = some (.int .i64 ((rd_T24 t308 x11_2).f0)) ∧ w'.cell? ⟨(ad324.add ((x11_2).toNat * 9)).block, (ad324.add ((x11_2).toNat * 9)).off + 1, none⟩ = some (.int .i64 ((rd_T24 t308 x11_2).f1)) ∧ w'.cell? ⟨(ad324.add ((x11_2).toNat * 9)).block, (ad324.add ((x11_2).toNat * 9)).off + 2, none⟩ = some (.int .i64 ((rd_T24 t308 x11_2).f2)) ∧ w'.cell? ⟨(ad324.add ((x11_2).toNat * 9)).block, (ad324.add ((x11_2).toNat * 9)).off + 3, none⟩ = some (.int .i64 ((rd_T24 t308 x11_2).f3)) ∧ w'.cell? ⟨(ad324.add ((x11_2).toNat * 9)).block, (ad324.add ((x11_2).toNat * 9)).off + 4, none⟩ = some (.int .i64 ((rd_T24 t308 x11_2).f4)) ∧ w'.cell? ⟨(ad324.add ((x11_2).toNat * 9)).block, (ad324.add ((x11_2).toNat * 9)).off + 5, none⟩ = some (.int .i64 ((rd_T24 t308 x11_2).f5)) ∧ w'.cell? ⟨(ad324.add ((x11_2).toNat * 9)).block, (ad324.add ((x11_2).toNat * 9)).off + 6, none⟩ = some (.bool ((rd_T24 t308 x11_2).f6)) ∧ w'.cell? ⟨(ad324.add ((x11_2).toNat * 9)).block, (ad324.add ((x11_2).toNat * 9)).off + 7, none⟩ = some (.bool ((rd_T24 t308 x11_2).f7)) ∧ w'.cell? ⟨(ad324.add ((x11_2).toNat * 9)).block, (ad324.add ((x11_2).toNat * 9)).off + 8, none⟩ = some (.slice A324_8 ((rd_T24 t308 x11_2).f8).length c324_8) ∧ w'.cell? (ad324.add ((x11_2).toNat * 9)) = some (.int .i64 ((rd_T24 t308 x11_2).f0)) ∧ w'.cell? ⟨(ad324.add ((x11_2).toNat * 9)).block, (ad324.add ((x11_2).toNat * 9)).off + 1, none⟩ = some (.int .i64 ((rd_T24 t308 x11_2).f1)) ∧ w'.cell? ⟨(ad324.add ((x11_2).toNat * 9)).block, (ad324.add ((x11_2).toNat * 9)).off + 2, none⟩ = some (.int .i64 ((rd_T24 t308 x11_2).f2)) ∧ w'.cell? ⟨(ad324.add ((x11_2).toNat * 9)).block, (ad324.add ((x11_2).toNat * 9)).off + 3, none⟩ = some (.int .i64 ((rd_T24 t308 x11_2).f3)) ∧ w'.cell? ⟨(ad324.add ((x11_2).toNat * 9)).block, (ad324.add ((x11_2).toNat * 9)).off + 4, none⟩ = some (.int .i64 ((rd_T24 t308 x11_2).f4)) ∧ w'.cell? ⟨(ad324.add ((x11_2).toNat * 9)).block, (ad324.add ((x11_2).toNat * 9)).off + 5, none⟩ = some (.int .i64 ((rd_T24 t308 x11_2).f5)) ∧ w'.cell? ⟨(ad324.add ((x11_2).toNat * 9)).block, (ad324.add ((x11_2).toNat * 9)).off + 6, none⟩ = some (.bool ((rd_T24 t308 x11_2).f6)) ∧ w'.cell? ⟨(ad324.add ((x11_2).toNat * 9)).block, (ad324.add ((x11_2).toNat * 9)).off + 7, none⟩ = some (.bool ((rd_T24 t308 x11_2).f7)) ∧ w'.cell? ⟨(ad324.add ((x11_2).toNat * 9)).block, (ad324.add ((x11_2).toNat * 9)).off + 8, none⟩ = some (.slice A324_8 ((rd_T24 t308 x11_2).f8).length c324_8) ∧ w'.cell? (ad324.add ((x11_2).toNat * 9)) = some (.int .i64 ((rd_T24 t308 x11_2).f0)) ∧ w'.cell? ⟨(ad324.add ((x11_2).toNat * 9)).block, (ad324.add ((x11_2).toNat * 9)).off + 1, none⟩ = some (.int .i64 ((rd_T24 t308 x11_2).f1)) ∧ w'.cell? ⟨(ad324.add ((x11_2).toNat * 9)).block, (ad324.add ((x11_2).toNat * 9)).off + 2, none⟩ = some (.int .i64 ((rd_T24 t308 x11_2).f2)) ∧ w'.cell? ⟨(ad324.add ((x11_2).toNat * 9)).block, (ad324.add ((x11_2).toNat * 9)).off + 3, none⟩ = some (.int .i64 ((rd_T24 t308 x11_2).f3)) ∧ w'.cell? ⟨(ad324.add ((x11_2).toNat * 9)).block, (ad324.add ((x11_2).toNat * 9)).off + 4, none⟩ = some (.int .i64 ((rd_T24 t308 x11_2).f4)) ∧ w'.cell? ⟨(ad324.add ((x11_2).toNat * 9)).block, (ad324.add ((x11_2).toNat * 9)).off + 5, none⟩ = some (.int .i64 ((rd_T24 t308 x11_2).f5)) ∧ w'.cell? ⟨(ad324.add ((x11_2).toNat * 9)).block, (ad324.add ((x11_2).toNat * 9)).off + 6, none⟩ = some (.bool ((rd_T24 t308 x11_2).f6)) ∧ w'.cell? ⟨(ad324.add ((x11_2).toNat * 9)).block, (ad324.add ((x11_2).toNat * 9)).off + 7, none⟩ = some (.bool ((rd_T24 t308 x11_2).f7)) ∧ w'.cell? ⟨(ad324.add ((x11_2).toNat * 9)).block, (ad324.add ((x11_2).toNat * 9)).off + 8, none⟩ = some (.slice A327_8 ((rd_T24 t308 x11_2).f8).length c327_8)) (ds := []) #[false, false, false, false, false, false, false, false, false, false, false, false, false, false, false, false, false, false, false, false, false, false, false, false, false, false, false, false, false, false, false, false, false, false, false, false, false, false, false, false, false, false, false, false, false, false] (by kernel_rfl) rfl rfl ⟨bc_ BK307 0, bc_ BK307 1, bc_ BK307 2, bc_ BK307 3, bc_ BK307 4, bc_ BK307 5, bc_ BK307 6, bc_ BK307 7, bc_ BK307 8, hx324_0, hx324_1, hx324_2, hx324_3, hx324_4, hx324_5, hx324_6, hx324_7, hx324_8, hx325_0, hx325_1, hx325_2, hx325_3, hx325_4, hx325_5, hx325_6, hx325_7, hx325_8, hx327_0, hx327_1, hx327_2, hx327_3, hx327_4, hx327_5, hx327_6, hx327_7, hx327_8⟩ (fun hHeld => ?_); refine with_tabW laws_FnPacketCut.tab15 laws_FnPacketCut.bits15 (fun HT_ HW_ => ?_)
              generalize wr.drew = w41 at HO_5 HO_9 HO_10 HO_308008 BK307 HB HL324_8 HL325_8 HL327_8 HR324_8 HR325_8 HR327_8 hx324_0 hx324_1 hx324_2 hx324_3 hx324_4 hx324_5 hx324_6 hx324_7 hx324_8 hx325_0 hx325_1 hx325_2 hx325_3 hx325_4 hx325_5 hx325_6 hx325_7 hx325_8 hx327_0 hx327_1 hx327_2 hx327_3 hx327_4 hx327_5 hx327_6 hx327_7 hx327_8 hHeld ⊢
              refine pu_ (i := 0) (N := some 61) HT_ ?_; refine pu_ (i := 1) (N := some 62) HT_ ?_; refine pu_ (i := 2) (N := some 63) HT_ ?_; refine pu_ (i := 3) (N := some 64) HT_ ?_; refine pu_ (i := 6) (N := some 67) HT_ ?_; refine tk_ (i := 4) (N := some 65) HT_ HW_ hHeld ?_; refine pu_ (i := 5) (N := some 66) HT_ ?_; refine pu_ (i := 7) (N := some 68) HT_ ?_; refine pu_ (i := 8) (N := some 69) HT_ ?_; refine pu_ (i := 9) (N := some 70) HT_ ?_; refine pu_ (i := 10) (N := some 71) HT_ ?_; refine pu_ (i := 11) (N := some 72) HT_ ?_; refine tk_ (i := 12) (N := some 73) HT_ HW_ hHeld ?_
              refine on_ (i := 13) (N := some 74) HT_ (fun K hK => ?_)
              refine goes_ Try.func14 (by kernel_rfl) rfl #[.agg #[.int .i64 ((rd_T24 t308 x11_2).f0), .int .i64 ((rd_T24 t308 x11_2).f1), .int .i64 ((rd_T24 t308 x11_2).f2), .int .i64 ((rd_T24 t308 x11_2).f3), .int .i64 ((rd_T24 t308 x11_2).f4), .int .i64 ((rd_T24 t308 x11_2).f5), .bool ((rd_T24 t308 x11_2).f6), .bool ((rd_T24 t308 x11_2).f7), .slice A324_8 ((rd_T24 t308 x11_2).f8).length c324_8]] (by rfl) rfl rfl ar_ ?_
              with_reducible refine (impl_PacketOk.calls ((rd_T24 t308 x11_2).f0) ((rd_T24 t308 x11_2).f1) ((rd_T24 t308 x11_2).f2) ((rd_T24 t308 x11_2).f3) ((rd_T24 t308 x11_2).f4) ((rd_T24 t308 x11_2).f5) ((rd_T24 t308 x11_2).f6) ((rd_T24 t308 x11_2).f7) _ _ ((rd_T24 t308 x11_2).f8) true _ ?side1 ?side2 A31.out).mono ?_
              (case side1 => exact kC_ (by repeat (first | (with_reducible exact HR325_8.out) | (with_reducible exact Kd.C_drewN HR325_8.out _) | (with_reducible refine Kd.C_alloc ?_ _) | (with_reducible refine Kd.C_drewN ?_ _) | (with_reducible refine Kd.C_drew ?_) | exact HR325_8.out)))
              (case side2 => exact HC325_8.out)
              rintro e w42 ⟨rfl, hb⟩
              have HS9_ := (hb.cell (World.block_lt_of_cell? _ _ (hHeld.2.2.2.2.2.2.2.2.2.1))).trans (hHeld.2.2.2.2.2.2.2.2.2.1)
              have HS10_ := (hb.cell (World.block_lt_of_cell? _ _ (hHeld.2.2.2.2.2.2.2.2.2.2.1))).trans (hHeld.2.2.2.2.2.2.2.2.2.2.1)
              have HS11_ := (hb.cell (World.block_lt_of_cell? _ _ (hHeld.2.2.2.2.2.2.2.2.2.2.2.1))).trans (hHeld.2.2.2.2.2.2.2.2.2.2.2.1)
              have HS12_ := (hb.cell (World.block_lt_of_cell? _ _ (hHeld.2.2.2.2.2.2.2.2.2.2.2.2.1))).trans (hHeld.2.2.2.2.2.2.2.2.2.2.2.2.1)
              have HS13_ := (hb.cell (World.block_lt_of_cell? _ _ (hHeld.2.2.2.2.2.2.2.2.2.2.2.2.2.1))).trans (hHeld.2.2.2.2.2.2.2.2.2.2.2.2.2.1)
              have HS14_ := (hb.cell (World.block_lt_of_cell? _ _ (hHeld.2.2.2.2.2.2.2.2.2.2.2.2.2.2.1))).trans (hHeld.2.2.2.2.2.2.2.2.2.2.2.2.2.2.1)
              have HS15_ := (hb.cell (World.block_lt_of_cell? _ _ (hHeld.2.2.2.2.2.2.2.2.2.2.2.2.2.2.2.1))).trans (hHeld.2.2.2.2.2.2.2.2.2.2.2.2.2.2.2.1)
              have HS16_ := (hb.cell (World.block_lt_of_cell? _ _ (hHeld.2.2.2.2.2.2.2.2.2.2.2.2.2.2.2.2.1))).trans (hHeld.2.2.2.2.2.2.2.2.2.2.2.2.2.2.2.2.1)
              have HS17_ := (hb.cell (World.block_lt_of_cell? _ _ (hHeld.2.2.2.2.2.2.2.2.2.2.2.2.2.2.2.2.2.1))).trans (hHeld.2.2.2.2.2.2.2.2.2.2.2.2.2.2.2.2.2.1)
              have HS18_ := (hb.cell (World.block_lt_of_cell? _ _ (hHeld.2.2.2.2.2.2.2.2.2.2.2.2.2.2.2.2.2.2.1))).trans (hHeld.2.2.2.2.2.2.2.2.2.2.2.2.2.2.2.2.2.2.1)
              have HS19_ := (hb.cell (World.block_lt_of_cell? _ _ (hHeld.2.2.2.2.2.2.2.2.2.2.2.2.2.2.2.2.2.2.2.1))).trans (hHeld.2.2.2.2.2.2.2.2.2.2.2.2.2.2.2.2.2.2.2.1)
              have HS20_ := (hb.cell (World.block_lt_of_cell? _ _ (hHeld.2.2.2.2.2.2.2.2.2.2.2.2.2.2.2.2.2.2.2.2.1))).trans (hHeld.2.2.2.2.2.2.2.2.2.2.2.2.2.2.2.2.2.2.2.2.1)
              have HS21_ := (hb.cell (World.block_lt_of_cell? _ _ (hHeld.2.2.2.2.2.2.2.2.2.2.2.2.2.2.2.2.2.2.2.2.2.1))).trans (hHeld.2.2.2.2.2.2.2.2.2.2.2.2.2.2.2.2.2.2.2.2.2.1)
              have HS22_ := (hb.cell (World.block_lt_of_cell? _ _ (hHeld.2.2.2.2.2.2.2.2.2.2.2.2.2.2.2.2.2.2.2.2.2.2.1))).trans (hHeld.2.2.2.2.2.2.2.2.2.2.2.2.2.2.2.2.2.2.2.2.2.2.1)
              have HS23_ := (hb.cell (World.block_lt_of_cell? _ _ (hHeld.2.2.2.2.2.2.2.2.2.2.2.2.2.2.2.2.2.2.2.2.2.2.2.1))).trans (hHeld.2.2.2.2.2.2.2.2.2.2.2.2.2.2.2.2.2.2.2.2.2.2.2.1)
              have HS24_ := (hb.cell (World.block_lt_of_cell? _ _ (hHeld.2.2.2.2.2.2.2.2.2.2.2.2.2.2.2.2.2.2.2.2.2.2.2.2.1))).trans (hHeld.2.2.2.2.2.2.2.2.2.2.2.2.2.2.2.2.2.2.2.2.2.2.2.2.1)
              have HS25_ := (hb.cell (World.block_lt_of_cell? _ _ (hHeld.2.2.2.2.2.2.2.2.2.2.2.2.2.2.2.2.2.2.2.2.2.2.2.2.2.1))).trans (hHeld.2.2.2.2.2.2.2.2.2.2.2.2.2.2.2.2.2.2.2.2.2.2.2.2.2.1)
              have HS26_ := (hb.cell (World.block_lt_of_cell? _ _ (hHeld.2.2.2.2.2.2.2.2.2.2.2.2.2.2.2.2.2.2.2.2.2.2.2.2.2.2.1))).trans (hHeld.2.2.2.2.2.2.2.2.2.2.2.2.2.2.2.2.2.2.2.2.2.2.2.2.2.2.1)
              have HS27_ := (hb.cell (World.block_lt_of_cell? _ _ (hHeld.2.2.2.2.2.2.2.2.2.2.2.2.2.2.2.2.2.2.2.2.2.2.2.2.2.2.2.1))).trans (hHeld.2.2.2.2.2.2.2.2.2.2.2.2.2.2.2.2.2.2.2.2.2.2.2.2.2.2.2.1)
              have HS28_ := (hb.cell (World.block_lt_of_cell? _ _ (hHeld.2.2.2.2.2.2.2.2.2.2.2.2.2.2.2.2.2.2.2.2.2.2.2.2.2.2.2.2.1))).trans (hHeld.2.2.2.2.2.2.2.2.2.2.2.2.2.2.2.2.2.2.2.2.2.2.2.2.2.2.2.2.1)
              have HS29_ := (hb.cell (World.block_lt_of_cell? _ _ (hHeld.2.2.2.2.2.2.2.2.2.2.2.2.2.2.2.2.2.2.2.2.2.2.2.2.2.2.2.2.2.1))).trans (hHeld.2.2.2.2.2.2.2.2.2.2.2.2.2.2.2.2.2.2.2.2.2.2.2.2.2.2.2.2.2.1)
              have HS30_ := (hb.cell (World.block_lt_of_cell? _ _ (hHeld.2.2.2.2.2.2.2.2.2.2.2.2.2.2.2.2.2.2.2.2.2.2.2.2.2.2.2.2.2.2.1))).trans (hHeld.2.2.2.2.2.2.2.2.2.2.2.2.2.2.2.2.2.2.2.2.2.2.2.2.2.2.2.2.2.2.1)
              have HS31_ := (hb.cell (World.block_lt_of_cell? _ _ (hHeld.2.2.2.2.2.2.2.2.2.2.2.2.2.2.2.2.2.2.2.2.2.2.2.2.2.2.2.2.2.2.2.1))).trans (hHeld.2.2.2.2.2.2.2.2.2.2.2.2.2.2.2.2.2.2.2.2.2.2.2.2.2.2.2.2.2.2.2.1)
              have HS32_ := (hb.cell (World.block_lt_of_cell? _ _ (hHeld.2.2.2.2.2.2.2.2.2.2.2.2.2.2.2.2.2.2.2.2.2.2.2.2.2.2.2.2.2.2.2.2.1))).trans (hHeld.2.2.2.2.2.2.2.2.2.2.2.2.2.2.2.2.2.2.2.2.2.2.2.2.2.2.2.2.2.2.2.2.1)
              have HS33_ := (hb.cell (World.block_lt_of_cell? _ _ (hHeld.2.2.2.2.2.2.2.2.2.2.2.2.2.2.2.2.2.2.2.2.2.2.2.2.2.2.2.2.2.2.2.2.2.1))).trans (hHeld.2.2.2.2.2.2.2.2.2.2.2.2.2.2.2.2.2.2.2.2.2.2.2.2.2.2.2.2.2.2.2.2.2.1)
              have HS34_ := (hb.cell (World.block_lt_of_cell? _ _ (hHeld.2.2.2.2.2.2.2.2.2.2.2.2.2.2.2.2.2.2.2.2.2.2.2.2.2.2.2.2.2.2.2.2.2.2.1))).trans (hHeld.2.2.2.2.2.2.2.2.2.2.2.2.2.2.2.2.2.2.2.2.2.2.2.2.2.2.2.2.2.2.2.2.2.2.1)
              have HS35_ := (hb.cell (World.block_lt_of_cell? _ _ (hHeld.2.2.2.2.2.2.2.2.2.2.2.2.2.2.2.2.2.2.2.2.2.2.2.2.2.2.2.2.2.2.2.2.2.2.2))).trans (hHeld.2.2.2.2.2.2.2.2.2.2.2.2.2.2.2.2.2.2.2.2.2.2.2.2.2.2.2.2.2.2.2.2.2.2.2)
              refine ⟨_, rfl, ?_⟩
              replace HO_5 := Aside0.mk (Kd.N_below (kN_ HO_5.out) hb); replace HO_9 := Aside0.mk (Kd.R_below (kR_ HO_9.out) hb); replace HO_10 := Aside0.mk (Kd.N_below (kN_ HO_10.out) hb); replace HO_308008 := Aside0.mk (Kd.R_below (kR_ HO_308008.out) hb); replace HL324_8 := Aside0.mk (Kd.V_below (kV_ HL324_8.out) hb); replace HL325_8 := Aside0.mk (Kd.V_below (kV_ HL325_8.out) hb); replace BK307 := (bbA_ BK307 hb); replace HR324_8 := Aside0.mk (Kd.C_below (by repeat (first | (with_reducible exact HR324_8.out) | (with_reducible exact Kd.C_drewN HR324_8.out _) | (with_reducible refine Kd.C_alloc ?_ _) | (with_reducible refine Kd.C_drewN ?_ _) | (with_reducible refine Kd.C_drew ?_) | exact HR324_8.out)) hb); replace HR325_8 := Aside0.mk (Kd.C_below (by repeat (first | (with_reducible exact HR325_8.out) | (with_reducible exact Kd.C_drewN HR325_8.out _) | (with_reducible refine Kd.C_alloc ?_ _) | (with_reducible refine Kd.C_drewN ?_ _) | (with_reducible refine Kd.C_drew ?_) | exact HR325_8.out)) hb); replace HB := (bs_ HB hb); (try clear hb); (try clear hb2); (try clear hk); (try clear hi)
              obtain ⟨Ao43, co43, eo43⟩ := Kd.R_slice HO_9.out
              (first | subst eo43 | (injection eo43 with f1_ f2_ f3_; have f4_ := f1_.symm; have f5_ := f3_.symm; clear f1_ f2_ f3_; subst f4_; subst f5_))
              refine hK.out _ _ ⟨bc_ BK307 0, bc_ BK307 1, bc_ BK307 2, bc_ BK307 3, bc_ BK307 4, bc_ BK307 5, bc_ BK307 6, bc_ BK307 7, bc_ BK307 8, HS9_, HS10_, HS11_, HS12_, HS13_, HS14_, HS15_, HS16_, HS17_, HS18_, HS19_, HS20_, HS21_, HS22_, HS23_, HS24_, HS25_, HS26_, HS27_, HS28_, HS29_, HS30_, HS31_, HS32_, HS33_, HS34_, HS35_⟩ (fun hHeld => ?_)
              clear hK K; refine nm_ 74 ?_; refine pu_ (i := 14) (N := some 75) HT_ ?_; refine pu_ (i := 15) (N := some 76) HT_ ?_; refine pu_ (i := 16) (N := some 77) HT_ ?_; refine pu_ (i := 17) (N := some 78) HT_ ?_; refine pu_ (i := 18) (N := some 79) HT_ ?_; refine pu_ (i := 19) (N := some 80) HT_ ?_; refine pu_ (i := 20) (N := some 81) HT_ ?_; refine pu_ (i := 22) (N := some 83) HT_ ?_; refine pu_ (i := 24) (N := some 85) HT_ ?_; refine pu_ (i := 25) (N := some 86) HT_ ?_; refine tk_ (i := 21) (N := some 82) HT_ HW_ hHeld ?_; refine tk_ (i := 23) (N := some 84) HT_ HW_ hHeld ?_; refine pu_ (i := 26) (N := some 87) HT_ ?_; refine pu_ (i := 27) (N := some 88) HT_ ?_; refine pu_ (i := 28) (N := some 89) HT_ ?_; refine pu_ (i := 29) (N := some 90) HT_ ?_; refine pn_ (i := 30) (N := some 91) HT_ ?_; refine pn_ (i := 31) (N := some 92) HT_ ?_; refine pn_ (i := 32) (N := some 93) HT_ ?_; refine pn_ (i := 33) (N := some 94) HT_ ?_; refine pn_ (i := 34) (N := some 95) HT_ ?_; refine pn_ (i := 35) (N := some 96) HT_ ?_; refine pn_ (i := 36) (N := some 97) HT_ ?_; refine pn_ (i := 37) (N := some 98) HT_ ?_; refine pn_ (i := 38) (N := some 99) HT_ ?_; refine pn_ (i := 39) (N := some 100) HT_ ?_; refine pn_ (i := 40) (N := some 101) HT_ ?_; refine pn_ (i := 41) (N := some 102) HT_ ?_; refine pn_ (i := 42) (N := some 103) HT_ ?_; refine pn_ (i := 43) (N := some 104) HT_ ?_; refine pn_ (i := 44) (N := some 105) HT_ ?_; refine pu_ (i := 45) (N := some 106) HT_ ?_
              refine done_ (done_of HT_.out (by kernel_rfl)) ?_
              try go_wp2
              go_meet
              case rel => exact ⟨_, (true), (by first | rfl | (simp; done) | (simp [*]; done)), H', ⟨by have := HJ5.out; have := HK2.out; first | omega | exact Nat.le_refl _⟩, ⟨by refine kN_ ?_; exact HO_5.out⟩, ⟨kR_ HO_9.out⟩, ⟨by refine kN_ ?_; exact HO_10.out⟩, ⟨kR_ HO_308008.out⟩, ⟨by refine kb_ ?_; exact BK307.out⟩, ⟨hbA_ HB.out⟩⟩
            ·replace c32 := Bool.eq_false_iff.mpr c32
             subst c32
             rw [if_neg (show ¬ (false = true) by decide)] at H
             have H' := Aside0.mk H
             clear H
             try go_wp2
             replace HO_5 := Aside0.mk (Kd.N_drew HO_5.out); replace HO_9 := Aside0.mk (Kd.R_drew HO_9.out); replace HO_10 := Aside0.mk (Kd.N_drew HO_10.out); replace HO_308008 := Aside0.mk (Kd.R_drew HO_308008.out); replace BK307 := Aside0.mk (blk_drew BK307.out); replace HB := (bd_ HB)
             have p324 : 0 ≤ (x11_2 : Int) := of_decide_eq_true (by first | (with_reducible assumption) | assumption)
             have q324 : x11_2 < (t308.length : Int) := of_decide_eq_true (by first | (with_reducible assumption) | assumption)
             obtain ⟨ad324, A324_8, c324_8, e324, hx324_0, hx324_1, hx324_2, hx324_3, hx324_4, hx324_5, hx324_6, hx324_7, hx324_8, hl324_8, hi324_8⟩ := at_T24 (Kd.N_reads' HO_5.out).2.2 x11_2 p324 q324
             cases e324
             obtain ⟨ce324, hce324, hMe324, hcc324⟩ := Kd.N_get HO_5.out z24 x11_2 p324 (by first | exact q324 | exact of_decide_eq_true (by first | (with_reducible assumption) | assumption) | (have e_ := (Kd.N_reads' HO_5.out).1; omega))
             obtain ⟨ua324_8, uc324_8, rfl, ul324_8, ge324_8⟩ := k24_openF hMe324
             have hv324_8 := hcc324 8 _ rfl
             rw [add_field _ _ 8 (by omega)] at hv324_8
             replace hv324_8 := Option.some.inj (hv324_8.symm.trans hx324_8)
             injection hv324_8 with hva_ hvn_ hvc_
             rw [hva_] at ge324_8
             rw [hvc_] at ul324_8
             have HL324_8 := Aside0.mk (show Kd.V (Kd.int .u8) 5 _ w.heap.size _ _ ((rd_T24 t308 x11_2).f8) from Kd.V_mk ul324_8 ge324_8)
             clear hva_ hvn_ hvc_ ge324_8 ul324_8 hcc324 hce324; have HR324_8 := Aside0.mk hi324_8; have HC324_8 := Aside0.mk hl324_8; clear hi324_8 hl324_8
             replace p324 := eq_true p324
             replace q324 := eq_true q324
             have p325 : 0 ≤ (x11_2 : Int) := of_decide_eq_true (by first | (with_reducible assumption) | assumption)
             have q325 : x11_2 < (t308.length : Int) := of_decide_eq_true (by first | (with_reducible assumption) | assumption)
             obtain ⟨ad325, A325_8, c325_8, e325, hx325_0, hx325_1, hx325_2, hx325_3, hx325_4, hx325_5, hx325_6, hx325_7, hx325_8, hl325_8, hi325_8⟩ := at_T24 (Kd.N_reads' HO_5.out).2.2 x11_2 p325 q325
             obtain rfl : ad324 = ad325 := (by injection e325)
             obtain ⟨ce325, hce325, hMe325, hcc325⟩ := Kd.N_get HO_5.out z24 x11_2 p325 (by first | exact q325 | exact of_decide_eq_true (by first | (with_reducible assumption) | assumption) | (have e_ := (Kd.N_reads' HO_5.out).1; omega))
             obtain ⟨ua325_8, uc325_8, rfl, ul325_8, ge325_8⟩ := k24_openF hMe325
             have hv325_8 := hcc325 8 _ rfl
             rw [add_field _ _ 8 (by omega)] at hv325_8
             replace hv325_8 := Option.some.inj (hv325_8.symm.trans hx325_8)
             injection hv325_8 with hva_ hvn_ hvc_
             rw [hva_] at ge325_8
             rw [hvc_] at ul325_8
             have HL325_8 := Aside0.mk (show Kd.V (Kd.int .u8) 5 _ w.heap.size _ _ ((rd_T24 t308 x11_2).f8) from Kd.V_mk ul325_8 ge325_8)
             clear hva_ hvn_ hvc_ ge325_8 ul325_8 hcc325 hce325; have HR325_8 := Aside0.mk hi325_8; have HC325_8 := Aside0.mk hl325_8; clear hi325_8 hl325_8
             replace p325 := eq_true p325
             replace q325 := eq_true q325
             have ea_ := Option.some.inj (hx324_8.symm.trans hx325_8)
             injection ea_ with ea_ en_ ec_
             subst ea_; subst ec_; clear en_
             refine start_ (n := 46) (S := fun w' => w'.cell? (ad324.add ((x11_2).toNat * 9)) = some (.int .i64 ((rd_T24 t308 x11_2).f0)) ∧ w'.cell? ⟨(ad324.add ((x11_2).toNat * 9)).block, (ad324.add ((x11_2).toNat * 9)).off + 1, none⟩ = some (.int .i64 ((rd_T24 t308 x11_2).f1)) ∧ w'.cell? ⟨(ad324.add ((x11_2).toNat * 9)).block, (ad324.add ((x11_2).toNat * 9)).off + 2, none⟩ = some (.int .i64 ((rd_T24 t308 x11_2).f2)) ∧ w'.cell? ⟨(ad324.add ((x11_2).toNat * 9)).block, (ad324.add ((x11_2).toNat * 9)).off + 3, none⟩ = some (.int .i64 ((rd_T24 t308 x11_2).f3)) ∧ w'.cell? ⟨(ad324.add ((x11_2).toNat * 9)).block, (ad324.add ((x11_2).toNat * 9)).off + 4, none⟩ = some (.int .i64 ((rd_T24 t308 x11_2).f4)) ∧ w'.cell? ⟨(ad324.add ((x11_2).toNat * 9)).block, (ad324.add ((x11_2).toNat * 9)).off + 5, none⟩ = some (.int .i64 ((rd_T24 t308 x11_2).f5)) ∧ w'.cell? ⟨(ad324.add ((x11_2).toNat * 9)).block, (ad324.add ((x11_2).toNat * 9)).off + 6, none⟩ = some (.bool ((rd_T24 t308 x11_2).f6)) ∧ w'.cell? ⟨(ad324.add ((x11_2).toNat * 9)).block, (ad324.add ((x11_2).toNat * 9)).off + 7, none⟩ = some (.bool ((rd_T24 t308 x11_2).f7)) ∧ w'.cell? ⟨(ad324.add ((x11_2).toNat * 9)).block, (ad324.add ((x11_2).toNat * 9)).off + 8, none⟩ = some (.slice A324_8 ((rd_T24 t308 x11_2).f8).length c324_8) ∧ w'.cell? (ad324.add ((x11_2).toNat * 9)) = some (.int .i64 ((rd_T24 t308 x11_2).f0)) ∧ w'.cell? ⟨(ad324.add ((x11_2).toNat * 9)).block, (ad324.add ((x11_2).toNat * 9)).off + 1, none⟩ = some (.int .i64 ((rd_T24 t308 x11_2).f1)) ∧ w'.cell? ⟨(ad324.add ((x11_2).toNat * 9)).block, (ad324.add ((x11_2).toNat * 9)).off + 2, none⟩ = some (.int .i64 ((rd_T24 t308 x11_2).f2)) ∧ w'.cell? ⟨(ad324.add ((x11_2).toNat * 9)).block, (ad324.add ((x11_2).toNat * 9)).off + 3, none⟩ = some (.int .i64 ((rd_T24 t308 x11_2).f3)) ∧ w'.cell? ⟨(ad324.add ((x11_2).toNat * 9)).block, (ad324.add ((x11_2).toNat * 9)).off + 4, none⟩ = some (.int .i64 ((rd_T24 t308 x11_2).f4)) ∧ w'.cell? ⟨(ad324.add ((x11_2).toNat * 9)).block, (ad324.add ((x11_2).toNat * 9)).off + 5, none⟩ = some (.int .i64 ((rd_T24 t308 x11_2).f5)) ∧ w'.cell? ⟨(ad324.add ((x11_2).toNat * 9)).block, (ad324.add ((x11_2).toNat * 9)).off + 6, none⟩ = some (.bool ((rd_T24 t308 x11_2).f6)) ∧ w'.cell? ⟨(ad324.add ((x11_2).toNat * 9)).block, (ad324.add ((x11_2).toNat * 9)).off + 7, none⟩ = some (.bool ((rd_T24 t308 x11_2).f7)) ∧ w'.cell? ⟨(ad324.add ((x11_2).toNat * 9)).block, (ad324.add ((x11_2).toNat * 9)).off + 8, none⟩ = some (.slice A324_8 ((rd_T24 t308 x11_2).f8).length c324_8)) (ds := []) #[false, false, false, false, false, false, false, false, false, false, false, false, false, false, false, false, false, false, false, false, false, false, false, false, false, false, false, false, false, false, false, false, false, false, false, false, false, false, false, false, false, false, false, false, false, false] (by kernel_rfl) rfl rfl ⟨hx324_0, hx324_1, hx324_2, hx324_3, hx324_4, hx324_5, hx324_6, hx324_7, hx324_8, hx325_0, hx325_1, hx325_2, hx325_3, hx325_4, hx325_5, hx325_6, hx325_7, hx325_8⟩ (fun hHeld => ?_); refine with_tabW laws_FnPacketCut.tab15 laws_FnPacketCut.bits15 (fun HT_ HW_ => ?_)
             generalize wr.drew = w44 at HO_5 HO_9 HO_10 HO_308008 BK307 HB HL324_8 HL325_8 HR324_8 HR325_8 hx324_0 hx324_1 hx324_2 hx324_3 hx324_4 hx324_5 hx324_6 hx324_7 hx324_8 hx325_0 hx325_1 hx325_2 hx325_3 hx325_4 hx325_5 hx325_6 hx325_7 hx325_8 hHeld ⊢
             refine pu_ (i := 0) (N := some 61) HT_ ?_; refine pu_ (i := 1) (N := some 62) HT_ ?_; refine pu_ (i := 2) (N := some 63) HT_ ?_; refine pu_ (i := 3) (N := some 64) HT_ ?_; refine pu_ (i := 6) (N := some 67) HT_ ?_; refine tk_ (i := 4) (N := some 65) HT_ HW_ hHeld ?_; refine pu_ (i := 5) (N := some 66) HT_ ?_; refine pu_ (i := 7) (N := some 68) HT_ ?_; refine pu_ (i := 8) (N := some 69) HT_ ?_; refine pu_ (i := 9) (N := some 70) HT_ ?_; refine pu_ (i := 10) (N := some 71) HT_ ?_; refine pu_ (i := 11) (N := some 72) HT_ ?_; refine tk_ (i := 12) (N := some 73) HT_ HW_ hHeld ?_
             refine on_ (i := 13) (N := some 74) HT_ (fun K hK => ?_)
             refine goes_ Try.func14 (by kernel_rfl) rfl #[.agg #[.int .i64 ((rd_T24 t308 x11_2).f0), .int .i64 ((rd_T24 t308 x11_2).f1), .int .i64 ((rd_T24 t308 x11_2).f2), .int .i64 ((rd_T24 t308 x11_2).f3), .int .i64 ((rd_T24 t308 x11_2).f4), .int .i64 ((rd_T24 t308 x11_2).f5), .bool ((rd_T24 t308 x11_2).f6), .bool ((rd_T24 t308 x11_2).f7), .slice A324_8 ((rd_T24 t308 x11_2).f8).length c324_8]] (by rfl) rfl rfl ar_ ?_
             with_reducible refine (impl_PacketOk.calls ((rd_T24 t308 x11_2).f0) ((rd_T24 t308 x11_2).f1) ((rd_T24 t308 x11_2).f2) ((rd_T24 t308 x11_2).f3) ((rd_T24 t308 x11_2).f4) ((rd_T24 t308 x11_2).f5) ((rd_T24 t308 x11_2).f6) ((rd_T24 t308 x11_2).f7) _ _ ((rd_T24 t308 x11_2).f8) false _ ?side1 ?side2 A31.out).mono ?_
             (case side1 => exact kC_ (by repeat (first | (with_reducible exact HR325_8.out) | (with_reducible exact Kd.C_drewN HR325_8.out _) | (with_reducible refine Kd.C_alloc ?_ _) | (with_reducible refine Kd.C_drewN ?_ _) | (with_reducible refine Kd.C_drew ?_) | exact HR325_8.out)))
             (case side2 => exact HC325_8.out)
             rintro e w45 ⟨rfl, hb⟩
             have HS0_ := (hb.cell (World.block_lt_of_cell? _ _ (hHeld.1))).trans (hHeld.1)
             have HS1_ := (hb.cell (World.block_lt_of_cell? _ _ (hHeld.2.1))).trans (hHeld.2.1)
             have HS2_ := (hb.cell (World.block_lt_of_cell? _ _ (hHeld.2.2.1))).trans (hHeld.2.2.1)
             have HS3_ := (hb.cell (World.block_lt_of_cell? _ _ (hHeld.2.2.2.1))).trans (hHeld.2.2.2.1)
             have HS4_ := (hb.cell (World.block_lt_of_cell? _ _ (hHeld.2.2.2.2.1))).trans (hHeld.2.2.2.2.1)
             have HS5_ := (hb.cell (World.block_lt_of_cell? _ _ (hHeld.2.2.2.2.2.1))).trans (hHeld.2.2.2.2.2.1)
             have HS6_ := (hb.cell (World.block_lt_of_cell? _ _ (hHeld.2.2.2.2.2.2.1))).trans (hHeld.2.2.2.2.2.2.1)
             have HS7_ := (hb.cell (World.block_lt_of_cell? _ _ (hHeld.2.2.2.2.2.2.2.1))).trans (hHeld.2.2.2.2.2.2.2.1)
             have HS8_ := (hb.cell (World.block_lt_of_cell? _ _ (hHeld.2.2.2.2.2.2.2.2.1))).trans (hHeld.2.2.2.2.2.2.2.2.1)
             have HS9_ := (hb.cell (World.block_lt_of_cell? _ _ (hHeld.2.2.2.2.2.2.2.2.2.1))).trans (hHeld.2.2.2.2.2.2.2.2.2.1)
             have HS10_ := (hb.cell (World.block_lt_of_cell? _ _ (hHeld.2.2.2.2.2.2.2.2.2.2.1))).trans (hHeld.2.2.2.2.2.2.2.2.2.2.1)
             have HS11_ := (hb.cell (World.block_lt_of_cell? _ _ (hHeld.2.2.2.2.2.2.2.2.2.2.2.1))).trans (hHeld.2.2.2.2.2.2.2.2.2.2.2.1)
             have HS12_ := (hb.cell (World.block_lt_of_cell? _ _ (hHeld.2.2.2.2.2.2.2.2.2.2.2.2.1))).trans (hHeld.2.2.2.2.2.2.2.2.2.2.2.2.1)
             have HS13_ := (hb.cell (World.block_lt_of_cell? _ _ (hHeld.2.2.2.2.2.2.2.2.2.2.2.2.2.1))).trans (hHeld.2.2.2.2.2.2.2.2.2.2.2.2.2.1)
             have HS14_ := (hb.cell (World.block_lt_of_cell? _ _ (hHeld.2.2.2.2.2.2.2.2.2.2.2.2.2.2.1))).trans (hHeld.2.2.2.2.2.2.2.2.2.2.2.2.2.2.1)
             have HS15_ := (hb.cell (World.block_lt_of_cell? _ _ (hHeld.2.2.2.2.2.2.2.2.2.2.2.2.2.2.2.1))).trans (hHeld.2.2.2.2.2.2.2.2.2.2.2.2.2.2.2.1)
             have HS16_ := (hb.cell (World.block_lt_of_cell? _ _ (hHeld.2.2.2.2.2.2.2.2.2.2.2.2.2.2.2.2.1))).trans (hHeld.2.2.2.2.2.2.2.2.2.2.2.2.2.2.2.2.1)
             have HS17_ := (hb.cell (World.block_lt_of_cell? _ _ (hHeld.2.2.2.2.2.2.2.2.2.2.2.2.2.2.2.2.2))).trans (hHeld.2.2.2.2.2.2.2.2.2.2.2.2.2.2.2.2.2)
             refine ⟨_, rfl, ?_⟩
             replace HO_5 := Aside0.mk (Kd.N_below (kN_ HO_5.out) hb); replace HO_9 := Aside0.mk (Kd.R_below (kR_ HO_9.out) hb); replace HO_10 := Aside0.mk (Kd.N_below (kN_ HO_10.out) hb); replace HO_308008 := Aside0.mk (Kd.R_below (kR_ HO_308008.out) hb); replace HL324_8 := Aside0.mk (Kd.V_below (kV_ HL324_8.out) hb); replace HL325_8 := Aside0.mk (Kd.V_below (kV_ HL325_8.out) hb); replace BK307 := (bbA_ BK307 hb); replace HR324_8 := Aside0.mk (Kd.C_below (by repeat (first | (with_reducible exact HR324_8.out) | (with_reducible exact Kd.C_drewN HR324_8.out _) | (with_reducible refine Kd.C_alloc ?_ _) | (with_reducible refine Kd.C_drewN ?_ _) | (with_reducible refine Kd.C_drew ?_) | exact HR324_8.out)) hb); replace HR325_8 := Aside0.mk (Kd.C_below (by repeat (first | (with_reducible exact HR325_8.out) | (with_reducible exact Kd.C_drewN HR325_8.out _) | (with_reducible refine Kd.C_alloc ?_ _) | (with_reducible refine Kd.C_drewN ?_ _) | (with_reducible refine Kd.C_drew ?_) | exact HR325_8.out)) hb); replace HB := (bs_ HB hb); (try clear hb); (try clear hb2); (try clear hk); (try clear hi)
             refine hK.out _ _ ⟨HS0_, HS1_, HS2_, HS3_, HS4_, HS5_, HS6_, HS7_, HS8_, HS9_, HS10_, HS11_, HS12_, HS13_, HS14_, HS15_, HS16_, HS17_⟩ (fun hHeld => ?_)
             clear hK K; refine nm_ 74 ?_; refine pu_ (i := 14) (N := some 75) HT_ ?_; refine pu_ (i := 15) (N := some 76) HT_ ?_; refine pu_ (i := 16) (N := some 77) HT_ ?_; refine pn_ (i := 17) (N := some 78) HT_ ?_; refine pn_ (i := 18) (N := some 79) HT_ ?_; refine pn_ (i := 19) (N := some 80) HT_ ?_; refine pn_ (i := 20) (N := some 81) HT_ ?_; refine pn_ (i := 21) (N := some 82) HT_ ?_; refine pn_ (i := 22) (N := some 83) HT_ ?_; refine pn_ (i := 23) (N := some 84) HT_ ?_; refine pn_ (i := 24) (N := some 85) HT_ ?_; refine pn_ (i := 25) (N := some 86) HT_ ?_; refine pn_ (i := 26) (N := some 87) HT_ ?_; refine pn_ (i := 27) (N := some 88) HT_ ?_; refine pu_ (i := 28) (N := some 89) HT_ ?_; refine pu_ (i := 29) (N := some 90) HT_ ?_; refine pn_ (i := 30) (N := some 91) HT_ ?_; refine pn_ (i := 31) (N := some 92) HT_ ?_; refine pn_ (i := 32) (N := some 93) HT_ ?_; refine pn_ (i := 33) (N := some 94) HT_ ?_; refine pn_ (i := 34) (N := some 95) HT_ ?_; refine pn_ (i := 35) (N := some 96) HT_ ?_; refine pn_ (i := 36) (N := some 97) HT_ ?_; refine pn_ (i := 37) (N := some 98) HT_ ?_; refine pn_ (i := 38) (N := some 99) HT_ ?_; refine pn_ (i := 39) (N := some 100) HT_ ?_; refine pn_ (i := 40) (N := some 101) HT_ ?_; refine pn_ (i := 41) (N := some 102) HT_ ?_; refine pn_ (i := 42) (N := some 103) HT_ ?_; refine pn_ (i := 43) (N := some 104) HT_ ?_; refine pn_ (i := 44) (N := some 105) HT_ ?_; refine pu_ (i := 45) (N := some 106) HT_ ?_
             refine done_ (done_of HT_.out (by kernel_rfl)) ?_
             try go_wp2
             go_meet
             case rel => exact ⟨_, (true), (by first | rfl | (simp; done) | (simp [*]; done)), H', ⟨by have := HJ5.out; have := HK2.out; first | omega | exact Nat.le_refl _⟩, ⟨by refine kN_ ?_; exact HO_5.out⟩, ⟨kR_ HO_9.out⟩, ⟨by refine kN_ ?_; exact HO_10.out⟩, ⟨kR_ HO_308008.out⟩, ⟨by refine kb_ ?_; exact BK307.out⟩, ⟨hbA_ HB.out⟩⟩
          ·rw [if_neg c28] at H
           exact absurd H (by simp)
         case rest =>
          clear HC26; (try clear c1); (try clear c2); (try clear p2); (try clear c3); (try clear p3); (try clear q3); (try clear hx3); (try clear c14); (try clear c28); (try clear c32); (try clear p32); (try clear q32); (try clear hx32); (try clear hx324_0); (try clear hx324_1); (try clear hx324_2); (try clear hx324_3); (try clear hx324_4); (try clear hx324_5); (try clear hx324_6); (try clear hx324_7); (try clear hx324_8); (try clear hx325_0); (try clear hx325_1); (try clear hx325_2); (try clear hx325_3); (try clear hx325_4); (try clear hx325_5); (try clear hx325_6); (try clear hx325_7); (try clear hx325_8); (try clear p324); (try clear p325); (try clear q324); (try clear q325)
          obtain ⟨kq, x106_25, rfl, HA, HJ25, HO_5, HO_9, HO_10, HO_308008, BK307, HB⟩ := hcut
          cases kq with
          | zero => exact absurd HA.out (by simp [laws_FnPacketCut.j2])
          | succ kj25 =>
           have H := HA.out; clear HA
           simp only [laws_FnPacketCut.j2] at H
           by_cases c46 : x106_25 = true
           ·subst c46
            rw [if_pos rfl] at H
            exact absurd (Option.some.inj H) (by rw [HLW.out]; exact Bool.false_ne_true)
           ·replace c46 := Bool.eq_false_iff.mpr c46
            subst c46
            rw [if_neg (show ¬ (false = true) by decide)] at H
            by_cases c47 : 0 ≤ x11_2
            ·rw [if_pos c47] at H
             have c47b0 : decide (0 ≤ x11_2) = true := decide_eq_true c47
             clear c47
             by_cases c48 : x11_2 < (t308.length : Int)
             ·rw [if_pos c48] at H
              have c48b0 : decide (x11_2 < (t308.length : Int)) = true := decide_eq_true c48
              clear c48
              by_cases c49 : x9_2.length + ((rd_T24 t308 x11_2).f8).length < 140737488355328
              ·rw [if_pos c49] at H
               have LMc49 := Aside0.mk c49; clear c49
               obtain ⟨y330, hy330⟩ : ∃ y_ : List Int, y_ = (x9_2 ++ ((rd_T24 t308 x11_2).f8)) := ⟨_, rfl⟩
               (first | replace H := sb_ hy330 H | rw [← hy330] at H)
               have Ny330 := Aside0.mk hy330; clear hy330
               replace H := Option.bind_eq_some_iff.mp H
               obtain ⟨⟨t334, t337⟩, A500, H⟩ := H
               (try dsimp only at H)
               have A50 := Aside0.mk A500; clear A500
               by_cases c51 : x10_2.length + t334.length < 1759218604441
               ·rw [if_pos c51] at H
                have LMc51 := Aside0.mk c51; clear c51
                obtain ⟨y338, hy338⟩ : ∃ y_ : List (S24), y_ = (x10_2 ++ t334) := ⟨_, rfl⟩
                (first | replace H := sb_ hy338 H | rw [← hy338] at H)
                have Ny338 := Aside0.mk hy338; clear hy338
                have H' := Aside0.mk H
                clear H
                have p329 : 0 ≤ (x11_2 : Int) := of_decide_eq_true (by first | (with_reducible assumption) | assumption)
                have q329 : x11_2 < (t308.length : Int) := of_decide_eq_true (by first | (with_reducible assumption) | assumption)
                obtain ⟨ad329, A329_8, c329_8, e329, hx329_0, hx329_1, hx329_2, hx329_3, hx329_4, hx329_5, hx329_6, hx329_7, hx329_8, hl329_8, hi329_8⟩ := at_T24 (Kd.N_reads' HO_5.out).2.2 x11_2 p329 q329
                cases e329
                obtain ⟨ce329, hce329, hMe329, hcc329⟩ := Kd.N_get HO_5.out z24 x11_2 p329 (by first | exact q329 | exact of_decide_eq_true (by first | (with_reducible assumption) | assumption) | (have e_ := (Kd.N_reads' HO_5.out).1; omega))
                obtain ⟨ua329_8, uc329_8, rfl, ul329_8, ge329_8⟩ := k24_openF hMe329
                have hv329_8 := hcc329 8 _ rfl
                rw [add_field _ _ 8 (by omega)] at hv329_8
                replace hv329_8 := Option.some.inj (hv329_8.symm.trans hx329_8)
                injection hv329_8 with hva_ hvn_ hvc_
                rw [hva_] at ge329_8
                rw [hvc_] at ul329_8
                have HL329_8 := Aside0.mk (show Kd.V (Kd.int .u8) 5 _ w.heap.size _ _ ((rd_T24 t308 x11_2).f8) from Kd.V_mk ul329_8 ge329_8)
                clear hva_ hvn_ hvc_ ge329_8 ul329_8 hcc329 hce329; have HR329_8 := Aside0.mk hi329_8; have HC329_8 := Aside0.mk hl329_8; clear hi329_8 hl329_8
                replace p329 := eq_true p329
                replace q329 := eq_true q329
                go_wp2_with (first | ((with_reducible refine gate_builtin (b := .append) (xs := #[.tmp 107, .tmp 112]) rfl ?_); (try (refine gate_guard (by rfl) ?_; dsimp only)); at_builtin; refine Kd.R_append_rows (Kd.int .u8) (w0 := w) w.heap.size rfl (.tmp 107) (.tmp 112) 22 5 (.int .u8 0) 1 rfl Try.underlying22 info5 rfl (by decide) (by omega) u9 x9_2 ((rd_T24 t308 x11_2).f8) _ _ _ (fun k_ => some k_ ≠ (.slice Ao10 t303.length co10 : Value).ownBlock) (fun _ => False) rfl rfl ?aO ?aR (fun _ _ h => h) (fun _ h => h.elim) ?aF ?aB ?aS ?aL ?_; (case aR => exact kC_ (by repeat (first | (with_reducible exact HR329_8.out) | (with_reducible exact Kd.C_drewN HR329_8.out _) | (with_reducible refine Kd.C_alloc ?_ _) | (with_reducible refine Kd.C_drewN ?_ _) | (with_reducible refine Kd.C_drew ?_) | exact HR329_8.out))); (case aB => exact (hbA_ HB.out)); (case aF => exact (fun k_ hk => Kd.fresh' (Kd.R_lt (kR_ HO_308008.out)) k_ hk)); (case aO => exact (kR_ HO_9.out)); (case aS => exact (below_size (hbA_ HB.out))); (case aL => have := LMc49.out; omega); intro v331 w52 ho hb hg hat; rw [← Ny330.out] at ho; replace HO_5 := Aside0.mk (Kd.N_afterv (ok := (fun k_ => some k_ ≠ (u10 : Value).ownBlock ∧ some k_ ≠ (.slice Ao10 t303.length co10 : Value).ownBlock ∧ k_ ≠ gb307)) (by refine kN_ ?_; exact Kd.N_mono HO_5.out (fun _ hk => ⟨⟨hk.2.1, ⟨hk.2.2.1, hk.2.2.2⟩⟩, hk.1⟩)) hg hat); replace HO_10 := Aside0.mk (Kd.N_afterv (ok := (fun k_ => some k_ ≠ (.slice (some ad329) t308.length co27 : Value).ownBlock ∧ some k_ ≠ (.slice Ao10 t303.length co10 : Value).ownBlock ∧ k_ ≠ gb307)) (by refine kN_ ?_; exact Kd.N_mono HO_10.out (fun _ hk => ⟨⟨hk.1, ⟨hk.2.2.1, hk.2.2.2⟩⟩, hk.2.1⟩)) hg hat); replace HO_308008 := Aside0.mk (Kd.R_after (ok := (fun _ => True)) (by refine kR_ ?_; exact Kd.R_mono HO_308008.out (fun _ hk => ⟨trivial, hk⟩)) hg hat); replace BK307 := (bgA_ BK307 hg (Kd.R_ne HO_9.out BK307.out (by decide))); replace HL329_8 := Aside0.mk (Kd.V_afterv (ok := (fun k_ => some k_ ≠ (.slice (some ad329) t308.length co27 : Value).ownBlock ∧ some k_ ≠ (u10 : Value).ownBlock ∧ some k_ ≠ (.slice Ao10 t303.length co10 : Value).ownBlock ∧ k_ ≠ gb307)) (by refine kV_ ?_; exact Kd.V_mono HL329_8.out (fun _ hk => ⟨⟨hk.2, ⟨hk.1.2.1, ⟨hk.1.2.2.1, hk.1.2.2.2⟩⟩⟩, hk.1.1⟩)) hg hat); replace HB := Aside0.mk (hb); have HO332 := Aside0.mk (ho); clear HO_9; clear ho hb hg hat; have p333 : 0 ≤ (x11_2 : Int) := of_decide_eq_true (by first | (with_reducible assumption) | assumption); have q333 : x11_2 < (t308.length : Int) := of_decide_eq_true (by first | (with_reducible assumption) | assumption); obtain ⟨ad333, A333_8, c333_8, e333, hx333_0, hx333_1, hx333_2, hx333_3, hx333_4, hx333_5, hx333_6, hx333_7, hx333_8, hl333_8, hi333_8⟩ := at_T24 (Kd.N_reads' HO_5.out).2.2 x11_2 p333 q333; obtain rfl : ad329 = ad333 := (by injection e333); obtain ⟨ce333, hce333, hMe333, hcc333⟩ := Kd.N_get HO_5.out z24 x11_2 p333 (by first | exact q333 | exact of_decide_eq_true (by first | (with_reducible assumption) | assumption) | (have e_ := (Kd.N_reads' HO_5.out).1; omega)); obtain ⟨ua333_8, uc333_8, rfl, ul333_8, ge333_8⟩ := k24_openF hMe333; have hv333_8 := hcc333 8 _ rfl; rw [add_field _ _ 8 (by omega)] at hv333_8; replace hv333_8 := Option.some.inj (hv333_8.symm.trans hx333_8); injection hv333_8 with hva_ hvn_ hvc_; rw [hva_] at ge333_8; rw [hvc_] at ul333_8; have HL333_8 := Aside0.mk (show Kd.V (Kd.int .u8) 5 _ w.heap.size _ _ ((rd_T24 t308 x11_2).f8) from Kd.V_mk ul333_8 ge333_8); clear hva_ hvn_ hvc_ ge333_8 ul333_8; clear hcc333 hce333; have HR333_8 := Aside0.mk hi333_8; have HC333_8 := Aside0.mk hl333_8; clear hi333_8 hl333_8; replace p333 := eq_true p333; replace q333 := eq_true q333) | ((with_reducible refine gate_callee (f := 10) rfl ?_); refine goesL_ (some 119) rfl rfl Try.func10 (by kernel_rfl) rfl #[.agg #[.int .i64 ((rd_T24 t308 x11_2).f0), .int .i64 ((rd_T24 t308 x11_2).f1), .int .i64 ((rd_T24 t308 x11_2).f2), .int .i64 ((rd_T24 t308 x11_2).f3), .int .i64 ((rd_T24 t308 x11_2).f4), .int .i64 ((rd_T24 t308 x11_2).f5), .bool ((rd_T24 t308 x11_2).f6), .bool ((rd_T24 t308 x11_2).f7), .slice A333_8 ((rd_T24 t308 x11_2).f8).length c333_8], .int .i64 1] rfl ar_ ?_; (with_reducible refine (impl_PacketCut.calls ((rd_T24 t308 x11_2).f0) ((rd_T24 t308 x11_2).f1) ((rd_T24 t308 x11_2).f2) ((rd_T24 t308 x11_2).f3) ((rd_T24 t308 x11_2).f4) ((rd_T24 t308 x11_2).f5) ((rd_T24 t308 x11_2).f6) ((rd_T24 t308 x11_2).f7) _ _ ((rd_T24 t308 x11_2).f8) 1 t334 t337 _ ?side1 ?side2 A50.out).mono ?_); (case side1 => exact kC_ (by repeat (first | (with_reducible exact HR333_8.out) | (with_reducible exact Kd.C_drewN HR333_8.out _) | (with_reducible refine Kd.C_alloc ?_ _) | (with_reducible refine Kd.C_drewN ?_ _) | (with_reducible refine Kd.C_drew ?_) | exact HR333_8.out))); (case side2 => exact HC333_8.out); rintro e w53 ⟨v335, rfl, ho0, hb⟩; refine ⟨_, rfl, ?_⟩; replace HL329_8 := Aside0.mk (Kd.V_elder' (kV_ HL329_8.out) (Kd.base_ ho0) hb); replace HL333_8 := Aside0.mk (Kd.V_elder' (kV_ HL333_8.out) (Kd.base_ ho0) hb); have HO336 := Aside0.mk (Kd.N_lower (Kd.N_mono (ok' := fun k_ => some k_ ≠ (.slice (some ad329) t308.length co27 : Value).ownBlock ∧ some k_ ≠ (u10 : Value).ownBlock ∧ some k_ ≠ (.slice Ao10 t303.length co10 : Value).ownBlock ∧ some k_ ≠ (v331 : Value).ownBlock ∧ k_ ≠ gb307) (Kd.S_N (Kd.S_bound ho0)) (fun k_ hk_ => ⟨(Kd.fresh' (Kd.N_lt (kN_ HO_5.out)) k_ hk_.2.1), (Kd.fresh' (Kd.N_lt (kN_ HO_10.out)) k_ hk_.2.1), (Kd.fresh' (Kd.R_lt (kR_ HO_308008.out)) k_ hk_.2.1), (Kd.fresh' (Kd.R_lt (kR_ HO332.out)) k_ hk_.2.1), (fb_ BK307 k_ hk_.2.1)⟩)) (below_size (hbA_ HB.out))); replace HO_5 := Aside0.mk (Kd.N_elder' (kN_ HO_5.out) (Kd.base_ ho0) hb); replace HO_10 := Aside0.mk (Kd.N_elder' (kN_ HO_10.out) (Kd.base_ ho0) hb); replace HO_308008 := Aside0.mk (Kd.R_below (kR_ HO_308008.out) hb); replace HO332 := Aside0.mk (Kd.R_below (kR_ HO332.out) hb); replace BK307 := (bbA_ BK307 hb); replace HR333_8 := Aside0.mk (Kd.C_below (by repeat (first | (with_reducible exact HR333_8.out) | (with_reducible exact Kd.C_drewN HR333_8.out _) | (with_reducible refine Kd.C_alloc ?_ _) | (with_reducible refine Kd.C_drewN ?_ _) | (with_reducible refine Kd.C_drew ?_) | exact HR333_8.out)) hb); replace HB := (bs_ HB hb); (try clear hb); (try clear hb2); (try clear hk); (try clear hi); (try clear ho0); obtain ⟨Ao55, co55, eo55⟩ := Kd.N_slice HO336.out; subst eo55) | ((with_reducible refine gate_builtin (b := .append) (xs := #[.tmp 122, .tmp 123]) rfl ?_); (try (refine gate_guard (by rfl) ?_; dsimp only)); at_builtin; refine Kd.N_append_rows k24 (w0 := w) w.heap.size rfl (.tmp 122) (.tmp 123) 27 24 (.agg #[(.int .i64 0), (.int .i64 0), (.int .i64 0), (.int .i64 0), (.int .i64 0), (.int .i64 0), (.bool false), (.bool false), (.slice none 0 0)]) 80 rfl Try.underlying27 info24 rfl (by decide) (by omega) u10 x10_2 t334 _ _ _ (fun k_ => some k_ ≠ (.slice (some ad329) t308.length co27 : Value).ownBlock ∧ some k_ ≠ (.slice Ao10 t303.length co10 : Value).ownBlock ∧ some k_ ≠ (v331 : Value).ownBlock ∧ k_ ≠ gb307) (fun k_ => ((fun k_ => some k_ ≠ (.slice (some ad329) t308.length co27 : Value).ownBlock ∧ some k_ ≠ (.slice Ao10 t303.length co10 : Value).ownBlock ∧ some k_ ≠ (v331 : Value).ownBlock ∧ k_ ≠ gb307)) k_ ∧ some k_ ≠ (u10 : Value).ownBlock) rfl rfl ?aO ?aR (fun _ hk => hk) ?aF ?aB ?aS ?aL ?_; (case aR => exact (by skip; exact Kd.N_F (Kd.N_mono (ok' := (fun k_ => ((fun k_ => some k_ ≠ (.slice (some ad329) t308.length co27 : Value).ownBlock ∧ some k_ ≠ (.slice Ao10 t303.length co10 : Value).ownBlock ∧ some k_ ≠ (v331 : Value).ownBlock ∧ k_ ≠ gb307)) k_ ∧ some k_ ≠ (u10 : Value).ownBlock)) (HO336.out) (fun k_ hk => ⟨⟨hk.1, ⟨hk.2.2.1, ⟨hk.2.2.2.1, hk.2.2.2.2⟩⟩⟩, hk.2.1⟩)))); (case aB => exact (hbA_ HB.out)); (case aF => exact (fun k_ hk => ⟨Kd.fresh' (Kd.N_lt (kN_ HO_5.out)) k_ hk, Kd.fresh' (Kd.R_lt (kR_ HO_308008.out)) k_ hk, Kd.fresh' (Kd.R_lt (kR_ HO332.out)) k_ hk, fb_ BK307 k_ hk⟩)); (case aO => exact (by refine kN_ ?_; exact Kd.N_mono HO_10.out (fun _ hk => ⟨hk.1.1.1, ⟨hk.1.1.2.1, ⟨hk.1.2, hk.1.1.2.2⟩⟩⟩))); (case aS => exact (below_size (hbA_ HB.out))); (case aL => have := LMc51.out; omega); intro v339 w54 ho hb hg hat; rw [← Ny338.out] at ho; replace HO_5 := Aside0.mk (Kd.N_afterv (ok := (fun k_ => some k_ ≠ (.slice Ao10 t303.length co10 : Value).ownBlock ∧ some k_ ≠ (v331 : Value).ownBlock ∧ some k_ ≠ (.slice Ao55 t334.length co55 : Value).ownBlock ∧ k_ ≠ gb307)) (by refine kN_ ?_; exact Kd.N_mono HO_5.out (fun _ hk => ⟨⟨hk.1.1.2.1, ⟨hk.1.2, ⟨hk.2, hk.1.1.2.2⟩⟩⟩, hk.1.1.1⟩)) hg hat); replace HO_308008 := Aside0.mk (Kd.R_over' (kR_ HO_308008.out) (Kd.N_typed (kN_ HO_10.out)) (by decide) hg); replace BK307 := (bgA_ BK307 hg (Kd.N_away HO_10.out (fun _ hk => hk.1.1.2.2))); replace HL329_8 := Aside0.mk (Kd.V_afterv (ok := (fun k_ => some k_ ≠ (.slice (some ad329) t308.length co27 : Value).ownBlock ∧ some k_ ≠ (.slice Ao10 t303.length co10 : Value).ownBlock ∧ some k_ ≠ (v331 : Value).ownBlock ∧ some k_ ≠ (.slice Ao55 t334.length co55 : Value).ownBlock ∧ k_ ≠ gb307)) (by refine kV_ ?_; exact Kd.V_mono HL329_8.out (fun _ hk => ⟨⟨hk.1.1.1, ⟨hk.1.1.2.2.1, ⟨hk.1.2, ⟨hk.2, hk.1.1.2.2.2⟩⟩⟩⟩, hk.1.1.2.1⟩)) hg hat); replace HO332 := Aside0.mk (Kd.R_over' (kR_ HO332.out) (Kd.N_typed (kN_ HO_10.out)) (by decide) hg); replace HL333_8 := Aside0.mk (Kd.V_afterv (ok := (fun k_ => some k_ ≠ (.slice (some ad329) t308.length co27 : Value).ownBlock ∧ some k_ ≠ (.slice Ao10 t303.length co10 : Value).ownBlock ∧ some k_ ≠ (v331 : Value).ownBlock ∧ some k_ ≠ (.slice Ao55 t334.length co55 : Value).ownBlock ∧ k_ ≠ gb307)) (by refine kV_ ?_; exact Kd.V_mono HL333_8.out (fun _ hk => ⟨⟨hk.1.2, ⟨hk.1.1.1.2.1, ⟨hk.1.1.2, ⟨hk.2, hk.1.1.1.2.2⟩⟩⟩⟩, hk.1.1.1.1⟩)) hg hat); replace HO336 := Aside0.mk (Kd.N_afterv (ok := (fun k_ => some k_ ≠ (.slice (some ad329) t308.length co27 : Value).ownBlock ∧ some k_ ≠ (.slice Ao10 t303.length co10 : Value).ownBlock ∧ some k_ ≠ (v331 : Value).ownBlock ∧ k_ ≠ gb307)) (by refine kN_ ?_; exact Kd.N_mono HO336.out (fun _ hk => ⟨⟨hk.1, ⟨hk.2.2.1, ⟨hk.2.2.2.1, hk.2.2.2.2⟩⟩⟩, hk.2.1⟩)) hg hat); replace HB := Aside0.mk (hb); have HO340 := Aside0.mk (ho); clear HO_10; clear ho hb hg hat))
                go_roundg kj25
                case measure => have := HJ5.out; have := HK2.out; have := HJ25.out; omega
                case rel => exact ⟨(y330), (y338), (wrap64 (x11_2 + 1)), (by first | rfl | (simp; done) | (simp [*]; done)), H', ⟨by have := HJ5.out; have := HK2.out; have := HJ25.out; omega⟩, ⟨by refine kN_ ?_; exact Kd.N_mono HO_5.out (fun _ hk => ⟨hk.1.2.1, ⟨hk.2, ⟨hk.1.1, hk.1.2.2.2⟩⟩⟩)⟩, ⟨kR_ HO332.out⟩, ⟨by refine kN_ ?_; exact Kd.N_mono HO340.out (fun _ hk => ⟨hk.1, ⟨hk.2.2.1, ⟨hk.2.1, hk.2.2.2⟩⟩⟩)⟩, ⟨by refine kR_ ?_; exact Kd.R_mono HO_308008.out (fun _ hk => hk.2)⟩, ⟨by refine kb_ ?_; exact BK307.out⟩, ⟨hbA_ HB.out⟩⟩
               ·rw [if_neg c51] at H
                exact absurd H (by simp)
              ·rw [if_neg c49] at H
               exact absurd H (by simp)
             ·rw [if_neg c48] at H
              exact absurd H (by simp)
            ·rw [if_neg c47] at H
             exact absurd H (by simp)
        ·rw [if_neg c25] at H
         have c25b0 : decide (x11_2 < (t308.length : Int)) = false := decide_eq_false c25
         clear c25
         replace H := Option.bind_eq_some_iff.mp H
         obtain ⟨⟨t341, t344⟩, A560, H⟩ := H
         (try dsimp only at H)
         have A56 := Aside0.mk A560; clear A560
         replace H := Option.bind_eq_some_iff.mp H
         obtain ⟨t345, A570, H⟩ := H
         (try dsimp only at H)
         have A57 := Aside0.mk A570; clear A570
         by_cases c58 : t345 = true
         ·subst c58
          rw [if_pos rfl] at H
          by_cases c59 : t344 = true
          ·subst c59
           rw [if_pos rfl] at H
           by_cases c60 : (t308.length : Int) = 1
           ·rw [if_pos c60] at H
            have c60b0 : ((t308.length : Int) == 1) = true := beq_iff_eq.mpr c60
            have c60b1 : ((t308.length : Int) != 1) = false := bne_eq_false_iff_eq.mpr c60
            clear c60
            replace H := Option.bind_eq_some_iff.mp H
            obtain ⟨t346, A610, H⟩ := H
            (try dsimp only at H)
            have A61 := Aside0.mk A610; clear A610
            obtain rfl := Option.some.inj H
            obtain ⟨Ao62, co62, eo62⟩ := Kd.N_slice HO_5.out
            subst eo62; have Z63 := zz9 BK307
            go_wp2_with (first | ((with_reducible refine gate_callee (f := 10) rfl ?_); refine goesL_ (some 127) rfl rfl Try.func10 (by kernel_rfl) rfl #[.agg #[.int .i64 t295, .int .i64 t296, .int .i64 t297, .int .i64 t298, .int .i64 t299, .int .i64 t300, .bool t301, .bool t302, .slice Ao10 t303.length co10], .int .i64 1] rfl ar_ ?_; (with_reducible refine (impl_PacketCut.calls t295 t296 t297 t298 t299 t300 t301 t302 _ _ t303 1 t341 true _ ?side1 ?side2 A56.out).mono ?_); (case side1 => exact kC_ (Kd.R_reads' HO_308008.out).2.2); (case side2 => exact (Kd.R_reads' HO_308008.out).2.1); rintro e w64 ⟨v342, rfl, ho0, hb⟩; refine ⟨_, rfl, ?_⟩; have HO343 := Aside0.mk (Kd.N_lower (Kd.N_mono (ok' := fun k_ => some k_ ≠ (.slice Ao62 t308.length co62 : Value).ownBlock ∧ some k_ ≠ (u9 : Value).ownBlock ∧ some k_ ≠ (u10 : Value).ownBlock ∧ some k_ ≠ (.slice Ao10 t303.length co10 : Value).ownBlock ∧ k_ ≠ gb307) (Kd.S_N (Kd.S_bound ho0)) (fun k_ hk_ => ⟨(Kd.fresh' (Kd.N_lt (kN_ HO_5.out)) k_ hk_.2.1), (Kd.fresh' (Kd.R_lt (kR_ HO_9.out)) k_ hk_.2.1), (Kd.fresh' (Kd.N_lt (kN_ HO_10.out)) k_ hk_.2.1), (Kd.fresh' (Kd.R_lt (kR_ HO_308008.out)) k_ hk_.2.1), (fb_ BK307 k_ hk_.2.1)⟩)) (below_size (hbA_ HB.out))); replace HO_5 := Aside0.mk (Kd.N_elder' (kN_ HO_5.out) (Kd.base_ ho0) hb); replace HO_9 := Aside0.mk (Kd.R_below (kR_ HO_9.out) hb); replace HO_10 := Aside0.mk (Kd.N_elder' (kN_ HO_10.out) (Kd.base_ ho0) hb); replace HO_308008 := Aside0.mk (Kd.R_below (kR_ HO_308008.out) hb); replace BK307 := (bbA_ BK307 hb); replace HB := (bs_ HB hb); (try clear hb); (try clear hb2); (try clear hk); (try clear hi); (try clear ho0); have Z65 := zz9 BK307; obtain ⟨Ao66, co66, eo66⟩ := Kd.R_slice HO_9.out; subst eo66) | ((with_reducible refine gate_callee (f := 15) rfl ?_); refine goesL_ (some 133) rfl rfl Try.func15 (by kernel_rfl) rfl #[.slice Ao66 x9_2.length co66, .slice Ao10 t303.length co10] rfl ar_ ?_; (with_reducible refine (laws_sameBytes.calls _ _ x9_2 _ _ t303 true _ ?side1 ?side2 ?side3 ?side4 A57.out).mono ?_); (case side1 => exact kC_ (Kd.R_reads' HO_9.out).2.2); (case side2 => exact (Kd.R_reads' HO_9.out).2.1); (case side3 => exact kC_ (Kd.R_reads' HO_308008.out).2.2); (case side4 => exact (Kd.R_reads' HO_308008.out).2.1); rintro e w' ⟨rfl, ⟨nd, rfl⟩⟩; refine ⟨_, rfl, ?_⟩) | (go_at_call 13; (with_reducible refine (laws_alive.calls k2  t346 _ A61.out).mono ?_); rintro e w67 ⟨rfl, hb⟩; replace HO_5 := Aside0.mk (Kd.N_below (kN_ HO_5.out) hb); replace HO_9 := Aside0.mk (Kd.R_below (kR_ HO_9.out) hb); replace HO_10 := Aside0.mk (Kd.N_below (kN_ HO_10.out) hb); replace HO_308008 := Aside0.mk (Kd.R_below (kR_ HO_308008.out) hb); replace HO343 := Aside0.mk (Kd.N_below (kN_ HO343.out) hb); replace BK307 := (bbA_ BK307 hb); replace HB := (bs_ HB hb); (try clear hb); (try clear hb2); (try clear hk); (try clear hi)))
            go_ret
            exact ⟨by first | rfl | (simp [errW_none, errW_some] <;> rfl) | (simp [*, errW_none, errW_some] <;> rfl), hbA_ HB.out⟩
           ·rw [if_neg c60] at H
            have c60b0 : ((t308.length : Int) == 1) = false := beq_eq_false_iff_ne.mpr c60
            have c60b1 : ((t308.length : Int) != 1) = true := bne_iff_ne.mpr c60
            replace H := Option.bind_eq_some_iff.mp H
            obtain ⟨t347, A680, H⟩ := H
            (try dsimp only at H)
            have A68 := Aside0.mk A680; clear A680
            by_cases c69 : t347 = true
            ·subst c69
             rw [if_pos rfl] at H
             replace H := Option.bind_eq_some_iff.mp H
             obtain ⟨t348, A700, H⟩ := H
             (try dsimp only at H)
             have A70 := Aside0.mk A700; clear A700
             obtain rfl := Option.some.inj H
             obtain ⟨Ao71, co71, eo71⟩ := Kd.N_slice HO_5.out
             subst eo71; have Z72 := zz9 BK307
             go_wp2_with (first | ((with_reducible refine gate_callee (f := 10) rfl ?_); refine goesL_ (some 127) rfl rfl Try.func10 (by kernel_rfl) rfl #[.agg #[.int .i64 t295, .int .i64 t296, .int .i64 t297, .int .i64 t298, .int .i64 t299, .int .i64 t300, .bool t301, .bool t302, .slice Ao10 t303.length co10], .int .i64 1] rfl ar_ ?_; (with_reducible refine (impl_PacketCut.calls t295 t296 t297 t298 t299 t300 t301 t302 _ _ t303 1 t341 true _ ?side1 ?side2 A56.out).mono ?_); (case side1 => exact kC_ (Kd.R_reads' HO_308008.out).2.2); (case side2 => exact (Kd.R_reads' HO_308008.out).2.1); rintro e w73 ⟨v342, rfl, ho0, hb⟩; refine ⟨_, rfl, ?_⟩; have HO343 := Aside0.mk (Kd.N_lower (Kd.N_mono (ok' := fun k_ => some k_ ≠ (.slice Ao71 t308.length co71 : Value).ownBlock ∧ some k_ ≠ (u9 : Value).ownBlock ∧ some k_ ≠ (u10 : Value).ownBlock ∧ some k_ ≠ (.slice Ao10 t303.length co10 : Value).ownBlock ∧ k_ ≠ gb307) (Kd.S_N (Kd.S_bound ho0)) (fun k_ hk_ => ⟨(Kd.fresh' (Kd.N_lt (kN_ HO_5.out)) k_ hk_.2.1), (Kd.fresh' (Kd.R_lt (kR_ HO_9.out)) k_ hk_.2.1), (Kd.fresh' (Kd.N_lt (kN_ HO_10.out)) k_ hk_.2.1), (Kd.fresh' (Kd.R_lt (kR_ HO_308008.out)) k_ hk_.2.1), (fb_ BK307 k_ hk_.2.1)⟩)) (below_size (hbA_ HB.out))); replace HO_5 := Aside0.mk (Kd.N_elder' (kN_ HO_5.out) (Kd.base_ ho0) hb); replace HO_9 := Aside0.mk (Kd.R_below (kR_ HO_9.out) hb); replace HO_10 := Aside0.mk (Kd.N_elder' (kN_ HO_10.out) (Kd.base_ ho0) hb); replace HO_308008 := Aside0.mk (Kd.R_below (kR_ HO_308008.out) hb); replace BK307 := (bbA_ BK307 hb); replace HB := (bs_ HB hb); (try clear hb); (try clear hb2); (try clear hk); (try clear hi); (try clear ho0); have Z74 := zz9 BK307; obtain ⟨Ao75, co75, eo75⟩ := Kd.R_slice HO_9.out; subst eo75) | ((with_reducible refine gate_callee (f := 15) rfl ?_); refine goesL_ (some 133) rfl rfl Try.func15 (by kernel_rfl) rfl #[.slice Ao75 x9_2.length co75, .slice Ao10 t303.length co10] rfl ar_ ?_; (with_reducible refine (laws_sameBytes.calls _ _ x9_2 _ _ t303 true _ ?side1 ?side2 ?side3 ?side4 A57.out).mono ?_); (case side1 => exact kC_ (Kd.R_reads' HO_9.out).2.2); (case side2 => exact (Kd.R_reads' HO_9.out).2.1); (case side3 => exact kC_ (Kd.R_reads' HO_308008.out).2.2); (case side4 => exact (Kd.R_reads' HO_308008.out).2.1); rintro e w' ⟨rfl, ⟨nd, rfl⟩⟩; refine ⟨_, rfl, ?_⟩; obtain ⟨Ao76, co76, eo76⟩ := Kd.N_slice HO_10.out; subst eo76; obtain ⟨Ao77, co77, eo77⟩ := Kd.N_slice HO343.out; subst eo77) | (go_at_call 12; (with_reducible refine (laws_samePackets.calls k2 _ _ x10_2 _ _ t341 true _ ?side1 ?side2 ?side3 ?side4 A68.out).mono ?_); (case side1 => exact kC_ (Kd.N_reads' HO_10.out).2.2); (case side2 => exact (Kd.N_reads' HO_10.out).2.1); (case side3 => exact kC_ (Kd.N_reads' HO343.out).2.2); (case side4 => exact (Kd.N_reads' HO343.out).2.1); rintro e w78 ⟨rfl, hb⟩; replace HO_5 := Aside0.mk (Kd.N_below (kN_ HO_5.out) hb); replace HO_9 := Aside0.mk (Kd.R_below (kR_ HO_9.out) hb); replace HO_10 := Aside0.mk (Kd.N_below (kN_ HO_10.out) hb); replace HO_308008 := Aside0.mk (Kd.R_below (kR_ HO_308008.out) hb); replace HO343 := Aside0.mk (Kd.N_below (kN_ HO343.out) hb); replace BK307 := (bbA_ BK307 hb); replace HB := (bs_ HB hb); (try clear hb); (try clear hb2); (try clear hk); (try clear hi)) | (go_at_call 13; (with_reducible refine (laws_alive.calls k2  t348 _ A70.out).mono ?_); rintro e w79 ⟨rfl, hb⟩; replace HO_5 := Aside0.mk (Kd.N_below (kN_ HO_5.out) hb); replace HO_9 := Aside0.mk (Kd.R_below (kR_ HO_9.out) hb); replace HO_10 := Aside0.mk (Kd.N_below (kN_ HO_10.out) hb); replace HO_308008 := Aside0.mk (Kd.R_below (kR_ HO_308008.out) hb); replace HO343 := Aside0.mk (Kd.N_below (kN_ HO343.out) hb); replace BK307 := (bbA_ BK307 hb); replace HB := (bs_ HB hb); (try clear hb); (try clear hb2); (try clear hk); (try clear hi)))
             go_ret
             exact ⟨by first | rfl | (simp [errW_none, errW_some] <;> rfl) | (simp [*, errW_none, errW_some] <;> rfl), hbA_ HB.out⟩
            ·replace c69 := Bool.eq_false_iff.mpr c69
             subst c69
             rw [if_neg (show ¬ (false = true) by decide)] at H
             exact absurd (Option.some.inj H) (by rw [HLW.out]; exact Bool.false_ne_true)
          ·replace c59 := Bool.eq_false_iff.mpr c59
           subst c59
           rw [if_neg (show ¬ (false = true) by decide)] at H
           replace H := Option.bind_eq_some_iff.mp H
           obtain ⟨t349, A800, H⟩ := H
           (try dsimp only at H)
           have A80 := Aside0.mk A800; clear A800
           obtain rfl := Option.some.inj H
           obtain ⟨Ao81, co81, eo81⟩ := Kd.N_slice HO_5.out
           subst eo81; have Z82 := zz9 BK307
           go_wp2_with (first | ((with_reducible refine gate_callee (f := 10) rfl ?_); refine goesL_ (some 127) rfl rfl Try.func10 (by kernel_rfl) rfl #[.agg #[.int .i64 t295, .int .i64 t296, .int .i64 t297, .int .i64 t298, .int .i64 t299, .int .i64 t300, .bool t301, .bool t302, .slice Ao10 t303.length co10], .int .i64 1] rfl ar_ ?_; (with_reducible refine (impl_PacketCut.calls t295 t296 t297 t298 t299 t300 t301 t302 _ _ t303 1 t341 false _ ?side1 ?side2 A56.out).mono ?_); (case side1 => exact kC_ (Kd.R_reads' HO_308008.out).2.2); (case side2 => exact (Kd.R_reads' HO_308008.out).2.1); rintro e w83 ⟨v342, rfl, ho0, hb⟩; refine ⟨_, rfl, ?_⟩; have HO343 := Aside0.mk (Kd.N_lower (Kd.N_mono (ok' := fun k_ => some k_ ≠ (.slice Ao81 t308.length co81 : Value).ownBlock ∧ some k_ ≠ (u9 : Value).ownBlock ∧ some k_ ≠ (u10 : Value).ownBlock ∧ some k_ ≠ (.slice Ao10 t303.length co10 : Value).ownBlock ∧ k_ ≠ gb307) (Kd.S_N (Kd.S_bound ho0)) (fun k_ hk_ => ⟨(Kd.fresh' (Kd.N_lt (kN_ HO_5.out)) k_ hk_.2.1), (Kd.fresh' (Kd.R_lt (kR_ HO_9.out)) k_ hk_.2.1), (Kd.fresh' (Kd.N_lt (kN_ HO_10.out)) k_ hk_.2.1), (Kd.fresh' (Kd.R_lt (kR_ HO_308008.out)) k_ hk_.2.1), (fb_ BK307 k_ hk_.2.1)⟩)) (below_size (hbA_ HB.out))); replace HO_5 := Aside0.mk (Kd.N_elder' (kN_ HO_5.out) (Kd.base_ ho0) hb); replace HO_9 := Aside0.mk (Kd.R_below (kR_ HO_9.out) hb); replace HO_10 := Aside0.mk (Kd.N_elder' (kN_ HO_10.out) (Kd.base_ ho0) hb); replace HO_308008 := Aside0.mk (Kd.R_below (kR_ HO_308008.out) hb); replace BK307 := (bbA_ BK307 hb); replace HB := (bs_ HB hb); (try clear hb); (try clear hb2); (try clear hk); (try clear hi); (try clear ho0); have Z84 := zz9 BK307; obtain ⟨Ao85, co85, eo85⟩ := Kd.R_slice HO_9.out; subst eo85) | ((with_reducible refine gate_callee (f := 15) rfl ?_); refine goesL_ (some 133) rfl rfl Try.func15 (by kernel_rfl) rfl #[.slice Ao85 x9_2.length co85, .slice Ao10 t303.length co10] rfl ar_ ?_; (with_reducible refine (laws_sameBytes.calls _ _ x9_2 _ _ t303 true _ ?side1 ?side2 ?side3 ?side4 A57.out).mono ?_); (case side1 => exact kC_ (Kd.R_reads' HO_9.out).2.2); (case side2 => exact (Kd.R_reads' HO_9.out).2.1); (case side3 => exact kC_ (Kd.R_reads' HO_308008.out).2.2); (case side4 => exact (Kd.R_reads' HO_308008.out).2.1); rintro e w' ⟨rfl, ⟨nd, rfl⟩⟩; refine ⟨_, rfl, ?_⟩) | (go_at_call 13; (with_reducible refine (laws_alive.calls k2  t349 _ A80.out).mono ?_); rintro e w86 ⟨rfl, hb⟩; replace HO_5 := Aside0.mk (Kd.N_below (kN_ HO_5.out) hb); replace HO_9 := Aside0.mk (Kd.R_below (kR_ HO_9.out) hb); replace HO_10 := Aside0.mk (Kd.N_below (kN_ HO_10.out) hb); replace HO_308008 := Aside0.mk (Kd.R_below (kR_ HO_308008.out) hb); replace HO343 := Aside0.mk (Kd.N_below (kN_ HO343.out) hb); replace BK307 := (bbA_ BK307 hb); replace HB := (bs_ HB hb); (try clear hb); (try clear hb2); (try clear hk); (try clear hi)))
           go_ret
           exact ⟨by first | rfl | (simp [errW_none, errW_some] <;> rfl) | (simp [*, errW_none, errW_some] <;> rfl), hbA_ HB.out⟩
         ·replace c58 := Bool.eq_false_iff.mpr c58
          subst c58
          rw [if_neg (show ¬ (false = true) by decide)] at H
          exact absurd (Option.some.inj H) (by rw [HLW.out]; exact Bool.false_ne_true)
     ·replace c20 := Bool.eq_false_iff.mpr c20
      subst c20
      rw [if_neg (show ¬ (false = true) by decide)] at H
      by_cases c87 : (t308.length : Int) = 0
      ·rw [if_pos c87] at H
       have c87b0 : ((t308.length : Int) == 0) = true := beq_iff_eq.mpr c87
       have c87b1 : ((t308.length : Int) != 0) = false := bne_eq_false_iff_eq.mpr c87
       clear c87
       replace H := Option.bind_eq_some_iff.mp H
       obtain ⟨t317, A880, H⟩ := H
       (try dsimp only at H)
       have A88 := Aside0.mk A880; clear A880
       obtain rfl := Option.some.inj H
       obtain ⟨Ao89, co89, eo89⟩ := Kd.N_slice HO_5.out
       subst eo89
       go_wp2_with (first | (go_at_call 13; (with_reducible refine (laws_alive.calls kj5  t317 _ A88.out).mono ?_); rintro e w90 ⟨rfl, hb⟩; replace HO_5 := Aside0.mk (Kd.N_below (kN_ HO_5.out) hb); replace HO_308008 := Aside0.mk (Kd.R_below (kR_ HO_308008.out) hb); replace BK307 := (bbA_ BK307 hb); replace HB := (bs_ HB hb); (try clear hb); (try clear hb2); (try clear hk); (try clear hi)))
       go_ret
       exact ⟨by first | rfl | (simp [errW_none, errW_some] <;> rfl) | (simp [*, errW_none, errW_some] <;> rfl), hbA_ HB.out⟩
      ·rw [if_neg c87] at H
       have c87b0 : ((t308.length : Int) == 0) = false := beq_eq_false_iff_ne.mpr c87
       have c87b1 : ((t308.length : Int) != 0) = true := bne_iff_ne.mpr c87
       have c87b2 : ¬ (t308 = []) := fun h_ => c87 (by rw [h_]; rfl)
       exact absurd (Option.some.inj H) (by rw [HLW.out]; exact Bool.false_ne_true)
def laws_FnPacketCut.Pure : Prop := ∀ (l0 : List Int), l0.length ≤ maxLen → l0.length * 1 ≤ 140737488351232 → (∀ x ∈ l0, (Lit.int .u8 x).wf = true) → ∃ k, laws_FnPacketCut.f k l0 = some true
theorem laws_FnPacketCut.walk (P : laws_FnPacketCut.Pure) (a0 : Option Addr) (len0 cap0 : Nat) (z0 : List Int) (w : World) (w0 : (a0 = none ∧ len0 = 0 ∧ cap0 = 0 ∧ z0 = []) ∨ ∃ x, a0 = some x ∧ len0 ≤ cap0 ∧ cap0 ≤ maxLen ∧ z0.length = cap0 ∧ (∀ i, i < z0.length → w.cell? (x.add i) = some (.int .u8 (z0.getD i 0))) ∧ ∀ n ∈ z0, (Lit.int .u8 n).wf = true) (y0 : len0 * 1 ≤ 140737488351232) :
  Calls Try.prog 3 #[.slice a0 len0 cap0] w fun e w' => e = .returned (.bool true) ∧ Below w.heap.size w w' := by
 obtain ⟨l0, rfl, hr0, hm0, hw0, hc0⟩ := ReadsInt.ofRowC w0
 obtain ⟨k, h⟩ := P l0 hm0 y0 hw0
 refine (laws_FnPacketCut.calls k _ _ l0 true w (Kd.C_of_reads (d := (0 : Int)) (h1 := fun _ => rfl) hr0) hc0 h rfl).mono ?_
 rintro e w' ⟨rfl, hd⟩
 exact ⟨rfl, hd⟩
end Go.Proofs.Ytbhofhdmbbipgaa.PFnPacketCut
