/- Printed by wip/xp/xprint.sh out of the translation, for this claim: what each function answers, as a plain function, and that the machine does just that. No condition. -/
import Derived.Test.YtcbiljabpadaeaaPFnNearSendx0
import Derived.Test.YtcbiljabpadaeaaPFnNearSendx2
import Derived.Test.YtcbiljabpadaeaaPFnNearSendx3
namespace Go.Proofs.Ytcbiljabpadaeaa.PFnNearSend
open Go.RowKit Go.Proofs.YtcbiljabpadaeaaW.PrintWords Go.Proofs.YtcbiljabpadaeaaW.PrintLast Go.Proofs.YtcbiljabpadaeaaW.PrintMore
attribute [local go_sem] max2_int min2_int max_two min_two max_three min_three max_four min_four   -- for this text's walks alone
set_option linter.unusedVariables false
set_option linter.unusedSimpArgs false
mutual
def spec_NearHear.j0 : Nat → Int → Int → List (List Int) → Bool → List (S60) → List (S36) → Int → Int → Int → Int → Option ((List (S60)) × (List (S36)) × (List (List Int)))
 | 0, _, _, _, _, _, _, _, _, _, _ => none
 | k + 1, x1, x3, x10, x28, x190000, x190001, x191000, x191001, x191002, x191003 => if x28 = true then (some (([] : List (S60)), ([] : List (S36)), x10)) else (spec_NearHear.l0 k x3 x10 (x191003 == x1) 0 x190000 x190001 x191000 x191001 x191002 x191003 ([] : List (S60)))
def spec_NearHear.l0 : Nat → Int → List (List Int) → Bool → Int → List (S60) → List (S36) → Int → Int → Int → Int → List (S60) → Option ((List (S60)) × (List (S36)) × (List (List Int)))
 | 0, _, _, _, _, _, _, _, _, _, _, _ => none
 | k + 1, x3, x10, x12, x13, x190000, x190001, x191000, x191001, x191002, x191003, x199000 => if x13 < (x190000.length : Int) then (if 0 ≤ x13 then (if ((rd_T60 x190000 x13).f0) = x191002 then (spec_NearHear.l0 k x3 x10 true (wrap64 (x13 + 1)) x190000 x190001 x191000 x191001 x191002 x191003 x199000) else (if x199000.length < 5864062014805 then (spec_NearHear.l0 k x3 x10 x12 (wrap64 (x13 + 1)) x190000 x190001 x191000 x191001 x191002 x191003 (x199000 ++ [(⟨(rd_T60 x190000 x13).f0, (rd_T60 x190000 x13).f1, (rd_T60 x190000 x13).f2⟩ : S60)])) else (none))) else (none)) else (spec_NearHear.l1 k x3 x10 x12 0 x190000 x190001 x191000 x191001 x191002 x191003 x199000 ([] : List (S36)))
def spec_NearHear.l1 : Nat → Int → List (List Int) → Bool → Int → List (S60) → List (S36) → Int → Int → Int → Int → List (S60) → List (S36) → Option ((List (S60)) × (List (S36)) × (List (List Int)))
 | 0, _, _, _, _, _, _, _, _, _, _, _, _ => none
 | k + 1, x3, x10, x12, x14, x190000, x190001, x191000, x191001, x191002, x191003, x199000, x199001 => if x14 < (x190001.length : Int) then (if 0 ≤ x14 then (if ((rd_T36 x190001 x14).f0) = x191002 then ((some (([] : List Int) : List Int)).bind fun y205 => (if y205.length + ((rd_T36 x190001 x14).f1).length < 140737488355328 then (if x10.length < 5864062014805 then (spec_NearHear.l1 k x3 (x10 ++ [(y205 ++ ((rd_T36 x190001 x14).f1))]) true (wrap64 (x14 + 1)) x190000 x190001 x191000 x191001 x191002 x191003 x199000 x199001) else (none)) else (none))) else ((some (([] : List Int) : List Int)).bind fun y216 => (if y216.length + ((rd_T36 x190001 x14).f1).length < 140737488355328 then (if x199001.length < 4398046511104 then (spec_NearHear.l1 k x3 x10 x12 (wrap64 (x14 + 1)) x190000 x190001 x191000 x191001 x191002 x191003 x199000 (x199001 ++ [(⟨(rd_T36 x190001 x14).f0, (y216 ++ ((rd_T36 x190001 x14).f1))⟩ : S36)])) else (none)) else (none)))) else (none)) else (if x12 = true then (if x199000.length < 5864062014805 then ((some (x199000 ++ [(⟨x191002, x191001, wrap64 (x3 + 20)⟩ : S60)] : List (S60))).bind fun y235 => (if (y235.length : Int) > 4 then (if 1 ≤ (y235.length : Int) then (some ((y235.drop (1 : Int).toNat), x199001, x10)) else (none)) else (some (y235, x199001, x10)))) else (none)) else ((spec_l3Copy.f k x190000 x190001).bind fun bt226 => (some (bt226.1, bt226.2, (([] : List (List Int)))))))
end
def spec_NearHear.f (k : Nat) (l0_0 : List (S60)) (l0_1 : List (S36)) (a1 : Int) (a2_0 : Int) (a2_1 : Int) (a2_2 : Int) (a2_3 : Int) (a3 : Int) : Option ((List (S60)) × (List (S36)) × (List (List Int))) := (some (([] : List (List Int)) : List (List Int))).bind fun y192 => ((spec_NearOk.f k l0_0 l0_1).bind fun t195 => (if t195 = true then ((spec_QueryOk.f a2_0 a2_1 a2_2 a2_3).bind fun t196 => (if t196 = true then ((spec_l1In.f a3 0 999980).bind fun t197 => (spec_NearHear.j0 k a1 a3 y192 (!t197) l0_0 l0_1 a2_0 a2_1 a2_2 a2_3)) else (spec_NearHear.j0 k a1 a3 y192 true l0_0 l0_1 a2_0 a2_1 a2_2 a2_3))) else (spec_NearHear.j0 k a1 a3 y192 true l0_0 l0_1 a2_0 a2_1 a2_2 a2_3)))
theorem spec_NearHear.mono_l : ∀ k, (∀ y0 y1 y2 y3 y4 y5 y6 y7 y8 y9, LeO (spec_NearHear.j0 k y0 y1 y2 y3 y4 y5 y6 y7 y8 y9) (spec_NearHear.j0 (k + 1) y0 y1 y2 y3 y4 y5 y6 y7 y8 y9)) ∧ (∀ y0 y1 y2 y3 y4 y5 y6 y7 y8 y9 y10, LeO (spec_NearHear.l0 k y0 y1 y2 y3 y4 y5 y6 y7 y8 y9 y10) (spec_NearHear.l0 (k + 1) y0 y1 y2 y3 y4 y5 y6 y7 y8 y9 y10)) ∧ (∀ y0 y1 y2 y3 y4 y5 y6 y7 y8 y9 y10 y11, LeO (spec_NearHear.l1 k y0 y1 y2 y3 y4 y5 y6 y7 y8 y9 y10 y11) (spec_NearHear.l1 (k + 1) y0 y1 y2 y3 y4 y5 y6 y7 y8 y9 y10 y11))
 | 0 => ⟨fun _ _ _ _ _ _ _ _ _ _ r h => by simp [spec_NearHear.j0] at h, fun _ _ _ _ _ _ _ _ _ _ _ r h => by simp [spec_NearHear.l0] at h, fun _ _ _ _ _ _ _ _ _ _ _ _ r h => by simp [spec_NearHear.l1] at h⟩
 | k + 1 => by
  obtain ⟨ih0, ih1, ih2⟩ := spec_NearHear.mono_l k
  refine ⟨?_, ?_, ?_⟩
  ·intro y0 y1 y2 y3 y4 y5 y6 y7 y8 y9
   unfold spec_NearHear.j0
   repeat' first | (with_reducible first | apply ih0 | apply ih1 | apply ih2 | apply spec_NearOk.mono | apply spec_l3Copy.mono | exact LeO.refl _ | exact LeO.none _ | refine LeO.ite ?_ ?_ | refine LeO.bind ?_ fun _ => ?_) | apply ih0 | apply ih1 | apply ih2 | apply spec_NearOk.mono | apply spec_l3Copy.mono | exact LeO.none _ | refine LeO.ite ?_ ?_ | refine LeO.bind ?_ fun _ => ?_
  ·intro y0 y1 y2 y3 y4 y5 y6 y7 y8 y9 y10
   unfold spec_NearHear.l0
   repeat' first | (with_reducible first | apply ih0 | apply ih1 | apply ih2 | apply spec_NearOk.mono | apply spec_l3Copy.mono | exact LeO.refl _ | exact LeO.none _ | refine LeO.ite ?_ ?_ | refine LeO.bind ?_ fun _ => ?_) | apply ih0 | apply ih1 | apply ih2 | apply spec_NearOk.mono | apply spec_l3Copy.mono | exact LeO.none _ | refine LeO.ite ?_ ?_ | refine LeO.bind ?_ fun _ => ?_
  ·intro y0 y1 y2 y3 y4 y5 y6 y7 y8 y9 y10 y11
   unfold spec_NearHear.l1
   repeat' first | (with_reducible first | apply ih0 | apply ih1 | apply ih2 | apply spec_NearOk.mono | apply spec_l3Copy.mono | exact LeO.refl _ | exact LeO.none _ | refine LeO.ite ?_ ?_ | refine LeO.bind ?_ fun _ => ?_) | apply ih0 | apply ih1 | apply ih2 | apply spec_NearOk.mono | apply spec_l3Copy.mono | exact LeO.none _ | refine LeO.ite ?_ ?_ | refine LeO.bind ?_ fun _ => ?_
theorem spec_NearHear.mono : ∀ a0 a1 a2 a3 a4 a5 a6 a7 k, LeO (spec_NearHear.f k a0 a1 a2 a3 a4 a5 a6 a7) (spec_NearHear.f (k + 1) a0 a1 a2 a3 a4 a5 a6 a7) := by
 intro a0 a1 a2 a3 a4 a5 a6 a7 k
 obtain ⟨ih0, ih1, ih2⟩ := spec_NearHear.mono_l k
 unfold spec_NearHear.f
 repeat' first | (with_reducible first | apply ih0 | apply ih1 | apply ih2 | apply spec_NearOk.mono | apply spec_l3Copy.mono | exact LeO.refl _ | exact LeO.none _ | refine LeO.ite ?_ ?_ | refine LeO.bind ?_ fun _ => ?_) | apply ih0 | apply ih1 | apply ih2 | apply spec_NearOk.mono | apply spec_l3Copy.mono | exact LeO.none _ | refine LeO.ite ?_ ?_ | refine LeO.bind ?_ fun _ => ?_
def spec_NearHear.T9 : Bool × List (List Nat × List Nat) := (true, [([], []), ([0], [0]), ([], []), ([1, 2], [1, 2]), ([3], [3]), ([4], [4]), ([], []), ([6], [6]), ([5, 7], [5, 7])])
def spec_NearHear.B9 : List Nat := [0, 1, 0, 7, 15, 31, 0, 64, 255]
theorem spec_NearHear.tab9 : rtab .any (opsOf Try.f47 9) = spec_NearHear.T9 := by kernel_rfl
theorem spec_NearHear.bits9 : waitsOk spec_NearHear.T9.2 spec_NearHear.B9 = true := by kernel_rfl
def spec_NearHear.T11 : Bool × List (List Nat × List Nat) := (true, [([], []), ([0], [0]), ([], []), ([2], [2]), ([], []), ([3, 4], [3, 4]), ([5], [5]), ([6], [6]), ([1, 7], [1, 7]), ([0, 1, 2, 3, 4, 5, 6, 7, 8], []), ([9, 8, 8, 0, 1, 2, 3, 4, 5, 6, 7, 8], [8, 9])])
def spec_NearHear.B11 : List Nat := [0, 1, 0, 4, 0, 28, 60, 124, 255, 511, 1023]
theorem spec_NearHear.tab11 : rtab .any (opsOf Try.f47 11) = spec_NearHear.T11 := by kernel_rfl
theorem spec_NearHear.bits11 : waitsOk spec_NearHear.T11.2 spec_NearHear.B11 = true := by kernel_rfl
def spec_NearHear.T15 : Bool × List (List Nat × List Nat) := (true, [([], []), ([0], [0]), ([], []), ([1, 2], [1, 2]), ([3], [3]), ([4], [4]), ([], []), ([6], [6]), ([5, 7], [5, 7])])
def spec_NearHear.B15 : List Nat := [0, 1, 0, 7, 15, 31, 0, 64, 255]
theorem spec_NearHear.tab15 : rtab .any (opsOf Try.f47 15) = spec_NearHear.T15 := by kernel_rfl
theorem spec_NearHear.bits15 : waitsOk spec_NearHear.T15.2 spec_NearHear.B15 = true := by kernel_rfl
def spec_NearHear.T18 : Bool × List (List Nat × List Nat) := (true, [([], []), ([0], [0]), ([], []), ([2], [2]), ([], []), ([3, 4], [3, 4]), ([5], [5]), ([6], [6]), ([], []), ([], []), ([9], [9]), ([], []), ([10, 11], [10, 11]), ([12], [12]), ([13], [13]), ([8, 14], [8, 14]), ([7, 15], [7, 15]), ([16], [16]), ([1, 17, 15], [1, 17]), ([0, 1, 2, 3, 4, 5, 6, 7, 8, 9, 10, 11, 12, 13, 14, 15, 16, 17, 18], []), ([19, 18, 18, 0, 1, 2, 3, 4, 5, 6, 7, 8, 9, 10, 11, 12, 13, 14, 15, 16, 17, 18], [18, 19])])
def spec_NearHear.B18 : List Nat := [0, 1, 0, 4, 0, 28, 60, 124, 0, 0, 512, 0, 3584, 7680, 15872, 32512, 65532, 131068, 262143, 524287, 1048575]
theorem spec_NearHear.tab18 : rtab .any (opsOf Try.f47 18) = spec_NearHear.T18 := by kernel_rfl
theorem spec_NearHear.bits18 : waitsOk spec_NearHear.T18.2 spec_NearHear.B18 = true := by kernel_rfl
set_option maxHeartbeats 8000000 in
set_option maxRecDepth 100000 in
theorem spec_NearHear.calls (k : Nat) (A0_0 : Option Addr) (c0_0 : Nat) (l0_0 : List (S60)) (A0_1 : Option Addr) (c0_1 : Nat) (l0_1 : List (S36)) (a1 : Int) (a2_0 : Int) (a2_1 : Int) (a2_2 : Int) (a2_3 : Int) (a3 : Int) (r1 : List (S60)) (r2 : List (S36)) (r3 : List (List Int)) (w : World) (hr0_0 : Kd.C k60 w A0_0 l0_0.length l0_0) (hc0_0 : l0_0.length ≤ c0_0) (hr0_1 : Kd.C k36 w A0_1 l0_1.length l0_1) (hc0_1 : l0_1.length ≤ c0_1) (h : spec_NearHear.f k l0_0 l0_1 a1 a2_0 a2_1 a2_2 a2_3 a3 = some (r1, r2, r3)) :
  Calls Try.prog 47 #[.agg #[.slice A0_0 l0_0.length c0_0, .slice A0_1 l0_1.length c0_1], .int .i64 a1, .agg #[.int .i64 a2_0, .int .i64 a2_1, .int .i64 a2_2, .int .i64 a2_3], .int .i64 a3] w fun e w' => ∃ v0_ v1_ v2_ : Value, e = .returned (.tuple #[.agg #[v0_, v1_], v2_]) ∧ Kd.Q k60 60 w' w.heap.size (fun _ => True) v0_ r1 ∧ Kd.S k36 36 w' w.heap.size (fun _ => True) v1_ r2 ∧ Kd.S (Kd.slice 5 (Kd.int .u8)) 22 w' w.heap.size (fun _ => True) v2_ r3 ∧ Below w.heap.size w w' := by
 have hu26 := Try.underlying26; have hu78 := Try.underlying78; have hu60 := Try.underlying60; have hu36 := Try.underlying36; have HR0_0 := Aside0.mk hr0_0; have HC0_0 := Aside0.mk hc0_0; clear hr0_0 hc0_0; have HR0_1 := Aside0.mk hr0_1; have HC0_1 := Aside0.mk hc0_1; clear hr0_1 hc0_1
 have HB := Aside0.mk (Below.refl w.heap.size w)
 have H : ((some (([] : List (List Int)) : List (List Int))).bind fun y192 => ((spec_NearOk.f k l0_0 l0_1).bind fun t195 => (if t195 = true then ((spec_QueryOk.f a2_0 a2_1 a2_2 a2_3).bind fun t196 => (if t196 = true then ((spec_l1In.f a3 0 999980).bind fun t197 => (spec_NearHear.j0 k a1 a3 y192 (!t197) l0_0 l0_1 a2_0 a2_1 a2_2 a2_3)) else (spec_NearHear.j0 k a1 a3 y192 true l0_0 l0_1 a2_0 a2_1 a2_2 a2_3))) else (spec_NearHear.j0 k a1 a3 y192 true l0_0 l0_1 a2_0 a2_1 a2_2 a2_3)))) = some (r1, r2, r3) := h
 clear h
 obtain ⟨y192, hy192⟩ : ∃ y_ : List (List Int), y_ = (([] : List (List Int))) := ⟨_, rfl⟩
 (first | replace H := sb_ hy192 H | rw [← hy192] at H)
 have Ny192 := Aside0.mk hy192; clear hy192; have HC5 := Aside0.mk H; clear H
 go_enter Try.func47, Try.ntmps47
 go_upto_region 2 with (first | ((with_reducible refine gate_dst (N := 4) rfl ?_); refine box_ (N := 4) (cs := #[.slice A0_0 l0_0.length c0_0, .slice A0_1 l0_1.length c0_1]) (t := 26) (fun gb189 hg w6 hbox hb => ?_); have BK189 := Aside0.mk (hbox); have GW189 := ge_ hg HB; have GE189 := ge_ hg HB; replace HB := (bs_ HB hb); clear hb hbox hg) | ((with_reducible refine gate_dst (N := 6) rfl ?_); refine box_ (N := 6) (cs := #[.int .i64 a2_0, .int .i64 a2_1, .int .i64 a2_2, .int .i64 a2_3]) (t := 78) (fun gb190 hg w7 hbox hb => ?_); have BK190 := Aside0.mk (hbox); have GW190 := ge_ hg HB; have GE190 := ge_ hg HB; replace HB := (bs_ HB hb); have NB189_190 := nl_ hg BK189; have NB190_189 := ng_ hg BK189; replace BK189 := (bbA_ BK189 hb); clear hb hbox hg) | ((with_reducible refine gate_dst (N := 8) rfl ?_); refine box_ (N := 8) (cs := #[.slice none 0 0, .slice none 0 0]) (t := 26) (fun gb191 hg w8 hbox hb => ?_); have BK191 := Aside0.mk (hbox); have GW191 := ge_ hg HB; have GE191 := ge_ hg HB; replace HB := (bs_ HB hb); have NB189_191 := nl_ hg BK189; have NB191_189 := ng_ hg BK189; replace BK189 := (bbA_ BK189 hb); have NB190_191 := nl_ hg BK190; have NB191_190 := ng_ hg BK190; replace BK190 := (bbA_ BK190 hb); clear hb hbox hg) | ((with_reducible refine gate_dst (N := 15) rfl ?_); refine Kd.S_lit (Kd.slice 5 (Kd.int .u8)) _ 22 ?hg (N := 15) ?hd (xs := ([] : List (List Int))) (inner := []) (ok := fun _ => True) (okp := fun _ => True) ?hr ?hp (fun _ hk => hk) trivial (Below.refl _ _) (Nat.le_refl _) (by simp) ?_; (case hd => rfl); (case hg => rfl); (case hr => first | (go_simp; done) | (go_simp; rfl)); (case hp => exact (Reps.none _ _)); intro v193 w9 ho10 hb hg_ hnew_; clear hg_ hnew_; (first | rw [← Ny192.out] at ho10 | (simp only [Int.reduceToNat] at ho10; rw [← Ny192.out] at ho10)); have HO194 := Aside0.mk (Kd.S_lower ho10 (below_size (hbA_ HB.out))); replace BK189 := (bbA_ BK189 hb); replace BK190 := (bbA_ BK190 hb); replace BK191 := (bbA_ BK191 hb); replace HB := (bs_ HB hb); clear hb ho10))
 (try simp only [Act.put, List.setIfInBounds_toArray, List.set_cons_zero, List.set_cons_succ])
 go_cut [28] (fun v28 wc => ∃ (kq : Nat) (x28_4 : Bool), v28 = .bool x28_4 ∧ Aside0 (spec_NearHear.j0 kq a1 a3 y192 x28_4 l0_0 l0_1 a2_0 a2_1 a2_2 a2_3 = some (r1, r2, r3)) ∧ Aside0 (kq ≤ k) ∧ Aside0 (Kd.S (Kd.slice 5 (Kd.int .u8)) 22 wc w.heap.size (fun _ => True) v193 y192) ∧ Aside0 (wc.heap[gb189]? = some (.cells #[(.slice A0_0 l0_0.length c0_0), (.slice A0_1 l0_1.length c0_1)] 26 (0, 0))) ∧ Aside0 (wc.heap[gb190]? = some (.cells #[.int .i64 a2_0, .int .i64 a2_1, .int .i64 a2_2, .int .i64 a2_3] 78 (0, 0))) ∧ Aside0 (wc.heap[gb191]? = some (.cells #[(.slice none 0 0), (.slice none 0 0)] 26 (0, 0))) ∧ Aside0 (Below w.heap.size w wc))
 case first =>
  have H := HC5.out; clear HC5
  replace H := Option.bind_eq_some_iff.mp H
  obtain ⟨t195, A110, H⟩ := H
  (try dsimp only at H)
  have A11 := Aside0.mk A110; clear A110
  by_cases c12 : t195 = true
  ·subst c12
   rw [if_pos rfl] at H
   replace H := Option.bind_eq_some_iff.mp H
   obtain ⟨t196, A130, H⟩ := H
   (try dsimp only at H)
   have A13 := Aside0.mk A130; clear A130
   by_cases c14 : t196 = true
   ·subst c14
    rw [if_pos rfl] at H
    replace H := Option.bind_eq_some_iff.mp H
    obtain ⟨t197, A150, H⟩ := H
    (try dsimp only at H)
    have A15 := Aside0.mk A150; clear A150
    have H' := Aside0.mk H
    clear H; have hnb16 := NB189_190.out; have hnc16 := NB190_189.out; have hnb17 := NB189_191.out; have hnc17 := NB191_189.out; have Z18 := zz2 BK189
    go_wp2_with (first | ((with_reducible refine gate_callee (f := 29) rfl ?_); refine goesL_ (some 17) rfl rfl Try.func29 (by kernel_rfl) rfl #[.agg #[.slice A0_0 l0_0.length c0_0, .slice A0_1 l0_1.length c0_1]] rfl ar_ ?_; (with_reducible refine (spec_NearOk.calls k _ _ l0_0 _ _ l0_1 true _ ?side1 ?side2 ?side3 ?side4 A11.out).mono ?_); (case side1 => exact kC_ (Kd.C_below HR0_0.out HB.out)); (case side2 => exact HC0_0.out); (case side3 => exact kC_ (Kd.C_below HR0_1.out HB.out)); (case side4 => exact HC0_1.out); rintro e w19 ⟨rfl, hb⟩; refine ⟨_, rfl, ?_⟩; replace HO194 := Aside0.mk (Kd.S_below (kS_ HO194.out) hb); replace BK189 := (bbA_ BK189 hb); replace BK190 := (bbA_ BK190 hb); replace BK191 := (bbA_ BK191 hb); replace HB := (bs_ HB hb); (try clear hb); (try clear hb2); (try clear hk); (try clear hi); have hnb20 := NB190_191.out; have hnc20 := NB191_190.out; have Z21 := zz4 BK190) | (go_at_call 63; (with_reducible refine (spec_QueryOk.calls a2_0 a2_1 a2_2 a2_3 true _ A13.out).mono ?_); rintro e w22 ⟨rfl, hb⟩; replace HO194 := Aside0.mk (Kd.S_below (kS_ HO194.out) hb); replace BK189 := (bbA_ BK189 hb); replace BK190 := (bbA_ BK190 hb); replace BK191 := (bbA_ BK191 hb); replace HB := (bs_ HB hb); (try clear hb); (try clear hb2); (try clear hk); (try clear hi)) | (go_at_call 30; (with_reducible refine (spec_l1In.calls a3 0 999980 t197 _ A15.out).mono ?_); rintro e w' ⟨rfl, ⟨nd, rfl⟩⟩))
    go_meet
    case rel => exact ⟨_, (!t197), (by first | rfl | (simp; done) | (simp [*]; done)), H', ⟨by first | omega | exact Nat.le_refl _⟩, ⟨by refine kS_ ?_; exact HO194.out⟩, ⟨by refine kb_ ?_; exact BK189.out⟩, ⟨by refine kb_ ?_; exact BK190.out⟩, ⟨by refine kb_ ?_; exact BK191.out⟩, ⟨hbA_ HB.out⟩⟩
   ·replace c14 := Bool.eq_false_iff.mpr c14
    subst c14
    rw [if_neg (show ¬ (false = true) by decide)] at H
    have H' := Aside0.mk H
    clear H; have hnb23 := NB189_190.out; have hnc23 := NB190_189.out; have hnb24 := NB189_191.out; have hnc24 := NB191_189.out; have Z25 := zz2 BK189
    go_wp2_with (first | ((with_reducible refine gate_callee (f := 29) rfl ?_); refine goesL_ (some 17) rfl rfl Try.func29 (by kernel_rfl) rfl #[.agg #[.slice A0_0 l0_0.length c0_0, .slice A0_1 l0_1.length c0_1]] rfl ar_ ?_; (with_reducible refine (spec_NearOk.calls k _ _ l0_0 _ _ l0_1 true _ ?side1 ?side2 ?side3 ?side4 A11.out).mono ?_); (case side1 => exact kC_ (Kd.C_below HR0_0.out HB.out)); (case side2 => exact HC0_0.out); (case side3 => exact kC_ (Kd.C_below HR0_1.out HB.out)); (case side4 => exact HC0_1.out); rintro e w26 ⟨rfl, hb⟩; refine ⟨_, rfl, ?_⟩; replace HO194 := Aside0.mk (Kd.S_below (kS_ HO194.out) hb); replace BK189 := (bbA_ BK189 hb); replace BK190 := (bbA_ BK190 hb); replace BK191 := (bbA_ BK191 hb); replace HB := (bs_ HB hb); (try clear hb); (try clear hb2); (try clear hk); (try clear hi); have hnb27 := NB190_191.out; have hnc27 := NB191_190.out; have Z28 := zz4 BK190) | (go_at_call 63; (with_reducible refine (spec_QueryOk.calls a2_0 a2_1 a2_2 a2_3 false _ A13.out).mono ?_); rintro e w29 ⟨rfl, hb⟩; replace HO194 := Aside0.mk (Kd.S_below (kS_ HO194.out) hb); replace BK189 := (bbA_ BK189 hb); replace BK190 := (bbA_ BK190 hb); replace BK191 := (bbA_ BK191 hb); replace HB := (bs_ HB hb); (try clear hb); (try clear hb2); (try clear hk); (try clear hi)))
    go_meet
    case rel => exact ⟨_, (true), (by first | rfl | (simp; done) | (simp [*]; done)), H', ⟨by first | omega | exact Nat.le_refl _⟩, ⟨by refine kS_ ?_; exact HO194.out⟩, ⟨by refine kb_ ?_; exact BK189.out⟩, ⟨by refine kb_ ?_; exact BK190.out⟩, ⟨by refine kb_ ?_; exact BK191.out⟩, ⟨hbA_ HB.out⟩⟩
  ·replace c12 := Bool.eq_false_iff.mpr c12
   subst c12
   rw [if_neg (show ¬ (false = true) by decide)] at H
   have H' := Aside0.mk H
   clear H; have hnb30 := NB189_190.out; have hnc30 := NB190_189.out; have hnb31 := NB189_191.out; have hnc31 := NB191_189.out; have Z32 := zz2 BK189
   go_wp2_with (first | ((with_reducible refine gate_callee (f := 29) rfl ?_); refine goesL_ (some 17) rfl rfl Try.func29 (by kernel_rfl) rfl #[.agg #[.slice A0_0 l0_0.length c0_0, .slice A0_1 l0_1.length c0_1]] rfl ar_ ?_; (with_reducible refine (spec_NearOk.calls k _ _ l0_0 _ _ l0_1 false _ ?side1 ?side2 ?side3 ?side4 A11.out).mono ?_); (case side1 => exact kC_ (Kd.C_below HR0_0.out HB.out)); (case side2 => exact HC0_0.out); (case side3 => exact kC_ (Kd.C_below HR0_1.out HB.out)); (case side4 => exact HC0_1.out); rintro e w33 ⟨rfl, hb⟩; refine ⟨_, rfl, ?_⟩; replace HO194 := Aside0.mk (Kd.S_below (kS_ HO194.out) hb); replace BK189 := (bbA_ BK189 hb); replace BK190 := (bbA_ BK190 hb); replace BK191 := (bbA_ BK191 hb); replace HB := (bs_ HB hb); (try clear hb); (try clear hb2); (try clear hk); (try clear hi)))
   go_meet
   case rel => exact ⟨_, (true), (by first | rfl | (simp; done) | (simp [*]; done)), H', ⟨by first | omega | exact Nat.le_refl _⟩, ⟨by refine kS_ ?_; exact HO194.out⟩, ⟨by refine kb_ ?_; exact BK189.out⟩, ⟨by refine kb_ ?_; exact BK190.out⟩, ⟨by refine kb_ ?_; exact BK191.out⟩, ⟨hbA_ HB.out⟩⟩
 case rest =>
  clear HC5; (try clear c1); (try clear c2); (try clear p2); (try clear c3); (try clear c4); (try clear c12); (try clear c14); (try clear c16); (try clear c17); (try clear c20); (try clear c23); (try clear c24); (try clear c27); (try clear c29); (try clear c30); (try clear c31); (try clear Z18); (try clear Z21); (try clear Z25); (try clear Z28); (try clear Z32)
  obtain ⟨kq, x28_4, rfl, HA, HJ4, HO_10, BK189, BK190, BK191, HB⟩ := hcut
  cases kq with
  | zero => exact absurd HA.out (by simp [spec_NearHear.j0])
  | succ kj4 =>
   have H := HA.out; clear HA
   simp only [spec_NearHear.j0] at H
   by_cases c34 : x28_4 = true
   ·subst c34
    rw [if_pos rfl] at H
    simp only [Option.some.injEq, Prod.mk.injEq] at H
    obtain ⟨rfl, rfl, rfl⟩ := H
    have hnb35 := NB191_189.out; have hnc35 := NB189_191.out; have hnb36 := NB191_190.out; have hnc36 := NB190_191.out; have Z37 := zz2 BK191
    go_wp2
    refine bodyPost_ret (results_ct rfl _ _ gb191 26 #[.slice none 0 0, .slice none 0 0] (0, 0) _ rfl (by refine kb_ ?_; refine pz2 (cs := #[.slice none 0 0, .slice none 0 0]) ?_; refine kb_ ?_; exact BK191.out) Try.underlying26 rfl (by kernel_rfl)) rfl ?_
    exact ⟨_, _, _, by first | rfl | (simp [errW_none, errW_some] <;> rfl) | (simp [*, errW_none, errW_some] <;> rfl), Kd.Q_of_R (by first | exact Kd.R_nil _ _ _ _ _ | exact Kd.N_nil _ _ _ _ _ | exact Kd.V_nil _ _ _ _ _ | exact Kd.Q_nil _ _ _ _ _ | exact Kd.S_nil _ _ _ _ _), by first | exact Kd.S_nil _ _ _ _ _ | exact Kd.N_nil _ _ _ _ _ | exact Kd.V_nil _ _ _ _ _ | exact Kd.Q_nil _ _ _ _ _ | exact Kd.R_nil _ _ _ _ _, by refine kS_ ?_; exact Kd.S_mono (Kd.S_far (p := ⟨gb191, 1, none⟩) (Kd.S_far (p := ⟨gb191, 0, none⟩) (Kd.S_types HO_10.out BK191.out (by decide)) (fun _ hk => hk.2) (.slice none 0 0)) (fun _ hk => hk.2) (.slice none 0 0)) (fun _ hk => trivial), hbA_ HB.out⟩
   ·replace c34 := Bool.eq_false_iff.mpr c34
    subst c34
    rw [if_neg (show ¬ (false = true) by decide)] at H
    have H' := Aside0.mk H
    clear H
    go_wp2_with (first | ((with_reducible refine gate_dst (N := 11) rfl ?_); refine box_ (N := 11) (cs := #[.slice none 0 0, .slice none 0 0]) (t := 26) (fun gb198 hg w38 hbox hb => ?_); replace HO_10 := Aside0.mk (Kd.S_below (kS_ HO_10.out) hb); have BK198 := Aside0.mk (hbox); have GW198 := ge_ hg HB; have GE198 := ge_ hg HB; replace HB := (bs_ HB hb); have NB189_198 := nl_ hg BK189; have NB198_189 := ng_ hg BK189; replace BK189 := (bbA_ BK189 hb); have NB190_198 := nl_ hg BK190; have NB198_190 := ng_ hg BK190; replace BK190 := (bbA_ BK190 hb); have NB191_198 := nl_ hg BK191; have NB198_191 := ng_ hg BK191; replace BK191 := (bbA_ BK191 hb); clear hb hbox hg; have hnb39 := NB198_189.out; have hnc39 := NB189_198.out; have hnb40 := NB198_190.out; have hnc40 := NB190_198.out; have hnb41 := NB198_191.out; have hnc41 := NB191_198.out; have Z42 := zz2 BK198; have hnb43 := NB190_189.out; have hnc43 := NB189_190.out; have hnb44 := NB190_191.out; have hnc44 := NB191_190.out; have Z45 := zz4 BK190))
    go_loopg [12, 13] kj4 (fun kq v12 v13 w' => ∃ (x12_2 : Bool) (x13_2 : Int) (x199000_2 : List (S60)) (u199000 : Value), v12 = .bool x12_2 ∧ v13 = .int .i64 x13_2 ∧ Aside0 (spec_NearHear.l0 kq a3 y192 x12_2 x13_2 l0_0 l0_1 a2_0 a2_1 a2_2 a2_3 x199000_2 = some (r1, r2, r3)) ∧ Aside0 (kq ≤ kj4) ∧ Aside0 (Kd.S (Kd.slice 5 (Kd.int .u8)) 22 w' w.heap.size (fun _ => True) v193 y192) ∧ Aside0 (Kd.Q k60 60 w' w.heap.size (fun _ => True) u199000 x199000_2) ∧ Aside0 (w'.heap[gb189]? = some (.cells #[(.slice A0_0 l0_0.length c0_0), (.slice A0_1 l0_1.length c0_1)] 26 (0, 0))) ∧ Aside0 (w'.heap[gb190]? = some (.cells #[.int .i64 a2_0, .int .i64 a2_1, .int .i64 a2_2, .int .i64 a2_3] 78 (0, 0))) ∧ Aside0 (w'.heap[gb191]? = some (.cells #[(.slice none 0 0), (.slice none 0 0)] 26 (0, 0))) ∧ Aside0 (w'.heap[gb198]? = some (.cells #[u199000, (.slice none 0 0)] 26 (0, 0))) ∧ Aside0 (Below w.heap.size w w'))
    case atStart => exact ⟨((a2_3 == a1)), (0), (([] : List (S60))), (.slice none 0 0), (by first | rfl | (simp; done) | (simp [*]; done)), (by first | rfl | (simp; done) | (simp [*]; done)), H', ⟨Nat.le_refl _⟩, ⟨by refine kS_ ?_; exact Kd.S_mono (Kd.S_far (p := ⟨gb198, 1, none⟩) (Kd.S_far (p := ⟨gb198, 0, none⟩) (Kd.S_types HO_10.out BK198.out (by decide)) (fun _ hk => hk.2) (.slice none 0 0)) (fun _ hk => hk.2) (.slice none 0 0)) (fun _ hk => trivial)⟩, ⟨Kd.Q_of_R (by first | exact Kd.R_nil _ _ _ _ _ | exact Kd.N_nil _ _ _ _ _ | exact Kd.V_nil _ _ _ _ _ | exact Kd.Q_nil _ _ _ _ _ | exact Kd.S_nil _ _ _ _ _)⟩, ⟨by exact kf_ BK189.out⟩, ⟨by exact kf_ BK190.out⟩, ⟨by exact kf_ BK191.out⟩, ⟨by refine kb_ ?_; refine pz2 (cs := #[.slice none 0 0, .slice none 0 0]) ?_; refine kb_ ?_; exact BK198.out⟩, ⟨hbA_ HB.out⟩⟩
    case round =>
     clear H'; (try clear c1); (try clear c2); (try clear p2); (try clear c3); (try clear c4); (try clear c12); (try clear c14); (try clear c16); (try clear c17); (try clear c20); (try clear c23); (try clear c24); (try clear c27); (try clear c29); (try clear c30); (try clear c31); (try clear c34); (try clear c35); (try clear c36); (try clear c39); (try clear c40); (try clear c41); (try clear c43); (try clear c44); (try clear Z18); (try clear Z21); (try clear Z25); (try clear Z28); (try clear Z32); (try clear Z37); (try clear Z42); (try clear Z45); (try clear p2)
     obtain ⟨x12_2, x13_2, x199000_2, u199000, rfl, rfl, HA, HK2, HO_10, HO_199000, BK189, BK190, BK191, BK198, HB⟩ := hrel
     cases gk with
     | zero => exact absurd HA.out (by simp [spec_NearHear.l0])
     | succ k2 =>
      have H := HA.out; clear HA
      simp only [spec_NearHear.l0] at H
      by_cases c46 : x13_2 < (l0_0.length : Int)
      ·rw [if_pos c46] at H
       have c46b0 : decide (x13_2 < (l0_0.length : Int)) = true := decide_eq_true c46
       clear c46
       by_cases c47 : 0 ≤ x13_2
       ·rw [if_pos c47] at H
        have c47b0 : decide (0 ≤ x13_2) = true := decide_eq_true c47
        clear c47
        by_cases c48 : ((rd_T60 l0_0 x13_2).f0) = a2_2
        ·rw [if_pos c48] at H
         have c48b0 : (((rd_T60 l0_0 x13_2).f0) == a2_2) = true := beq_iff_eq.mpr c48
         have c48b1 : (((rd_T60 l0_0 x13_2).f0) != a2_2) = false := bne_eq_false_iff_eq.mpr c48
         clear c48
         have H' := Aside0.mk H
         clear H; have hnb49 := NB189_190.out; have hnc49 := NB190_189.out; have hnb50 := NB189_191.out; have hnc50 := NB191_189.out; have hnb51 := NB189_198.out; have hnc51 := NB198_189.out; have Z52 := zz2 BK189
         try go_wp2
         replace HO_10 := Aside0.mk (Kd.S_drew HO_10.out); replace HO_199000 := Aside0.mk (Kd.Q_drew HO_199000.out); replace BK189 := Aside0.mk (blk_drew BK189.out); replace BK190 := Aside0.mk (blk_drew BK190.out); replace BK191 := Aside0.mk (blk_drew BK191.out); replace BK198 := Aside0.mk (blk_drew BK198.out); replace HB := (bd_ HB)
         have p199 : 0 ≤ (x13_2 : Int) := of_decide_eq_true (by first | (with_reducible assumption) | assumption)
         have q199 : x13_2 < (l0_0.length : Int) := of_decide_eq_true (by first | (with_reducible assumption) | assumption)
         obtain ⟨ad199, e199, hx199_0, hx199_1, hx199_2⟩ := at_T60 HR0_0.out x13_2 p199 q199
         have hw199_2 := hx199_2; have hw199_1 := hx199_1; have hw199_0 := hx199_0
         cases e199
         replace hx199_0 := cc_ HB hx199_0
         replace hx199_1 := cc_ HB hx199_1
         replace hx199_2 := cc_ HB hx199_2
         replace p199 := eq_true p199
         replace q199 := eq_true q199
         refine start_ (n := 9) (S := fun w' => w'.cell? ⟨gb189, 0, none⟩ = some (.slice (some ad199) l0_0.length c0_0) ∧ w'.cell? ⟨gb189, 1, none⟩ = some (.slice A0_1 l0_1.length c0_1) ∧ w'.cell? ⟨gb190, 0, none⟩ = some (.int .i64 a2_0) ∧ w'.cell? ⟨gb190, 1, none⟩ = some (.int .i64 a2_1) ∧ w'.cell? ⟨gb190, 2, none⟩ = some (.int .i64 a2_2) ∧ w'.cell? ⟨gb190, 3, none⟩ = some (.int .i64 a2_3) ∧ w'.cell? (ad199.add ((x13_2).toNat * 3)) = some (.int .i64 ((rd_T60 l0_0 x13_2).f0)) ∧ w'.cell? ⟨(ad199.add ((x13_2).toNat * 3)).block, (ad199.add ((x13_2).toNat * 3)).off + 1, none⟩ = some (.int .i64 ((rd_T60 l0_0 x13_2).f1)) ∧ w'.cell? ⟨(ad199.add ((x13_2).toNat * 3)).block, (ad199.add ((x13_2).toNat * 3)).off + 2, none⟩ = some (.int .i64 ((rd_T60 l0_0 x13_2).f2))) (ds := []) #[false, false, false, false, false, false, false, false, false] (by kernel_rfl) rfl rfl ⟨bc_ BK189 0, bc_ BK189 1, bc_ BK190 0, bc_ BK190 1, bc_ BK190 2, bc_ BK190 3, (cc_ HB hw199_0), (cc_ HB hw199_1), (cc_ HB hw199_2)⟩ (fun hHeld => ?_); refine with_tabW spec_NearHear.tab9 spec_NearHear.bits9 (fun HT_ HW_ => ?_)
         generalize wr.drew = w53 at HO_10 HO_199000 BK189 BK190 BK191 BK198 HB hx199_0 hx199_1 hx199_2 hHeld ⊢
         refine pu_ (i := 0) (N := some 43) HT_ ?_; refine pu_ (i := 2) (N := some 45) HT_ ?_; refine pu_ (i := 6) (N := some 49) HT_ ?_; refine tk_ (i := 1) (N := some 44) HT_ HW_ hHeld ?_; refine pu_ (i := 3) (N := some 46) HT_ ?_; refine pu_ (i := 4) (N := some 47) HT_ ?_; refine tk_ (i := 5) (N := some 48) HT_ HW_ hHeld ?_; refine tk_ (i := 7) (N := some 50) HT_ HW_ hHeld ?_; refine pu_ (i := 8) (N := some 51) HT_ ?_
         refine done_ (done_of HT_.out (by kernel_rfl)) ?_
         try go_wp2
         go_roundg k2
         case measure => have := HJ4.out; have := HK2.out; omega
         case rel => exact ⟨(true), (wrap64 (x13_2 + 1)), (x199000_2), (u199000), (by first | rfl | (simp; done) | (simp [*]; done)), (by first | rfl | (simp; done) | (simp [*]; done)), H', ⟨by have := HJ4.out; have := HK2.out; omega⟩, ⟨by refine kS_ ?_; exact HO_10.out⟩, ⟨by (with_reducible repeat (first | apply Kd.Q_alloc | apply Kd.Q_drewN | apply Kd.Q_drew)); exact HO_199000.out⟩, ⟨by refine kb_ ?_; exact BK189.out⟩, ⟨by refine kb_ ?_; exact BK190.out⟩, ⟨by refine kb_ ?_; exact BK191.out⟩, ⟨by refine kb_ ?_; exact BK198.out⟩, ⟨hbA_ HB.out⟩⟩
        ·rw [if_neg c48] at H
         have c48b0 : (((rd_T60 l0_0 x13_2).f0) == a2_2) = false := beq_eq_false_iff_ne.mpr c48
         have c48b1 : (((rd_T60 l0_0 x13_2).f0) != a2_2) = true := bne_iff_ne.mpr c48
         by_cases c54 : x199000_2.length < 5864062014805
         ·rw [if_pos c54] at H
          have LMc54 := Aside0.mk c54; clear c54
          obtain ⟨y201, hy201⟩ : ∃ y_ : List (S60), y_ = (x199000_2 ++ [(⟨(rd_T60 l0_0 x13_2).f0, (rd_T60 l0_0 x13_2).f1, (rd_T60 l0_0 x13_2).f2⟩ : S60)]) := ⟨_, rfl⟩
          (first | replace H := sb_ hy201 H | rw [← hy201] at H)
          have Ny201 := Aside0.mk hy201; clear hy201
          have H' := Aside0.mk H
          clear H; have hnb55 := NB189_190.out; have hnc55 := NB190_189.out; have hnb56 := NB189_191.out; have hnc56 := NB191_189.out; have hnb57 := NB189_198.out; have hnc57 := NB198_189.out; have Z58 := zz2 BK189
          try go_wp2
          replace HO_10 := Aside0.mk (Kd.S_drew HO_10.out); replace HO_199000 := Aside0.mk (Kd.Q_drew HO_199000.out); replace BK189 := Aside0.mk (blk_drew BK189.out); replace BK190 := Aside0.mk (blk_drew BK190.out); replace BK191 := Aside0.mk (blk_drew BK191.out); replace BK198 := Aside0.mk (blk_drew BK198.out); replace HB := (bd_ HB)
          have p199 : 0 ≤ (x13_2 : Int) := of_decide_eq_true (by first | (with_reducible assumption) | assumption)
          have q199 : x13_2 < (l0_0.length : Int) := of_decide_eq_true (by first | (with_reducible assumption) | assumption)
          obtain ⟨ad199, e199, hx199_0, hx199_1, hx199_2⟩ := at_T60 HR0_0.out x13_2 p199 q199
          have hw199_2 := hx199_2; have hw199_1 := hx199_1; have hw199_0 := hx199_0
          cases e199
          replace hx199_0 := cc_ HB hx199_0
          replace hx199_1 := cc_ HB hx199_1
          replace hx199_2 := cc_ HB hx199_2
          replace p199 := eq_true p199
          replace q199 := eq_true q199
          refine start_ (n := 9) (S := fun w' => w'.cell? ⟨gb189, 0, none⟩ = some (.slice (some ad199) l0_0.length c0_0) ∧ w'.cell? ⟨gb189, 1, none⟩ = some (.slice A0_1 l0_1.length c0_1) ∧ w'.cell? ⟨gb190, 0, none⟩ = some (.int .i64 a2_0) ∧ w'.cell? ⟨gb190, 1, none⟩ = some (.int .i64 a2_1) ∧ w'.cell? ⟨gb190, 2, none⟩ = some (.int .i64 a2_2) ∧ w'.cell? ⟨gb190, 3, none⟩ = some (.int .i64 a2_3) ∧ w'.cell? (ad199.add ((x13_2).toNat * 3)) = some (.int .i64 ((rd_T60 l0_0 x13_2).f0)) ∧ w'.cell? ⟨(ad199.add ((x13_2).toNat * 3)).block, (ad199.add ((x13_2).toNat * 3)).off + 1, none⟩ = some (.int .i64 ((rd_T60 l0_0 x13_2).f1)) ∧ w'.cell? ⟨(ad199.add ((x13_2).toNat * 3)).block, (ad199.add ((x13_2).toNat * 3)).off + 2, none⟩ = some (.int .i64 ((rd_T60 l0_0 x13_2).f2))) (ds := []) #[false, false, false, false, false, false, false, false, false] (by kernel_rfl) rfl rfl ⟨bc_ BK189 0, bc_ BK189 1, bc_ BK190 0, bc_ BK190 1, bc_ BK190 2, bc_ BK190 3, (cc_ HB hw199_0), (cc_ HB hw199_1), (cc_ HB hw199_2)⟩ (fun hHeld => ?_); refine with_tabW spec_NearHear.tab9 spec_NearHear.bits9 (fun HT_ HW_ => ?_)
          generalize wr.drew = w59 at HO_10 HO_199000 BK189 BK190 BK191 BK198 HB hx199_0 hx199_1 hx199_2 hHeld ⊢
          refine pu_ (i := 0) (N := some 43) HT_ ?_; refine pu_ (i := 2) (N := some 45) HT_ ?_; refine pu_ (i := 6) (N := some 49) HT_ ?_; refine tk_ (i := 1) (N := some 44) HT_ HW_ hHeld ?_; refine pu_ (i := 3) (N := some 46) HT_ ?_; refine pu_ (i := 4) (N := some 47) HT_ ?_; refine tk_ (i := 5) (N := some 48) HT_ HW_ hHeld ?_; refine tk_ (i := 7) (N := some 50) HT_ HW_ hHeld ?_; refine pu_ (i := 8) (N := some 51) HT_ ?_
          refine done_ (done_of HT_.out (by kernel_rfl)) ?_
          try go_wp2
          replace HO_10 := Aside0.mk (Kd.S_drew HO_10.out); replace HO_199000 := Aside0.mk (Kd.Q_drew HO_199000.out); replace BK189 := Aside0.mk (blk_drew BK189.out); replace BK190 := Aside0.mk (blk_drew BK190.out); replace BK191 := Aside0.mk (blk_drew BK191.out); replace BK198 := Aside0.mk (blk_drew BK198.out); replace HB := (bd_ HB)
          have p200 : 0 ≤ (x13_2 : Int) := of_decide_eq_true (by first | (with_reducible assumption) | assumption)
          have q200 : x13_2 < (l0_0.length : Int) := of_decide_eq_true (by first | (with_reducible assumption) | assumption)
          obtain ⟨ad200, e200, hx200_0, hx200_1, hx200_2⟩ := at_T60 HR0_0.out x13_2 p200 q200
          have hw200_2 := hx200_2; have hw200_1 := hx200_1; have hw200_0 := hx200_0
          obtain rfl : ad199 = ad200 := (by injection e200)
          replace hx200_0 := cc_ HB hx200_0
          replace hx200_1 := cc_ HB hx200_1
          replace hx200_2 := cc_ HB hx200_2
          replace p200 := eq_true p200
          replace q200 := eq_true q200
          refine start_ (n := 11) (S := fun w' => w'.cell? ⟨gb198, 0, none⟩ = some (u199000) ∧ w'.cell? ⟨gb198, 1, none⟩ = some (.slice none 0 0) ∧ w'.cell? ⟨gb189, 0, none⟩ = some (.slice (some ad199) l0_0.length c0_0) ∧ w'.cell? ⟨gb189, 1, none⟩ = some (.slice A0_1 l0_1.length c0_1) ∧ w'.cell? (ad199.add ((x13_2).toNat * 3)) = some (.int .i64 ((rd_T60 l0_0 x13_2).f0)) ∧ w'.cell? ⟨(ad199.add ((x13_2).toNat * 3)).block, (ad199.add ((x13_2).toNat * 3)).off + 1, none⟩ = some (.int .i64 ((rd_T60 l0_0 x13_2).f1)) ∧ w'.cell? ⟨(ad199.add ((x13_2).toNat * 3)).block, (ad199.add ((x13_2).toNat * 3)).off + 2, none⟩ = some (.int .i64 ((rd_T60 l0_0 x13_2).f2))) (ds := [10]) #[false, false, false, false, false, false, false, false, false, false, false] (by kernel_rfl) rfl rfl ⟨bc_ BK198 0, bc_ BK198 1, bc_ BK189 0, bc_ BK189 1, (cc_ HB hw200_0), (cc_ HB hw200_1), (cc_ HB hw200_2)⟩ (fun hHeld => ?_); refine with_tabW spec_NearHear.tab11 spec_NearHear.bits11 (fun HT_ HW_ => ?_)
          generalize w59.drew = w60 at HO_10 HO_199000 BK189 BK190 BK191 BK198 HB hx200_0 hx200_1 hx200_2 hHeld ⊢
          refine pu_ (i := 0) (N := some 52) HT_ ?_; refine pu_ (i := 2) (N := some 54) HT_ ?_; refine pu_ (i := 4) (N := some 56) HT_ ?_; refine tk_ (i := 1) (N := some 53) HT_ HW_ hHeld ?_; refine tk_ (i := 3) (N := some 55) HT_ HW_ hHeld ?_; refine pu_ (i := 5) (N := some 57) HT_ ?_; refine tk_ (i := 6) (N := some 58) HT_ HW_ hHeld ?_
          refine on_ (i := 7) (N := some 59) HT_ (fun K hK => ?_)
          refine value_ (w1 := ?_) (v := ?_) (by rfl) rfl ?_ ?_
          rotate_left 2
          ·go_simp
           constructor
           ·rfl
           ·rfl
          refine hK.out _ _ ⟨(blk_cell (blk_alloc BK198.out _) 0).trans rfl, (blk_cell (blk_alloc BK198.out _) 1).trans rfl, (blk_cell (blk_alloc BK189.out _) 0).trans rfl, (blk_cell (blk_alloc BK189.out _) 1).trans rfl, (World.cell?_alloc_lt _ _ _ (World.block_lt_of_cell? _ _ ((by first | exact cc_ HB hw200_0 | exact cc_ ⟨hbA_ HB.out⟩ hw200_0)))).trans ((by first | exact cc_ HB hw200_0 | exact cc_ ⟨hbA_ HB.out⟩ hw200_0)), (World.cell?_alloc_lt _ _ _ (World.block_lt_of_cell? _ _ ((by first | exact cc_ HB hw200_1 | exact cc_ ⟨hbA_ HB.out⟩ hw200_1)))).trans ((by first | exact cc_ HB hw200_1 | exact cc_ ⟨hbA_ HB.out⟩ hw200_1)), (World.cell?_alloc_lt _ _ _ (World.block_lt_of_cell? _ _ ((by first | exact cc_ HB hw200_2 | exact cc_ ⟨hbA_ HB.out⟩ hw200_2)))).trans ((by first | exact cc_ HB hw200_2 | exact cc_ ⟨hbA_ HB.out⟩ hw200_2))⟩ (fun hHeld => ?_)
          clear hK K; refine nm_ 59 ?_
          refine on_ (i := 8) (N := some 60) HT_ (fun K hK => ?_)
          refine Kd.Q_append_step k60 (w0 := w) w.heap.size (by rfl) (.tmp 53) (.tmp 59) 23 60 (.agg #[(.int .i64 0), (.int .i64 0), (.int .i64 0)]) 24 rfl Try.underlying23 info60 rfl (by decide) (by omega) u199000 x199000_2 (⟨(rd_T60 l0_0 x13_2).f0, (rd_T60 l0_0 x13_2).f1, (rd_T60 l0_0 x13_2).f2⟩ : S60) [.int .i64 ((rd_T60 l0_0 x13_2).f0), .int .i64 ((rd_T60 l0_0 x13_2).f1), .int .i64 ((rd_T60 l0_0 x13_2).f2)] (fun _ => True) (fun _ => False) rfl rfl ?aP (fun _ hk => hk.elim) ?aF ?aO ?aB ?aS ?aL ?_
          (case aP => exact k60_mkM _ _ _ (⟨(rd_T60 l0_0 x13_2).f0, (rd_T60 l0_0 x13_2).f1, (rd_T60 l0_0 x13_2).f2⟩ : S60))
          (case aB => exact (hbA_ HB.out))
          (case aF => exact (fun _ _ => trivial))
          (case aO => exact (by (with_reducible repeat (first | apply Kd.Q_alloc | apply Kd.Q_drewN | apply Kd.Q_drew)); exact HO_199000.out))
          (case aS => exact (below_size (hbA_ HB.out)))
          (case aL => have := LMc54.out; omega)
          intro v202 w61 ho hb hg hat
          rw [← Ny201.out] at ho
          have n0_ := Aside0.mk (Kd.S_over' (kS_ HO_10.out) (Kd.Q_typed (by (with_reducible repeat (first | apply Kd.Q_alloc | apply Kd.Q_drewN | apply Kd.Q_drew)); exact HO_199000.out)) (by decide) hg); have n1_ := (bgA_ BK189 hg (Kd.Q_ne HO_199000.out BK189.out (by decide))); have n2_ := (bgA_ BK190 hg (Kd.Q_ne HO_199000.out BK190.out (by decide))); have n3_ := (bgA_ BK191 hg (Kd.Q_ne HO_199000.out BK191.out (by decide))); have n4_ := (bgA_ BK198 hg (Kd.Q_ne HO_199000.out BK198.out (by decide))); have n5_ := Aside0.mk (hb); have n6_ := Aside0.mk (ho); clear HO_10 BK189 BK190 BK191 BK198 HB HO_199000; have HO_10 := n0_; have BK189 := n1_; have BK190 := n2_; have BK191 := n3_; have BK198 := n4_; have HB := n5_; have HO203 := n6_; clear n0_ n1_ n2_ n3_ n4_ n5_ n6_ ho hb hg hat
          obtain ⟨Ao62, co62, eo62, _⟩ := Kd.Q_slice HO203.out
          (first | subst eo62 | (injection eo62 with f1_ f2_ f3_; have f4_ := f1_.symm; have f5_ := f3_.symm; clear f1_ f2_ f3_; subst f4_; subst f5_))
          refine hK.out _ _ ⟨bc_ BK198 0, bc_ BK198 1, bc_ BK189 0, bc_ BK189 1, (by first | exact cc_ HB hw200_0 | exact cc_ ⟨hbA_ HB.out⟩ hw200_0), (by first | exact cc_ HB hw200_1 | exact cc_ ⟨hbA_ HB.out⟩ hw200_1), (by first | exact cc_ HB hw200_2 | exact cc_ ⟨hbA_ HB.out⟩ hw200_2)⟩ (fun hHeld => ?_)
          clear hK K; refine nm_ 60 ?_; refine pu_ (i := 9) (N := some 61) HT_ ?_
          refine last_ (i := 10) (N := none) #[true, true, true, true, true, true, true, true, true, true, true] rfl rfl (one_of HT_.out (by kernel_rfl)) (by decide) (fun K hK => ?_)
          have hs63 : w61.cell? ⟨gb198, 0, none⟩ = some (u199000) := bc_ BK198 0
          have hfs63 := blk_frozen BK198.out 0
          have hns63_0 := NB189_198.out; have hns63_1 := NB190_198.out; have hns63_2 := NB191_198.out; have hms63_0 := NB198_189.out; have hms63_1 := NB198_190.out; have hms63_2 := NB198_191.out
          refine skip_ (w1 := ?_) (by rfl) rfl ?_ ?_
          rotate_left
          ·go_simp
           rfl
          refine hK.out _ _ ?_
          clear hK K
          refine done_ (done_of HT_.out (by kernel_rfl)) ?_
          try go_wp2
          go_roundg k2
          case measure => have := HJ4.out; have := HK2.out; omega
          case rel => exact ⟨(x12_2), (wrap64 (x13_2 + 1)), (y201), (.slice Ao62 y201.length co62), (by first | rfl | (simp; done) | (simp [*]; done)), (by first | rfl | (simp; done) | (simp [*]; done)), H', ⟨by have := HJ4.out; have := HK2.out; omega⟩, ⟨by refine kS_ ?_; exact Kd.S_mono (Kd.S_far (p := ⟨gb198, 0, none⟩) (Kd.S_types HO_10.out BK198.out (by decide)) (fun _ hk => hk.2) (.slice Ao62 y201.length co62)) (fun _ hk => trivial)⟩, ⟨by (with_reducible repeat (first | apply Kd.Q_alloc | apply Kd.Q_drewN | apply Kd.Q_drew)); exact Kd.Q_mono (Kd.Q_far (p := ⟨gb198, 0, none⟩) (Kd.Q_types HO203.out BK198.out (by decide)) (fun _ hk => hk.2) (.slice Ao62 y201.length co62)) (fun _ hk => trivial)⟩, ⟨by exact kf_ BK189.out⟩, ⟨by exact kf_ BK190.out⟩, ⟨by exact kf_ BK191.out⟩, ⟨by refine kb_ ?_; refine blk_put (cs := #[u199000, .slice none 0 0]) ?_ 0 _ rfl; refine kb_ ?_; exact BK198.out⟩, ⟨hbA_ HB.out⟩⟩
         ·rw [if_neg c54] at H
          exact absurd H (by simp)
       ·rw [if_neg c47] at H
        exact absurd H (by simp)
      ·rw [if_neg c46] at H
       have c46b0 : decide (x13_2 < (l0_0.length : Int)) = false := decide_eq_false c46
       clear c46
       have H' := Aside0.mk H
       clear H; have hnb64 := NB189_190.out; have hnc64 := NB190_189.out; have hnb65 := NB189_191.out; have hnc65 := NB191_189.out; have hnb66 := NB189_198.out; have hnc66 := NB198_189.out; have Z67 := zz2 BK189
       go_wp2
       go_loopg [10, 12, 14] k2 (fun kq v10 v12 v14 w' => ∃ (x10_3 : List (List Int)) (x12_3 : Bool) (x14_3 : Int) (x199001_3 : List (S36)) (u199001 : Value), v12 = .bool x12_3 ∧ v14 = .int .i64 x14_3 ∧ Aside0 (spec_NearHear.l1 kq a3 x10_3 x12_3 x14_3 l0_0 l0_1 a2_0 a2_1 a2_2 a2_3 x199000_2 x199001_3 = some (r1, r2, r3)) ∧ Aside0 (kq ≤ k2) ∧ Aside0 (Kd.S (Kd.slice 5 (Kd.int .u8)) 22 w' w.heap.size (fun _ => True) v10 x10_3) ∧ Aside0 (Kd.Q k60 60 w' w.heap.size (fun _ => True) u199000 x199000_2) ∧ Aside0 (Kd.S k36 36 w' w.heap.size (fun _ => True) u199001 x199001_3) ∧ Aside0 (w'.heap[gb189]? = some (.cells #[(.slice A0_0 l0_0.length c0_0), (.slice A0_1 l0_1.length c0_1)] 26 (0, 0))) ∧ Aside0 (w'.heap[gb190]? = some (.cells #[.int .i64 a2_0, .int .i64 a2_1, .int .i64 a2_2, .int .i64 a2_3] 78 (0, 0))) ∧ Aside0 (w'.heap[gb191]? = some (.cells #[(.slice none 0 0), (.slice none 0 0)] 26 (0, 0))) ∧ Aside0 (w'.heap[gb198]? = some (.cells #[u199000, u199001] 26 (0, 0))) ∧ Aside0 (Below w.heap.size w w'))
       case atStart => exact ⟨(y192), (x12_2), (0), (([] : List (S36))), (.slice none 0 0), (by first | rfl | (simp; done) | (simp [*]; done)), (by first | rfl | (simp; done) | (simp [*]; done)), H', ⟨Nat.le_refl _⟩, ⟨by refine kS_ ?_; exact HO_10.out⟩, ⟨by (with_reducible repeat (first | apply Kd.Q_alloc | apply Kd.Q_drewN | apply Kd.Q_drew)); exact HO_199000.out⟩, ⟨by first | exact Kd.S_nil _ _ _ _ _ | exact Kd.N_nil _ _ _ _ _ | exact Kd.V_nil _ _ _ _ _ | exact Kd.Q_nil _ _ _ _ _ | exact Kd.R_nil _ _ _ _ _⟩, ⟨by refine kb_ ?_; exact BK189.out⟩, ⟨by refine kb_ ?_; exact BK190.out⟩, ⟨by refine kb_ ?_; exact BK191.out⟩, ⟨by refine kb_ ?_; exact BK198.out⟩, ⟨hbA_ HB.out⟩⟩
       case round =>
        clear H'; (try clear c1); (try clear p1); (try clear q1); (try clear hx1); (try clear c2); (try clear p2); (try clear q2); (try clear hx2); (try clear c3); (try clear c4); (try clear c5); (try clear c6); (try clear p6); (try clear c12); (try clear c14); (try clear c16); (try clear c17); (try clear p19); (try clear q19); (try clear hx19); (try clear c20); (try clear p20); (try clear q20); (try clear hx20); (try clear c23); (try clear c24); (try clear c27); (try clear c29); (try clear c30); (try clear c31); (try clear c34); (try clear c35); (try clear c36); (try clear c39); (try clear c40); (try clear c41); (try clear c43); (try clear c44); (try clear c46); (try clear c46b0); (try clear c47); (try clear c47b0); (try clear c48); (try clear c48b0); (try clear c48b1); (try clear c49); (try clear c50); (try clear c51); (try clear c54); (try clear c55); (try clear c56); (try clear c57); (try clear c64); (try clear p64); (try clear c65); (try clear c66); (try clear Z18); (try clear Z21); (try clear Z25); (try clear Z28); (try clear Z32); (try clear Z37); (try clear Z42); (try clear Z45); (try clear Z52); (try clear Z58); (try clear Z67); (try clear hx199_0); (try clear hx199_1); (try clear hx199_2); (try clear hx200_0); (try clear hx200_1); (try clear hx200_2); (try clear p199); (try clear p2); (try clear p200); (try clear q199); (try clear q200)
        obtain ⟨x10_3, x12_3, x14_3, x199001_3, u199001, rfl, rfl, HA, HK3, HO_10, HO_199000, HO_199001, BK189, BK190, BK191, BK198, HB⟩ := hrel
        cases gk with
        | zero => exact absurd HA.out (by simp [spec_NearHear.l1])
        | succ k3 =>
         have H := HA.out; clear HA
         simp only [spec_NearHear.l1] at H
         by_cases c68 : x14_3 < (l0_1.length : Int)
         ·rw [if_pos c68] at H
          have c68b0 : decide (x14_3 < (l0_1.length : Int)) = true := decide_eq_true c68
          clear c68
          by_cases c69 : 0 ≤ x14_3
          ·rw [if_pos c69] at H
           have c69b0 : decide (0 ≤ x14_3) = true := decide_eq_true c69
           clear c69
           by_cases c70 : ((rd_T36 l0_1 x14_3).f0) = a2_2
           ·rw [if_pos c70] at H
            have c70b0 : (((rd_T36 l0_1 x14_3).f0) == a2_2) = true := beq_iff_eq.mpr c70
            have c70b1 : (((rd_T36 l0_1 x14_3).f0) != a2_2) = false := bne_eq_false_iff_eq.mpr c70
            clear c70
            obtain ⟨y205, hy205⟩ : ∃ y_ : List Int, y_ = (([] : List Int)) := ⟨_, rfl⟩
            (first | replace H := sb_ hy205 H | rw [← hy205] at H)
            have Ny205 := Aside0.mk hy205; clear hy205
            by_cases c71 : y205.length + ((rd_T36 l0_1 x14_3).f1).length < 140737488355328
            ·rw [if_pos c71] at H
             have LMc71 := Aside0.mk c71; clear c71
             obtain ⟨y209, hy209⟩ : ∃ y_ : List Int, y_ = (y205 ++ ((rd_T36 l0_1 x14_3).f1)) := ⟨_, rfl⟩
             (first | replace H := sb_ hy209 H | rw [← hy209] at H)
             have Ny209 := Aside0.mk hy209; clear hy209
             by_cases c72 : x10_3.length < 5864062014805
             ·rw [if_pos c72] at H
              have LMc72 := Aside0.mk c72; clear c72
              obtain ⟨y212, hy212⟩ : ∃ y_ : List (List Int), y_ = (x10_3 ++ [y209]) := ⟨_, rfl⟩
              (first | replace H := sb_ hy212 H | rw [← hy212] at H)
              have Ny212 := Aside0.mk hy212; clear hy212
              have H' := Aside0.mk H
              clear H; have hnb73 := NB189_190.out; have hnc73 := NB190_189.out; have hnb74 := NB189_191.out; have hnc74 := NB191_189.out; have hnb75 := NB189_198.out; have hnc75 := NB198_189.out; have Z76 := zz2 BK189
              try go_wp2
              replace HO_10 := Aside0.mk (Kd.S_drew HO_10.out); replace HO_199000 := Aside0.mk (Kd.Q_drew HO_199000.out); replace HO_199001 := Aside0.mk (Kd.S_drew HO_199001.out); replace BK189 := Aside0.mk (blk_drew BK189.out); replace BK190 := Aside0.mk (blk_drew BK190.out); replace BK191 := Aside0.mk (blk_drew BK191.out); replace BK198 := Aside0.mk (blk_drew BK198.out); replace HB := (bd_ HB)
              have p204 : 0 ≤ (x14_3 : Int) := of_decide_eq_true (by first | (with_reducible assumption) | assumption)
              have q204 : x14_3 < (l0_1.length : Int) := of_decide_eq_true (by first | (with_reducible assumption) | assumption)
              obtain ⟨ad204, A204_1, c204_1, e204, hx204_0, hx204_1, hl204_1, hi204_1⟩ := at_T36 HR0_1.out x14_3 p204 q204
              have hw204_1 := hx204_1; have hw204_0 := hx204_0
              cases e204
              replace hx204_0 := cc_ HB hx204_0
              replace hx204_1 := cc_ HB hx204_1
              have HR204_1 := Aside0.mk hi204_1; have HC204_1 := Aside0.mk hl204_1; clear hi204_1 hl204_1
              replace p204 := eq_true p204
              replace q204 := eq_true q204
              refine start_ (n := 9) (S := fun w' => w'.cell? ⟨gb189, 0, none⟩ = some (.slice A0_0 l0_0.length c0_0) ∧ w'.cell? ⟨gb189, 1, none⟩ = some (.slice (some ad204) l0_1.length c0_1) ∧ w'.cell? ⟨gb190, 0, none⟩ = some (.int .i64 a2_0) ∧ w'.cell? ⟨gb190, 1, none⟩ = some (.int .i64 a2_1) ∧ w'.cell? ⟨gb190, 2, none⟩ = some (.int .i64 a2_2) ∧ w'.cell? ⟨gb190, 3, none⟩ = some (.int .i64 a2_3) ∧ w'.cell? (ad204.add ((x14_3).toNat * 2)) = some (.int .i64 ((rd_T36 l0_1 x14_3).f0)) ∧ w'.cell? ⟨(ad204.add ((x14_3).toNat * 2)).block, (ad204.add ((x14_3).toNat * 2)).off + 1, none⟩ = some (.slice A204_1 ((rd_T36 l0_1 x14_3).f1).length c204_1)) (ds := []) #[false, false, false, false, false, false, false, false, false] (by kernel_rfl) rfl rfl ⟨bc_ BK189 0, bc_ BK189 1, bc_ BK190 0, bc_ BK190 1, bc_ BK190 2, bc_ BK190 3, (cc_ HB hw204_0), (cc_ HB hw204_1)⟩ (fun hHeld => ?_); refine with_tabW spec_NearHear.tab15 spec_NearHear.bits15 (fun HT_ HW_ => ?_)
              generalize wr.drew = w77 at HO_10 HO_199000 HO_199001 BK189 BK190 BK191 BK198 HB HR204_1 hx204_0 hx204_1 hHeld ⊢
              refine pu_ (i := 0) (N := some 69) HT_ ?_; refine pu_ (i := 2) (N := some 71) HT_ ?_; refine pu_ (i := 6) (N := some 75) HT_ ?_; refine tk_ (i := 1) (N := some 70) HT_ HW_ hHeld ?_; refine pu_ (i := 3) (N := some 72) HT_ ?_; refine pu_ (i := 4) (N := some 73) HT_ ?_; refine tk_ (i := 5) (N := some 74) HT_ HW_ hHeld ?_; refine tk_ (i := 7) (N := some 76) HT_ HW_ hHeld ?_; refine pu_ (i := 8) (N := some 77) HT_ ?_
              refine done_ (done_of HT_.out (by kernel_rfl)) ?_
              try go_wp2_with (first | ((with_reducible refine gate_dst (N := 79) rfl ?_); refine Kd.R_lit (Kd.int .u8) _ 5 ?hg (N := 79) ?hd (xs := ([] : List Int)) (inner := []) (ok := fun _ => True) (okp := fun _ => True) ?hr ?hp (fun _ hk => hk) trivial (Below.refl _ _) (Nat.le_refl _) (by simp) ?_; (case hd => rfl); (case hg => rfl); (case hr => first | (go_simp; done) | (go_simp; rfl)); (case hp => exact (Reps.none _ _)); intro v206 w78 ho79 hb hg_ hnew_; clear hg_ hnew_; (first | rw [← Ny205.out] at ho79 | (simp only [Int.reduceToNat] at ho79; rw [← Ny205.out] at ho79)); replace HO_10 := Aside0.mk (Kd.S_elder' (kS_ HO_10.out) (Kd.R_base ho79) hb); replace HO_199000 := Aside0.mk (Kd.Q_below (by (with_reducible repeat (first | apply Kd.Q_alloc | apply Kd.Q_drewN | apply Kd.Q_drew)); exact HO_199000.out) hb); replace HO_199001 := Aside0.mk (Kd.S_elder' (kS_ HO_199001.out) (Kd.R_base ho79) hb); have HO207 := Aside0.mk (Kd.R_lower ho79 (below_size (hbA_ HB.out))); replace BK189 := (bbA_ BK189 hb); replace BK190 := (bbA_ BK190 hb); replace BK191 := (bbA_ BK191 hb); replace BK198 := (bbA_ BK198 hb); replace HB := (bs_ HB hb); clear hb ho79; have Z80 := zz2 BK189; have p208 : 0 ≤ (x14_3 : Int) := of_decide_eq_true (by first | (with_reducible assumption) | assumption); have q208 : x14_3 < (l0_1.length : Int) := of_decide_eq_true (by first | (with_reducible assumption) | assumption); obtain ⟨ad208, A208_1, c208_1, e208, hx208_0, hx208_1, hl208_1, hi208_1⟩ := at_T36 HR0_1.out x14_3 p208 q208; obtain rfl : ad204 = ad208 := (by injection e208); replace hx208_0 := cc_ HB hx208_0; replace hx208_1 := cc_ HB hx208_1; have HR208_1 := Aside0.mk hi208_1; have HC208_1 := Aside0.mk hl208_1; clear hi208_1 hl208_1; replace p208 := eq_true p208; replace q208 := eq_true q208) | ((with_reducible refine gate_builtin (b := .append) (xs := #[.tmp 79, .tmp 85]) rfl ?_); at_builtin; refine Kd.R_append_rows (Kd.int .u8) (w0 := w) w.heap.size rfl (.tmp 79) (.tmp 85) 22 5 (.int .u8 0) 1 rfl Try.underlying22 info5 rfl (by decide) (by omega) v206 y205 ((rd_T36 l0_1 x14_3).f1) _ _ _ (fun _ => True) (fun _ => False) rfl rfl ?aO ?aR (fun _ _ h => h) (fun _ h => h.elim) ?aF ?aB ?aS ?aL ?_; (case aR => exact kC_ (Kd.C_below HR208_1.out HB.out)); (case aB => exact (hbA_ HB.out)); (case aF => exact (fun _ _ => trivial)); (case aO => exact (kR_ HO207.out)); (case aS => exact (below_size (hbA_ HB.out))); (case aL => have := LMc71.out; omega); intro v210 w81 ho hb hg hat; rw [← Ny209.out] at ho; replace HO_10 := Aside0.mk (Kd.S_after (ok := (fun _ => True)) (kS_ HO_10.out) hg hat); replace HO_199000 := Aside0.mk (Kd.Q_over' (by (with_reducible repeat (first | apply Kd.Q_alloc | apply Kd.Q_drewN | apply Kd.Q_drew)); exact HO_199000.out) (Kd.R_typed (kR_ HO207.out)) (by decide) hg); replace HO_199001 := Aside0.mk (Kd.S_after (ok := (fun _ => True)) (kS_ HO_199001.out) hg hat); replace BK189 := (bgA_ BK189 hg (Kd.R_ne HO207.out BK189.out (by decide))); replace BK190 := (bgA_ BK190 hg (Kd.R_ne HO207.out BK190.out (by decide))); replace BK191 := (bgA_ BK191 hg (Kd.R_ne HO207.out BK191.out (by decide))); replace BK198 := (bgA_ BK198 hg (Kd.R_ne HO207.out BK198.out (by decide))); replace HB := Aside0.mk (hb); have HO211 := Aside0.mk (ho); clear HO207; clear ho hb hg hat; obtain ⟨Ao83, co83, eo83⟩ := Kd.R_slice HO211.out; subst eo83) | ((with_reducible refine gate_builtin (b := .append) (xs := #[.tmp 78, .tmp 87]) rfl ?_); at_builtin; refine Kd.S_append (Kd.slice 5 (Kd.int .u8)) (w0 := w) w.heap.size rfl (.tmp 78) (.tmp 87) 74 22 (.slice none 0 0) 24 rfl Try.underlying74 info22 rfl (by decide) (by omega) u10 x10_3 y209 [.slice Ao83 y209.length co83] (fun _ => True) (fun k_ => some k_ = (.slice Ao83 y209.length co83 : Value).ownBlock) rfl rfl ?aP (fun k_ hk_ => ((Kd.R_mono (ok' := fun k_ => ((fun _ => True)) k_ ∧ some k_ ≠ (u10 : Value).ownBlock) (Kd.R_apart' (HO211.out) (Kd.S_typed HO_10.out) (by decide)) (fun k_ hk => ⟨trivial, hk.2⟩))).1 k_ hk_.symm) ?aF ?aO ?aB ?aS ?aL ?_; (case aP => exact Kd.M_row (Kd.R_mono (Kd.R_tight rfl (Kd.R_mono (ok' := fun k_ => ((fun _ => True)) k_ ∧ some k_ ≠ (u10 : Value).ownBlock) (Kd.R_apart' (HO211.out) (Kd.S_typed HO_10.out) (by decide)) (fun k_ hk => ⟨trivial, hk.2⟩))) (fun _ h_ => h_))); (case aB => exact (hbA_ HB.out)); (case aF => exact (fun _ _ => trivial)); (case aO => exact (by refine kS_ ?_; exact Kd.S_mono HO_10.out (fun k_ hk => ⟨trivial, fun e_ => hk.2 e_⟩))); (case aS => exact (below_size (hbA_ HB.out))); (case aL => have := LMc72.out; omega); intro v213 w82 ho hb hg hat; rw [← Ny212.out] at ho; replace HO_199000 := Aside0.mk (Kd.Q_over' (by (with_reducible repeat (first | apply Kd.Q_alloc | apply Kd.Q_drewN | apply Kd.Q_drew)); exact HO_199000.out) (Kd.S_typed (kS_ HO_10.out)) (by decide) hg); replace HO_199001 := Aside0.mk (Kd.S_over' (kS_ HO_199001.out) (Kd.S_typed (kS_ HO_10.out)) (by decide) hg); replace BK189 := (bgA_ BK189 hg (Kd.S_ne HO_10.out BK189.out (by decide))); replace BK190 := (bgA_ BK190 hg (Kd.S_ne HO_10.out BK190.out (by decide))); replace BK191 := (bgA_ BK191 hg (Kd.S_ne HO_10.out BK191.out (by decide))); replace BK198 := (bgA_ BK198 hg (Kd.S_ne HO_10.out BK198.out (by decide))); replace HB := Aside0.mk (hb); have HO214 := Aside0.mk (ho); clear HO_10 HO211; clear ho hb hg hat))
              go_roundg k3
              case measure => have := HJ4.out; have := HK2.out; have := HK3.out; omega
              case rel => exact ⟨(y212), (true), (wrap64 (x14_3 + 1)), (x199001_3), (u199001), (by first | rfl | (simp; done) | (simp [*]; done)), (by first | rfl | (simp; done) | (simp [*]; done)), H', ⟨by have := HJ4.out; have := HK2.out; have := HK3.out; omega⟩, ⟨by refine kS_ ?_; exact HO214.out⟩, ⟨by (with_reducible repeat (first | apply Kd.Q_alloc | apply Kd.Q_drewN | apply Kd.Q_drew)); exact HO_199000.out⟩, ⟨by refine kS_ ?_; exact Kd.S_mono HO_199001.out (fun _ hk => trivial)⟩, ⟨by refine kb_ ?_; exact BK189.out⟩, ⟨by refine kb_ ?_; exact BK190.out⟩, ⟨by refine kb_ ?_; exact BK191.out⟩, ⟨by refine kb_ ?_; exact BK198.out⟩, ⟨hbA_ HB.out⟩⟩
             ·rw [if_neg c72] at H
              exact absurd H (by simp)
            ·rw [if_neg c71] at H
             exact absurd H (by simp)
           ·rw [if_neg c70] at H
            have c70b0 : (((rd_T36 l0_1 x14_3).f0) == a2_2) = false := beq_eq_false_iff_ne.mpr c70
            have c70b1 : (((rd_T36 l0_1 x14_3).f0) != a2_2) = true := bne_iff_ne.mpr c70
            obtain ⟨y216, hy216⟩ : ∃ y_ : List Int, y_ = (([] : List Int)) := ⟨_, rfl⟩
            (first | replace H := sb_ hy216 H | rw [← hy216] at H)
            have Ny216 := Aside0.mk hy216; clear hy216
            by_cases c84 : y216.length + ((rd_T36 l0_1 x14_3).f1).length < 140737488355328
            ·rw [if_pos c84] at H
             have LMc84 := Aside0.mk c84; clear c84
             obtain ⟨y220, hy220⟩ : ∃ y_ : List Int, y_ = (y216 ++ ((rd_T36 l0_1 x14_3).f1)) := ⟨_, rfl⟩
             (first | replace H := sb_ hy220 H | rw [← hy220] at H)
             have Ny220 := Aside0.mk hy220; clear hy220
             by_cases c85 : x199001_3.length < 4398046511104
             ·rw [if_pos c85] at H
              have LMc85 := Aside0.mk c85; clear c85
              obtain ⟨y223, hy223⟩ : ∃ y_ : List (S36), y_ = (x199001_3 ++ [(⟨(rd_T36 l0_1 x14_3).f0, y220⟩ : S36)]) := ⟨_, rfl⟩
              (first | replace H := sb_ hy223 H | rw [← hy223] at H)
              have Ny223 := Aside0.mk hy223; clear hy223
              have H' := Aside0.mk H
              clear H; have hnb86 := NB189_190.out; have hnc86 := NB190_189.out; have hnb87 := NB189_191.out; have hnc87 := NB191_189.out; have hnb88 := NB189_198.out; have hnc88 := NB198_189.out; have Z89 := zz2 BK189
              try go_wp2
              replace HO_10 := Aside0.mk (Kd.S_drew HO_10.out); replace HO_199000 := Aside0.mk (Kd.Q_drew HO_199000.out); replace HO_199001 := Aside0.mk (Kd.S_drew HO_199001.out); replace BK189 := Aside0.mk (blk_drew BK189.out); replace BK190 := Aside0.mk (blk_drew BK190.out); replace BK191 := Aside0.mk (blk_drew BK191.out); replace BK198 := Aside0.mk (blk_drew BK198.out); replace HB := (bd_ HB)
              have p204 : 0 ≤ (x14_3 : Int) := of_decide_eq_true (by first | (with_reducible assumption) | assumption)
              have q204 : x14_3 < (l0_1.length : Int) := of_decide_eq_true (by first | (with_reducible assumption) | assumption)
              obtain ⟨ad204, A204_1, c204_1, e204, hx204_0, hx204_1, hl204_1, hi204_1⟩ := at_T36 HR0_1.out x14_3 p204 q204
              have hw204_1 := hx204_1; have hw204_0 := hx204_0
              cases e204
              replace hx204_0 := cc_ HB hx204_0
              replace hx204_1 := cc_ HB hx204_1
              have HR204_1 := Aside0.mk hi204_1; have HC204_1 := Aside0.mk hl204_1; clear hi204_1 hl204_1
              replace p204 := eq_true p204
              replace q204 := eq_true q204
              refine start_ (n := 9) (S := fun w' => w'.cell? ⟨gb189, 0, none⟩ = some (.slice A0_0 l0_0.length c0_0) ∧ w'.cell? ⟨gb189, 1, none⟩ = some (.slice (some ad204) l0_1.length c0_1) ∧ w'.cell? ⟨gb190, 0, none⟩ = some (.int .i64 a2_0) ∧ w'.cell? ⟨gb190, 1, none⟩ = some (.int .i64 a2_1) ∧ w'.cell? ⟨gb190, 2, none⟩ = some (.int .i64 a2_2) ∧ w'.cell? ⟨gb190, 3, none⟩ = some (.int .i64 a2_3) ∧ w'.cell? (ad204.add ((x14_3).toNat * 2)) = some (.int .i64 ((rd_T36 l0_1 x14_3).f0)) ∧ w'.cell? ⟨(ad204.add ((x14_3).toNat * 2)).block, (ad204.add ((x14_3).toNat * 2)).off + 1, none⟩ = some (.slice A204_1 ((rd_T36 l0_1 x14_3).f1).length c204_1)) (ds := []) #[false, false, false, false, false, false, false, false, false] (by kernel_rfl) rfl rfl ⟨bc_ BK189 0, bc_ BK189 1, bc_ BK190 0, bc_ BK190 1, bc_ BK190 2, bc_ BK190 3, (cc_ HB hw204_0), (cc_ HB hw204_1)⟩ (fun hHeld => ?_); refine with_tabW spec_NearHear.tab15 spec_NearHear.bits15 (fun HT_ HW_ => ?_)
              generalize wr.drew = w90 at HO_10 HO_199000 HO_199001 BK189 BK190 BK191 BK198 HB HR204_1 hx204_0 hx204_1 hHeld ⊢
              refine pu_ (i := 0) (N := some 69) HT_ ?_; refine pu_ (i := 2) (N := some 71) HT_ ?_; refine pu_ (i := 6) (N := some 75) HT_ ?_; refine tk_ (i := 1) (N := some 70) HT_ HW_ hHeld ?_; refine pu_ (i := 3) (N := some 72) HT_ ?_; refine pu_ (i := 4) (N := some 73) HT_ ?_; refine tk_ (i := 5) (N := some 74) HT_ HW_ hHeld ?_; refine tk_ (i := 7) (N := some 76) HT_ HW_ hHeld ?_; refine pu_ (i := 8) (N := some 77) HT_ ?_
              refine done_ (done_of HT_.out (by kernel_rfl)) ?_
              try go_wp2
              replace HO_10 := Aside0.mk (Kd.S_drew HO_10.out); replace HO_199000 := Aside0.mk (Kd.Q_drew HO_199000.out); replace HO_199001 := Aside0.mk (Kd.S_drew HO_199001.out); replace BK189 := Aside0.mk (blk_drew BK189.out); replace BK190 := Aside0.mk (blk_drew BK190.out); replace BK191 := Aside0.mk (blk_drew BK191.out); replace BK198 := Aside0.mk (blk_drew BK198.out); replace HB := (bd_ HB)
              have p215 : 0 ≤ (x14_3 : Int) := of_decide_eq_true (by first | (with_reducible assumption) | assumption)
              have q215 : x14_3 < (l0_1.length : Int) := of_decide_eq_true (by first | (with_reducible assumption) | assumption)
              obtain ⟨ad215, A215_1, c215_1, e215, hx215_0, hx215_1, hl215_1, hi215_1⟩ := at_T36 HR0_1.out x14_3 p215 q215
              have hw215_1 := hx215_1; have hw215_0 := hx215_0
              obtain rfl : ad204 = ad215 := (by injection e215)
              replace hx215_0 := cc_ HB hx215_0
              replace hx215_1 := cc_ HB hx215_1
              have HR215_1 := Aside0.mk hi215_1; have HC215_1 := Aside0.mk hl215_1; clear hi215_1 hl215_1
              replace p215 := eq_true p215
              replace q215 := eq_true q215
              have p219 : 0 ≤ (x14_3 : Int) := of_decide_eq_true (by first | (with_reducible assumption) | assumption)
              have q219 : x14_3 < (l0_1.length : Int) := of_decide_eq_true (by first | (with_reducible assumption) | assumption)
              obtain ⟨ad219, A219_1, c219_1, e219, hx219_0, hx219_1, hl219_1, hi219_1⟩ := at_T36 HR0_1.out x14_3 p219 q219
              have hw219_1 := hx219_1; have hw219_0 := hx219_0
              obtain rfl : ad204 = ad219 := (by injection e219)
              replace hx219_0 := cc_ HB hx219_0
              replace hx219_1 := cc_ HB hx219_1
              have HR219_1 := Aside0.mk hi219_1; have HC219_1 := Aside0.mk hl219_1; clear hi219_1 hl219_1
              replace p219 := eq_true p219
              replace q219 := eq_true q219
              have ea_ := Option.some.inj (hx215_1.symm.trans hx219_1)
              injection ea_ with ea_ en_ ec_
              subst ea_; subst ec_; clear en_
              refine start_ (n := 21) (S := fun w' => w'.cell? ⟨gb198, 0, none⟩ = some (u199000) ∧ w'.cell? ⟨gb198, 1, none⟩ = some (u199001) ∧ w'.cell? ⟨gb189, 0, none⟩ = some (.slice A0_0 l0_0.length c0_0) ∧ w'.cell? ⟨gb189, 1, none⟩ = some (.slice (some ad204) l0_1.length c0_1) ∧ w'.cell? (ad204.add ((x14_3).toNat * 2)) = some (.int .i64 ((rd_T36 l0_1 x14_3).f0)) ∧ w'.cell? ⟨(ad204.add ((x14_3).toNat * 2)).block, (ad204.add ((x14_3).toNat * 2)).off + 1, none⟩ = some (.slice A215_1 ((rd_T36 l0_1 x14_3).f1).length c215_1) ∧ w'.cell? (ad204.add ((x14_3).toNat * 2)) = some (.int .i64 ((rd_T36 l0_1 x14_3).f0)) ∧ w'.cell? ⟨(ad204.add ((x14_3).toNat * 2)).block, (ad204.add ((x14_3).toNat * 2)).off + 1, none⟩ = some (.slice A215_1 ((rd_T36 l0_1 x14_3).f1).length c215_1)) (ds := [20]) #[false, false, false, false, false, false, false, false, false, false, false, false, false, false, false, false, false, false, false, false, false] (by kernel_rfl) rfl rfl ⟨bc_ BK198 0, bc_ BK198 1, bc_ BK189 0, bc_ BK189 1, (cc_ HB hw215_0), (cc_ HB hw215_1), (cc_ HB hw219_0), (cc_ HB hw219_1)⟩ (fun hHeld => ?_); refine with_tabW spec_NearHear.tab18 spec_NearHear.bits18 (fun HT_ HW_ => ?_)
              generalize w90.drew = w91 at HO_10 HO_199000 HO_199001 BK189 BK190 BK191 BK198 HB HR215_1 HR219_1 hx215_0 hx215_1 hx219_0 hx219_1 hHeld ⊢
              refine pu_ (i := 0) (N := some 89) HT_ ?_; refine pu_ (i := 2) (N := some 91) HT_ ?_; refine pu_ (i := 4) (N := some 93) HT_ ?_; refine pu_ (i := 9) (N := some 98) HT_ ?_; refine pu_ (i := 11) (N := some 100) HT_ ?_; refine tk_ (i := 1) (N := some 90) HT_ HW_ hHeld ?_; refine tk_ (i := 3) (N := some 92) HT_ HW_ hHeld ?_; refine pu_ (i := 5) (N := some 94) HT_ ?_; refine pu_ (i := 6) (N := some 95) HT_ ?_; refine tk_ (i := 7) (N := some 96) HT_ HW_ hHeld ?_; refine tk_ (i := 10) (N := some 99) HT_ HW_ hHeld ?_; refine pu_ (i := 12) (N := some 101) HT_ ?_; refine pu_ (i := 13) (N := some 102) HT_ ?_; refine tk_ (i := 14) (N := some 103) HT_ HW_ hHeld ?_
              refine on_ (i := 8) (N := some 97) HT_ (fun K hK => ?_)
              refine Kd.R_lit_step (Kd.int .u8) _ 5 ?hg (N := 97) ?hd (xs := ([] : List Int)) (inner := []) (ok := fun _ => True) (okp := fun _ => True) ?hr ?hp (fun _ hk => hk) trivial (Below.refl _ _) (Nat.le_refl _) (by simp) ?_; (case hd => rfl); (case hg => rfl); (case hr => first | (go_simp; done) | (go_simp; rfl)); (case hp => exact (Reps.none _ _))
              intro v217 w92 ho93 hb hg_ hnew_
              clear hg_ hnew_
              (first | rw [← Ny216.out] at ho93 | (simp only [Int.reduceToNat] at ho93; rw [← Ny216.out] at ho93))
              have n0_ := Aside0.mk (Kd.S_elder' (kS_ HO_10.out) (Kd.R_base ho93) hb); have n1_ := Aside0.mk (Kd.Q_below (by (with_reducible repeat (first | apply Kd.Q_alloc | apply Kd.Q_drewN | apply Kd.Q_drew)); exact HO_199000.out) hb); have n2_ := Aside0.mk (Kd.S_elder' (kS_ HO_199001.out) (Kd.R_base ho93) hb); have n3_ := Aside0.mk (Kd.R_lower ho93 (below_size (hbA_ HB.out))); have n4_ := (bbA_ BK189 hb); have n5_ := (bbA_ BK190 hb); have n6_ := (bbA_ BK191 hb); have n7_ := (bbA_ BK198 hb); have n8_ := (bs_ HB hb); clear HO_10 HO_199000 HO_199001 BK189 BK190 BK191 BK198 HB; have HO_10 := n0_; have HO_199000 := n1_; have HO_199001 := n2_; have HO218 := n3_; have BK189 := n4_; have BK190 := n5_; have BK191 := n6_; have BK198 := n7_; have HB := n8_; clear n0_ n1_ n2_ n3_ n4_ n5_ n6_ n7_ n8_ hb ho93
              refine hK.out _ _ ⟨bc_ BK198 0, bc_ BK198 1, bc_ BK189 0, bc_ BK189 1, (by first | exact cc_ HB hw215_0 | exact cc_ ⟨hbA_ HB.out⟩ hw215_0), (by first | exact cc_ HB hw215_1 | exact cc_ ⟨hbA_ HB.out⟩ hw215_1), (by first | exact cc_ HB hw219_0 | exact cc_ ⟨hbA_ HB.out⟩ hw219_0), (by first | exact cc_ HB hw219_1 | exact cc_ ⟨hbA_ HB.out⟩ hw219_1)⟩ (fun hHeld => ?_)
              clear hK K; refine nm_ 97 ?_
              refine on_ (i := 15) (N := some 104) HT_ (fun K hK => ?_)
              refine Kd.R_append_rows_step (Kd.int .u8) (w0 := w) w.heap.size (by rfl) (.tmp 97) (.tmp 103) 22 5 (.int .u8 0) 1 rfl Try.underlying22 info5 rfl (by decide) (by omega) v217 y216 ((rd_T36 l0_1 x14_3).f1) _ _ _ (fun _ => True) (fun _ => False) rfl rfl ?aO ?aR (fun _ _ h => h) (fun _ h => h.elim) ?aF ?aB ?aS ?aL ?_
              (case aR => exact kC_ (Kd.C_below HR219_1.out HB.out))
              (case aB => exact (hbA_ HB.out))
              (case aF => exact (fun _ _ => trivial))
              (case aO => exact (kR_ HO218.out))
              (case aS => exact (below_size (hbA_ HB.out)))
              (case aL => have := LMc84.out; omega)
              intro v221 w94 ho hb hg hat
              rw [← Ny220.out] at ho
              have n0_ := Aside0.mk (Kd.S_after (ok := (fun _ => True)) (kS_ HO_10.out) hg hat); have n1_ := Aside0.mk (Kd.Q_over' (by (with_reducible repeat (first | apply Kd.Q_alloc | apply Kd.Q_drewN | apply Kd.Q_drew)); exact HO_199000.out) (Kd.R_typed (kR_ HO218.out)) (by decide) hg); have n2_ := Aside0.mk (Kd.S_after (ok := (fun _ => True)) (kS_ HO_199001.out) hg hat); have n3_ := (bgA_ BK189 hg (Kd.R_ne HO218.out BK189.out (by decide))); have n4_ := (bgA_ BK190 hg (Kd.R_ne HO218.out BK190.out (by decide))); have n5_ := (bgA_ BK191 hg (Kd.R_ne HO218.out BK191.out (by decide))); have n6_ := (bgA_ BK198 hg (Kd.R_ne HO218.out BK198.out (by decide))); have n7_ := Aside0.mk (hb); have n8_ := Aside0.mk (ho); clear HO_10 HO_199000 HO_199001 BK189 BK190 BK191 BK198 HB HO218; have HO_10 := n0_; have HO_199000 := n1_; have HO_199001 := n2_; have BK189 := n3_; have BK190 := n4_; have BK191 := n5_; have BK198 := n6_; have HB := n7_; have HO222 := n8_; clear n0_ n1_ n2_ n3_ n4_ n5_ n6_ n7_ n8_ ho hb hg hat
              obtain ⟨Ao95, co95, eo95⟩ := Kd.R_slice HO222.out
              (first | subst eo95 | (injection eo95 with f1_ f2_ f3_; have f4_ := f1_.symm; have f5_ := f3_.symm; clear f1_ f2_ f3_; subst f4_; subst f5_))
              refine hK.out _ _ ⟨bc_ BK198 0, bc_ BK198 1, bc_ BK189 0, bc_ BK189 1, (by first | exact cc_ HB hw215_0 | exact cc_ ⟨hbA_ HB.out⟩ hw215_0), (by first | exact cc_ HB hw215_1 | exact cc_ ⟨hbA_ HB.out⟩ hw215_1), (by first | exact cc_ HB hw219_0 | exact cc_ ⟨hbA_ HB.out⟩ hw219_0), (by first | exact cc_ HB hw219_1 | exact cc_ ⟨hbA_ HB.out⟩ hw219_1)⟩ (fun hHeld => ?_)
              clear hK K; refine nm_ 104 ?_; refine pu_ (i := 16) (N := some 105) HT_ ?_
              refine on_ (i := 17) (N := some 106) HT_ (fun K hK => ?_)
              refine value_ (w1 := ?_) (v := ?_) (by rfl) rfl ?_ ?_
              rotate_left 2
              ·go_simp
               constructor
               ·rfl
               ·rfl
              refine hK.out _ _ ⟨(blk_cell (blk_alloc BK198.out _) 0).trans rfl, (blk_cell (blk_alloc BK198.out _) 1).trans rfl, (blk_cell (blk_alloc BK189.out _) 0).trans rfl, (blk_cell (blk_alloc BK189.out _) 1).trans rfl, (World.cell?_alloc_lt _ _ _ (World.block_lt_of_cell? _ _ ((by first | exact cc_ HB hw215_0 | exact cc_ ⟨hbA_ HB.out⟩ hw215_0)))).trans ((by first | exact cc_ HB hw215_0 | exact cc_ ⟨hbA_ HB.out⟩ hw215_0)), (World.cell?_alloc_lt _ _ _ (World.block_lt_of_cell? _ _ ((by first | exact cc_ HB hw215_1 | exact cc_ ⟨hbA_ HB.out⟩ hw215_1)))).trans ((by first | exact cc_ HB hw215_1 | exact cc_ ⟨hbA_ HB.out⟩ hw215_1)), (World.cell?_alloc_lt _ _ _ (World.block_lt_of_cell? _ _ ((by first | exact cc_ HB hw219_0 | exact cc_ ⟨hbA_ HB.out⟩ hw219_0)))).trans ((by first | exact cc_ HB hw219_0 | exact cc_ ⟨hbA_ HB.out⟩ hw219_0)), (World.cell?_alloc_lt _ _ _ (World.block_lt_of_cell? _ _ ((by first | exact cc_ HB hw219_1 | exact cc_ ⟨hbA_ HB.out⟩ hw219_1)))).trans ((by first | exact cc_ HB hw219_1 | exact cc_ ⟨hbA_ HB.out⟩ hw219_1))⟩ (fun hHeld => ?_)
              clear hK K; refine nm_ 106 ?_
              refine on_ (i := 18) (N := some 107) HT_ (fun K hK => ?_)
              refine Kd.S_append_step k36 (w0 := w) w.heap.size (by rfl) (.tmp 90) (.tmp 106) 24 36 (.agg #[(.int .i64 0), (.slice none 0 0)]) 32 rfl Try.underlying24 info36 rfl (by decide) (by omega) u199001 x199001_3 (⟨(rd_T36 l0_1 x14_3).f0, y220⟩ : S36) [.int .i64 ((rd_T36 l0_1 x14_3).f0), .slice Ao95 y220.length co95] (fun _ => True) (fun k_ => some k_ = (.slice Ao95 y220.length co95 : Value).ownBlock) rfl rfl ?aP (fun k_ hk_ => ((Kd.R_mono (ok' := fun k_ => ((fun _ => True)) k_ ∧ some k_ ≠ (u199001 : Value).ownBlock) (Kd.R_apart' (HO222.out) (Kd.S_typed HO_199001.out) (by decide)) (fun k_ hk => ⟨trivial, hk.2⟩))).1 k_ hk_.symm) ?aF ?aO ?aB ?aS ?aL ?_
              (case aP => exact k36_mkM _ _ _ (⟨(rd_T36 l0_1 x14_3).f0, y220⟩ : S36) (Kd.R_mono (Kd.R_tight rfl (Kd.R_mono (ok' := fun k_ => ((fun _ => True)) k_ ∧ some k_ ≠ (u199001 : Value).ownBlock) (Kd.R_apart' (HO222.out) (Kd.S_typed HO_199001.out) (by decide)) (fun k_ hk => ⟨trivial, hk.2⟩))) (fun _ h_ => h_)))
              (case aB => exact (hbA_ HB.out))
              (case aF => exact (fun _ _ => trivial))
              (case aO => exact (by refine kS_ ?_; exact Kd.S_mono HO_199001.out (fun k_ hk => ⟨trivial, fun e_ => hk.2 e_⟩)))
              (case aS => exact (below_size (hbA_ HB.out)))
              (case aL => have := LMc85.out; omega)
              intro v224 w96 ho hb hg hat
              rw [← Ny223.out] at ho
              have n0_ := Aside0.mk (Kd.S_over' (kS_ HO_10.out) (Kd.S_typed (kS_ HO_199001.out)) (by decide) hg); have n1_ := Aside0.mk (Kd.Q_over' (by (with_reducible repeat (first | apply Kd.Q_alloc | apply Kd.Q_drewN | apply Kd.Q_drew)); exact HO_199000.out) (Kd.S_typed (kS_ HO_199001.out)) (by decide) hg); have n2_ := (bgA_ BK189 hg (Kd.S_ne HO_199001.out BK189.out (by decide))); have n3_ := (bgA_ BK190 hg (Kd.S_ne HO_199001.out BK190.out (by decide))); have n4_ := (bgA_ BK191 hg (Kd.S_ne HO_199001.out BK191.out (by decide))); have n5_ := (bgA_ BK198 hg (Kd.S_ne HO_199001.out BK198.out (by decide))); have n6_ := Aside0.mk (hb); have n7_ := Aside0.mk (ho); clear HO_10 HO_199000 BK189 BK190 BK191 BK198 HB HO_199001 HO222; have HO_10 := n0_; have HO_199000 := n1_; have BK189 := n2_; have BK190 := n3_; have BK191 := n4_; have BK198 := n5_; have HB := n6_; have HO225 := n7_; clear n0_ n1_ n2_ n3_ n4_ n5_ n6_ n7_ ho hb hg hat
              obtain ⟨Ao97, co97, eo97⟩ := Kd.S_slice HO225.out
              (first | subst eo97 | (injection eo97 with f1_ f2_ f3_; have f4_ := f1_.symm; have f5_ := f3_.symm; clear f1_ f2_ f3_; subst f4_; subst f5_))
              refine hK.out _ _ ⟨bc_ BK198 0, bc_ BK198 1, bc_ BK189 0, bc_ BK189 1, (by first | exact cc_ HB hw215_0 | exact cc_ ⟨hbA_ HB.out⟩ hw215_0), (by first | exact cc_ HB hw215_1 | exact cc_ ⟨hbA_ HB.out⟩ hw215_1), (by first | exact cc_ HB hw219_0 | exact cc_ ⟨hbA_ HB.out⟩ hw219_0), (by first | exact cc_ HB hw219_1 | exact cc_ ⟨hbA_ HB.out⟩ hw219_1)⟩ (fun hHeld => ?_)
              clear hK K; refine nm_ 107 ?_; refine pu_ (i := 19) (N := some 108) HT_ ?_
              refine last_ (i := 20) (N := none) #[true, true, true, true, true, true, true, true, true, true, true, true, true, true, true, true, true, true, true, true, true] rfl rfl (one_of HT_.out (by kernel_rfl)) (by decide) (fun K hK => ?_)
              have hs98 : w96.cell? ⟨gb198, 1, none⟩ = some (u199001) := bc_ BK198 1
              have hfs98 := blk_frozen BK198.out 1
              have hns98_0 := NB189_198.out; have hns98_1 := NB190_198.out; have hns98_2 := NB191_198.out; have hms98_0 := NB198_189.out; have hms98_1 := NB198_190.out; have hms98_2 := NB198_191.out
              refine skip_ (w1 := ?_) (by rfl) rfl ?_ ?_
              rotate_left
              ·go_simp
               rfl
              refine hK.out _ _ ?_
              clear hK K
              refine done_ (done_of HT_.out (by kernel_rfl)) ?_
              try go_wp2
              go_roundg k3
              case measure => have := HJ4.out; have := HK2.out; have := HK3.out; omega
              case rel => exact ⟨(x10_3), (x12_3), (wrap64 (x14_3 + 1)), (y223), (.slice Ao97 y223.length co97), (by first | rfl | (simp; done) | (simp [*]; done)), (by first | rfl | (simp; done) | (simp [*]; done)), H', ⟨by have := HJ4.out; have := HK2.out; have := HK3.out; omega⟩, ⟨by refine kS_ ?_; exact Kd.S_mono (Kd.S_far (p := ⟨gb198, 1, none⟩) (Kd.S_types HO_10.out BK198.out (by decide)) (fun _ hk => hk.2) (.slice Ao97 y223.length co97)) (fun _ hk => trivial)⟩, ⟨by (with_reducible repeat (first | apply Kd.Q_alloc | apply Kd.Q_drewN | apply Kd.Q_drew)); exact Kd.Q_mono (Kd.Q_far (p := ⟨gb198, 1, none⟩) (Kd.Q_types HO_199000.out BK198.out (by decide)) (fun _ hk => hk.2) (.slice Ao97 y223.length co97)) (fun _ hk => trivial)⟩, ⟨by refine kS_ ?_; exact Kd.S_mono (Kd.S_far (p := ⟨gb198, 1, none⟩) (Kd.S_types HO225.out BK198.out (by decide)) (fun _ hk => hk.2) (.slice Ao97 y223.length co97)) (fun _ hk => trivial)⟩, ⟨by exact kf_ BK189.out⟩, ⟨by exact kf_ BK190.out⟩, ⟨by exact kf_ BK191.out⟩, ⟨by refine kb_ ?_; refine blk_put (cs := #[u199000, u199001]) ?_ 1 _ rfl; refine kb_ ?_; exact BK198.out⟩, ⟨hbA_ HB.out⟩⟩
             ·rw [if_neg c85] at H
              exact absurd H (by simp)
            ·rw [if_neg c84] at H
             exact absurd H (by simp)
          ·rw [if_neg c69] at H
           exact absurd H (by simp)
         ·rw [if_neg c68] at H
          have c68b0 : decide (x14_3 < (l0_1.length : Int)) = false := decide_eq_false c68
          clear c68
          by_cases c99 : x12_3 = true
          ·subst c99
           rw [if_pos rfl] at H
           by_cases c100 : x199000_2.length < 5864062014805
           ·rw [if_pos c100] at H
            have LMc100 := Aside0.mk c100; clear c100
            obtain ⟨y235, hy235⟩ : ∃ y_ : List (S60), y_ = (x199000_2 ++ [(⟨a2_2, a2_1, wrap64 (a3 + 20)⟩ : S60)]) := ⟨_, rfl⟩
            (first | replace H := sb_ hy235 H | rw [← hy235] at H)
            have Ny235 := Aside0.mk hy235; clear hy235
            by_cases c101 : (y235.length : Int) > 4
            ·rw [if_pos c101] at H
             have c101b0 : decide (4 < (y235.length : Int)) = true := decide_eq_true c101
             have c101b1 : decide (4 < y235.length) = true := decide_eq_true (by omega)
             clear c101
             by_cases c102 : 1 ≤ (y235.length : Int)
             ·rw [if_pos c102] at H
              have c102b0 := eq_true c102
              have c102b1 : decide (1 ≤ (y235.length : Int)) = true := decide_eq_true c102
              clear c102
              obtain ⟨y238, hy238⟩ : ∃ y_ : List (S60), y_ = (y235.drop (1 : Int).toNat) := ⟨_, rfl⟩
              (first | replace H := sb_ hy238 H | rw [← hy238] at H)
              have Ny238 := Aside0.mk hy238; clear hy238
              simp only [Option.some.injEq, Prod.mk.injEq] at H
              obtain ⟨rfl, rfl, rfl⟩ := H
              have hnb103 := NB189_190.out; have hnc103 := NB190_189.out; have hnb104 := NB189_191.out; have hnc104 := NB191_189.out; have hnb105 := NB189_198.out; have hnc105 := NB198_189.out; have Z106 := zz2 BK189; have hnb107 := NB198_190.out; have hnc107 := NB190_198.out; have hnb108 := NB198_191.out; have hnc108 := NB191_198.out; have Z109 := zz2 BK198; have hnb110 := NB190_191.out; have hnc110 := NB191_190.out; have Z111 := zz4 BK190
              go_wp2_with (first | ((with_reducible refine gate_builtin (b := .append) (xs := #[.tmp 115, .tmp 123]) rfl ?_); at_builtin; refine Kd.Q_append k60 (w0 := w) w.heap.size rfl (.tmp 115) (.tmp 123) 23 60 (.agg #[(.int .i64 0), (.int .i64 0), (.int .i64 0)]) 24 rfl Try.underlying23 info60 rfl (by decide) (by omega) u199000 x199000_2 (⟨a2_2, a2_1, wrap64 (a3 + 20)⟩ : S60) [.int .i64 a2_2, .int .i64 a2_1, .int .i64 (wrap64 (a3 + 20))] (fun _ => True) (fun _ => False) rfl rfl ?aP (fun _ hk => hk.elim) ?aF ?aO ?aB ?aS ?aL ?_; (case aP => exact k60_mkM _ _ _ (⟨a2_2, a2_1, wrap64 (a3 + 20)⟩ : S60)); (case aB => exact (hbA_ HB.out)); (case aF => exact (fun _ _ => trivial)); (case aO => exact (by (with_reducible repeat (first | apply Kd.Q_alloc | apply Kd.Q_drewN | apply Kd.Q_drew)); exact HO_199000.out)); (case aS => exact (below_size (hbA_ HB.out))); (case aL => have := LMc100.out; omega); intro v236 w112 ho hb hg hat; rw [← Ny235.out] at ho; replace HO_10 := Aside0.mk (Kd.S_over' (kS_ HO_10.out) (Kd.Q_typed (by (with_reducible repeat (first | apply Kd.Q_alloc | apply Kd.Q_drewN | apply Kd.Q_drew)); exact HO_199000.out)) (by decide) hg); replace HO_199001 := Aside0.mk (Kd.S_over' (kS_ HO_199001.out) (Kd.Q_typed (by (with_reducible repeat (first | apply Kd.Q_alloc | apply Kd.Q_drewN | apply Kd.Q_drew)); exact HO_199000.out)) (by decide) hg); replace BK189 := (bgA_ BK189 hg (Kd.Q_ne HO_199000.out BK189.out (by decide))); replace BK190 := (bgA_ BK190 hg (Kd.Q_ne HO_199000.out BK190.out (by decide))); replace BK191 := (bgA_ BK191 hg (Kd.Q_ne HO_199000.out BK191.out (by decide))); replace BK198 := (bgA_ BK198 hg (Kd.Q_ne HO_199000.out BK198.out (by decide))); replace HB := Aside0.mk (hb); have HO237 := Aside0.mk (ho); clear HO_199000; clear ho hb hg hat; obtain ⟨Ao113, co113, eo113, _⟩ := Kd.Q_slice HO237.out; subst eo113; have Z114 := zz2 BK198) | ((with_reducible refine gate_store (t := 23) (p := 125) rfl ?_); refine store_event (t := 23) (p := 125) (v := ?vo_w115) (w1 := (w112.setCell ⟨gb198, 0, none⟩ (.slice Ao113 y235.length co113))) ?hg ?ho ?hn ?hr ?_; (case ho => rfl); (case hg => rfl); (case hn => rfl); (case hr => first | (go_simp; done) | (go_simp; rfl)); intro w115 hw; have n0_ : Aside0 (Kd.S (Kd.slice 5 (Kd.int .u8)) 22 w115 w.heap.size (fun _ => True) u10 x10_3) := ⟨(by rw [hw]; exact (by refine kS_ ?_; exact Kd.S_mono (Kd.S_far (p := ⟨gb198, 0, none⟩) (Kd.S_types HO_10.out BK198.out (by decide)) (fun _ hk => hk.2) (.slice Ao113 y235.length co113)) (fun _ hk => trivial)))⟩; have n1_ : Aside0 (Kd.S k36 36 w115 w.heap.size (fun _ => True) u199001 x199001_3) := ⟨(by rw [hw]; exact (by refine kS_ ?_; exact Kd.S_mono (Kd.S_far (p := ⟨gb198, 0, none⟩) (Kd.S_types HO_199001.out BK198.out (by decide)) (fun _ hk => hk.2) (.slice Ao113 y235.length co113)) (fun _ hk => trivial)))⟩; have n2_ : Aside0 (Kd.Q k60 60 w115 w.heap.size (fun _ => True) (.slice Ao113 y235.length co113) y235) := ⟨(by rw [hw]; exact (by (with_reducible repeat (first | apply Kd.Q_alloc | apply Kd.Q_drewN | apply Kd.Q_drew)); exact Kd.Q_mono (Kd.Q_far (p := ⟨gb198, 0, none⟩) (Kd.Q_types HO237.out BK198.out (by decide)) (fun _ hk => hk.2) (.slice Ao113 y235.length co113)) (fun _ hk => trivial)))⟩; have n3_ : Aside0 (w115.heap[gb189]? = some (.cells #[.slice A0_0 l0_0.length c0_0, .slice A0_1 l0_1.length c0_1] 26 (0, 0))) := ⟨(by rw [hw]; exact (by exact kf_ BK189.out))⟩; have n4_ : Aside0 (w115.heap[gb190]? = some (.cells #[.int .i64 a2_0, .int .i64 a2_1, .int .i64 a2_2, .int .i64 a2_3] 78 (0, 0))) := ⟨(by rw [hw]; exact (by exact kf_ BK190.out))⟩; have n5_ : Aside0 (w115.heap[gb191]? = some (.cells #[.slice none 0 0, .slice none 0 0] 26 (0, 0))) := ⟨(by rw [hw]; exact (by exact kf_ BK191.out))⟩; have n6_ : Aside0 (w115.heap[gb198]? = some (.cells #[.slice Ao113 y235.length co113, u199001] 26 (0, 0))) := ⟨(by rw [hw]; exact (by refine kb_ ?_; refine blk_put (cs := #[u199000, u199001]) ?_ 0 _ rfl; refine kb_ ?_; exact BK198.out))⟩; have n7_ : Aside0 (Below w.heap.size w w115) := ⟨(by rw [hw]; exact (hbA_ HB.out))⟩; clear hw; clear HO_10; clear HO_199001; clear HO237; clear BK189; clear BK190; clear BK191; clear BK198; clear HB; have HO_10 := n0_; have HO_199001 := n1_; have HO237 := n2_; have BK189 := n3_; have BK190 := n4_; have BK191 := n5_; have BK198 := n6_; have HB := n7_; clear n0_ n1_ n2_ n3_ n4_ n5_ n6_ n7_; have Z116 := zz2 BK198; have q117 : (1 : Int) ≤ ((y235.length : Int) : Int) := of_decide_eq_true (by first | (with_reducible assumption) | assumption); obtain ⟨i0117, hi0117, _, hsz117, _⟩ := info_parts info60; have hcut117 := cut_from (P := Try.prog) 23 60 .i64 Try.underlying23 hi0117 3 hsz117 Ao113 y235.length co113 1 (by omega) q117; have hr117 := Kd.Q_drop (k := (1 : Int).toNat) HO237.out (by omega); obtain ⟨A117, hA117⟩ : ∃ A1, A1 = (if co113 = (1 : Int).toNat then Ao113 else (Ao113 : Option Addr).map (·.add ((1 : Int).toNat * 3))) := ⟨_, rfl⟩; obtain ⟨c117, hc117⟩ : ∃ c1, c1 = co113 - (1 : Int).toNat := ⟨_, rfl⟩; have hy117 : y238.length = y235.length - (1 : Int).toNat := (by rw [Ny238.out, List.length_drop]); rw [← Ny238.out] at hr117; rw [← hy117, ← hA117, ← hc117] at hcut117; replace hr117 : Kd.Q k60 60 w115 w.heap.size (fun _ => True) (.slice A117 y238.length c117) y238 := (by rw [hA117, hc117, hy117]; exact hr117); have HE117 : Aside0 ((Value.slice A117 y238.length c117).ownBlock = (.slice Ao113 y235.length co113 : Value).ownBlock) := ⟨by rw [hA117]; split <;> (cases (Ao113 : Option Addr) <;> first | rfl | simp [Value.ownBlock, add_block])⟩; clear hy117 hi0117 hsz117 HO237 hA117 hc117; have HO240 := Aside0.mk hr117; clear hr117; replace q117 := eq_true q117; have Z118 := zz2 BK191; obtain ⟨Ao119, co119, eo119⟩ := Kd.S_slice HO_199001.out; subst eo119))
              refine bodyPost_ret (results_ct rfl _ _ gb191 26 #[.slice A117 y238.length c117, .slice Ao119 x199001_3.length co119] (0, 0) _ rfl (by refine kb_ ?_; refine pz2 (cs := #[.slice none 0 0, .slice none 0 0]) ?_; exact kf_ BK191.out) Try.underlying26 rfl (by kernel_rfl)) rfl ?_
              exact ⟨_, _, _, by first | rfl | (simp [errW_none, errW_some] <;> rfl) | (simp [*, errW_none, errW_some] <;> rfl), by (with_reducible repeat (first | apply Kd.Q_alloc | apply Kd.Q_drewN | apply Kd.Q_drew)); exact Kd.Q_mono (Kd.Q_far (p := ⟨gb191, 1, none⟩) (Kd.Q_far (p := ⟨gb191, 0, none⟩) (Kd.Q_far (p := ⟨gb198, 0, none⟩) (Kd.Q_types (Kd.Q_types HO240.out BK198.out (by decide)) BK191.out (by decide)) (fun _ hk => hk.1.2) (.slice A117 y238.length c117)) (fun _ hk => hk.2) (.slice A117 y238.length c117)) (fun _ hk => hk.2) (.slice Ao119 x199001_3.length co119)) (fun _ hk => trivial), by refine kS_ ?_; exact Kd.S_mono (Kd.S_far (p := ⟨gb191, 1, none⟩) (Kd.S_far (p := ⟨gb191, 0, none⟩) (Kd.S_far (p := ⟨gb198, 0, none⟩) (Kd.S_types (Kd.S_types HO_199001.out BK198.out (by decide)) BK191.out (by decide)) (fun _ hk => hk.1.2) (.slice A117 y238.length c117)) (fun _ hk => hk.2) (.slice A117 y238.length c117)) (fun _ hk => hk.2) (.slice Ao119 x199001_3.length co119)) (fun _ hk => trivial), by refine kS_ ?_; exact Kd.S_mono (Kd.S_far (p := ⟨gb191, 1, none⟩) (Kd.S_far (p := ⟨gb191, 0, none⟩) (Kd.S_far (p := ⟨gb198, 0, none⟩) (Kd.S_types (Kd.S_types HO_10.out BK198.out (by decide)) BK191.out (by decide)) (fun _ hk => hk.1.2) (.slice A117 y238.length c117)) (fun _ hk => hk.2) (.slice A117 y238.length c117)) (fun _ hk => hk.2) (.slice Ao119 x199001_3.length co119)) (fun _ hk => trivial), hbA_ HB.out⟩
             ·rw [if_neg c102] at H
              exact absurd H (by simp)
            ·rw [if_neg c101] at H
             have c101b0 : decide (4 < (y235.length : Int)) = false := decide_eq_false c101
             have c101b1 : decide (4 < y235.length) = false := decide_eq_false (by omega)
             clear c101
             simp only [Option.some.injEq, Prod.mk.injEq] at H
             obtain ⟨rfl, rfl, rfl⟩ := H
             have hnb120 := NB189_190.out; have hnc120 := NB190_189.out; have hnb121 := NB189_191.out; have hnc121 := NB191_189.out; have hnb122 := NB189_198.out; have hnc122 := NB198_189.out; have Z123 := zz2 BK189; have hnb124 := NB198_190.out; have hnc124 := NB190_198.out; have hnb125 := NB198_191.out; have hnc125 := NB191_198.out; have Z126 := zz2 BK198; have hnb127 := NB190_191.out; have hnc127 := NB191_190.out; have Z128 := zz4 BK190
             go_wp2_with (first | ((with_reducible refine gate_builtin (b := .append) (xs := #[.tmp 115, .tmp 123]) rfl ?_); at_builtin; refine Kd.Q_append k60 (w0 := w) w.heap.size rfl (.tmp 115) (.tmp 123) 23 60 (.agg #[(.int .i64 0), (.int .i64 0), (.int .i64 0)]) 24 rfl Try.underlying23 info60 rfl (by decide) (by omega) u199000 x199000_2 (⟨a2_2, a2_1, wrap64 (a3 + 20)⟩ : S60) [.int .i64 a2_2, .int .i64 a2_1, .int .i64 (wrap64 (a3 + 20))] (fun _ => True) (fun _ => False) rfl rfl ?aP (fun _ hk => hk.elim) ?aF ?aO ?aB ?aS ?aL ?_; (case aP => exact k60_mkM _ _ _ (⟨a2_2, a2_1, wrap64 (a3 + 20)⟩ : S60)); (case aB => exact (hbA_ HB.out)); (case aF => exact (fun _ _ => trivial)); (case aO => exact (by (with_reducible repeat (first | apply Kd.Q_alloc | apply Kd.Q_drewN | apply Kd.Q_drew)); exact HO_199000.out)); (case aS => exact (below_size (hbA_ HB.out))); (case aL => have := LMc100.out; omega); intro v236 w129 ho hb hg hat; rw [← Ny235.out] at ho; replace HO_10 := Aside0.mk (Kd.S_over' (kS_ HO_10.out) (Kd.Q_typed (by (with_reducible repeat (first | apply Kd.Q_alloc | apply Kd.Q_drewN | apply Kd.Q_drew)); exact HO_199000.out)) (by decide) hg); replace HO_199001 := Aside0.mk (Kd.S_over' (kS_ HO_199001.out) (Kd.Q_typed (by (with_reducible repeat (first | apply Kd.Q_alloc | apply Kd.Q_drewN | apply Kd.Q_drew)); exact HO_199000.out)) (by decide) hg); replace BK189 := (bgA_ BK189 hg (Kd.Q_ne HO_199000.out BK189.out (by decide))); replace BK190 := (bgA_ BK190 hg (Kd.Q_ne HO_199000.out BK190.out (by decide))); replace BK191 := (bgA_ BK191 hg (Kd.Q_ne HO_199000.out BK191.out (by decide))); replace BK198 := (bgA_ BK198 hg (Kd.Q_ne HO_199000.out BK198.out (by decide))); replace HB := Aside0.mk (hb); have HO237 := Aside0.mk (ho); clear HO_199000; clear ho hb hg hat; obtain ⟨Ao130, co130, eo130, _⟩ := Kd.Q_slice HO237.out; subst eo130; have Z131 := zz2 BK198; have Z132 := zz2 BK191; obtain ⟨Ao133, co133, eo133⟩ := Kd.S_slice HO_199001.out; subst eo133))
             refine bodyPost_ret (results_ct rfl _ _ gb191 26 #[.slice Ao130 y235.length co130, .slice Ao133 x199001_3.length co133] (0, 0) _ rfl (by refine kb_ ?_; refine pz2 (cs := #[.slice none 0 0, .slice none 0 0]) ?_; exact kf_ BK191.out) Try.underlying26 rfl (by kernel_rfl)) rfl ?_
             exact ⟨_, _, _, by first | rfl | (simp [errW_none, errW_some] <;> rfl) | (simp [*, errW_none, errW_some] <;> rfl), by (with_reducible repeat (first | apply Kd.Q_alloc | apply Kd.Q_drewN | apply Kd.Q_drew)); exact Kd.Q_mono (Kd.Q_far (p := ⟨gb191, 1, none⟩) (Kd.Q_far (p := ⟨gb191, 0, none⟩) (Kd.Q_far (p := ⟨gb198, 0, none⟩) (Kd.Q_types (Kd.Q_types HO237.out BK198.out (by decide)) BK191.out (by decide)) (fun _ hk => hk.1.2) (.slice Ao130 y235.length co130)) (fun _ hk => hk.2) (.slice Ao130 y235.length co130)) (fun _ hk => hk.2) (.slice Ao133 x199001_3.length co133)) (fun _ hk => trivial), by refine kS_ ?_; exact Kd.S_mono (Kd.S_far (p := ⟨gb191, 1, none⟩) (Kd.S_far (p := ⟨gb191, 0, none⟩) (Kd.S_far (p := ⟨gb198, 0, none⟩) (Kd.S_types (Kd.S_types HO_199001.out BK198.out (by decide)) BK191.out (by decide)) (fun _ hk => hk.1.2) (.slice Ao130 y235.length co130)) (fun _ hk => hk.2) (.slice Ao130 y235.length co130)) (fun _ hk => hk.2) (.slice Ao133 x199001_3.length co133)) (fun _ hk => trivial), by refine kS_ ?_; exact Kd.S_mono (Kd.S_far (p := ⟨gb191, 1, none⟩) (Kd.S_far (p := ⟨gb191, 0, none⟩) (Kd.S_far (p := ⟨gb198, 0, none⟩) (Kd.S_types (Kd.S_types HO_10.out BK198.out (by decide)) BK191.out (by decide)) (fun _ hk => hk.1.2) (.slice Ao130 y235.length co130)) (fun _ hk => hk.2) (.slice Ao130 y235.length co130)) (fun _ hk => hk.2) (.slice Ao133 x199001_3.length co133)) (fun _ hk => trivial), hbA_ HB.out⟩
           ·rw [if_neg c100] at H
            exact absurd H (by simp)
          ·replace c99 := Bool.eq_false_iff.mpr c99
           subst c99
           rw [if_neg (show ¬ (false = true) by decide)] at H
           replace H := Option.bind_eq_some_iff.mp H
           obtain ⟨⟨t226, t229⟩, A1340, H⟩ := H
           (try dsimp only at H)
           have A134 := Aside0.mk A1340; clear A1340
           obtain ⟨y232, hy232⟩ : ∃ y_ : List (List Int), y_ = (([] : List (List Int))) := ⟨_, rfl⟩
           (first | replace H := sb_ hy232 H | rw [← hy232] at H)
           have Ny232 := Aside0.mk hy232; clear hy232
           simp only [Option.some.injEq, Prod.mk.injEq] at H
           obtain ⟨rfl, rfl, rfl⟩ := H
           have hnb135 := NB189_190.out; have hnc135 := NB190_189.out; have hnb136 := NB189_191.out; have hnc136 := NB191_189.out; have hnb137 := NB189_198.out; have hnc137 := NB198_189.out; have Z138 := zz2 BK189
           go_wp2_with (first | ((with_reducible refine gate_callee (f := 31) rfl ?_); refine goesL_ (some 112) rfl rfl Try.func31 (by kernel_rfl) rfl #[.agg #[.slice A0_0 l0_0.length c0_0, .slice A0_1 l0_1.length c0_1]] rfl ar_ ?_; (with_reducible refine (spec_l3Copy.calls k3 _ _ l0_0 _ _ l0_1 t226 t229 _ ?side1 ?side2 ?side3 ?side4 A134.out).mono ?_); (case side1 => exact kC_ (Kd.C_below HR0_0.out HB.out)); (case side2 => exact HC0_0.out); (case side3 => exact kC_ (Kd.C_below HR0_1.out HB.out)); (case side4 => exact HC0_1.out); rintro e w139 ⟨v227, v230, rfl, ho0, ho1, hb⟩; refine ⟨_, rfl, ?_⟩; replace HO_10 := Aside0.mk (Kd.S_below (kS_ HO_10.out) hb); have HO228 := Aside0.mk (Kd.R_lower (Kd.R_new' ho0 (Kd.Q_lt (by (with_reducible repeat (first | apply Kd.Q_alloc | apply Kd.Q_drewN | apply Kd.Q_drew)); exact HO_199000.out))) (below_size (hbA_ HB.out))); replace HO_199000 := Aside0.mk (Kd.Q_elder' (by (with_reducible repeat (first | apply Kd.Q_alloc | apply Kd.Q_drewN | apply Kd.Q_drew)); exact HO_199000.out) (Kd.R_base ho0) hb); have HO231 := Aside0.mk (Kd.S_lower (Kd.S_new' ho1 (Kd.S_lt (kS_ HO_199001.out))) (below_size (hbA_ HB.out))); replace HO_199001 := Aside0.mk (Kd.S_elder' (kS_ HO_199001.out) (Kd.S_base ho1) hb); replace BK189 := (bbA_ BK189 hb); replace BK190 := (bbA_ BK190 hb); replace BK191 := (bbA_ BK191 hb); replace BK198 := (bbA_ BK198 hb); replace HB := (bs_ HB hb); (try clear hb); (try clear hb2); (try clear hk); (try clear hi); (try clear ho0); (try clear ho1)) | ((with_reducible refine gate_dst (N := 113) rfl ?_); refine Kd.S_lit (Kd.slice 5 (Kd.int .u8)) _ 22 ?hg (N := 113) ?hd (xs := ([] : List (List Int))) (inner := []) (ok := fun _ => True) (okp := fun _ => True) ?hr ?hp (fun _ hk => hk) trivial (Below.refl _ _) (Nat.le_refl _) (by simp) ?_; (case hd => rfl); (case hg => rfl); (case hr => first | (go_simp; done) | (go_simp; rfl)); (case hp => exact (Reps.none _ _)); intro v233 w140 ho141 hb hg_ hnew_; clear hg_ hnew_; (first | rw [← Ny232.out] at ho141 | (simp only [Int.reduceToNat] at ho141; rw [← Ny232.out] at ho141)); replace HO_199000 := Aside0.mk (Kd.Q_below (by (with_reducible repeat (first | apply Kd.Q_alloc | apply Kd.Q_drewN | apply Kd.Q_drew)); exact HO_199000.out) hb); replace HO_199001 := Aside0.mk (Kd.S_below (kS_ HO_199001.out) hb); replace HO228 := Aside0.mk (Kd.R_below (kR_ HO228.out) hb); replace HO231 := Aside0.mk (Kd.S_below (kS_ HO231.out) hb); have HO234 := Aside0.mk (Kd.S_lower (Kd.S_new' ho141 (Kd.S_lt (kS_ HO_10.out))) (below_size (hbA_ HB.out))); replace HO_10 := Aside0.mk (Kd.S_elder' (kS_ HO_10.out) (Kd.S_base ho141) hb); replace BK189 := (bbA_ BK189 hb); replace BK190 := (bbA_ BK190 hb); replace BK191 := (bbA_ BK191 hb); replace BK198 := (bbA_ BK198 hb); replace HB := (bs_ HB hb); clear hb ho141; obtain ⟨Ao142, co142, eo142⟩ := Kd.R_slice HO228.out; subst eo142; have hnb143 := NB191_190.out; have hnc143 := NB190_191.out; have hnb144 := NB191_198.out; have hnc144 := NB198_191.out; have Z145 := zz2 BK191; obtain ⟨Ao146, co146, eo146⟩ := Kd.S_slice HO231.out; subst eo146))
           refine bodyPost_ret (results_ct rfl _ _ gb191 26 #[.slice Ao142 t226.length co142, .slice Ao146 t229.length co146] (0, 0) _ rfl (by refine kb_ ?_; refine pz2 (cs := #[.slice none 0 0, .slice none 0 0]) ?_; refine kb_ ?_; exact BK191.out) Try.underlying26 rfl (by kernel_rfl)) rfl ?_
           exact ⟨_, _, _, by first | rfl | (simp [errW_none, errW_some] <;> rfl) | (simp [*, errW_none, errW_some] <;> rfl), Kd.Q_of_R (by refine kR_ ?_; exact rfm_ ((Kd.R_types HO228.out BK191.out (by decide))) (fun _ hk => trivial)), by refine kS_ ?_; exact Kd.S_mono (Kd.S_far (p := ⟨gb191, 1, none⟩) (Kd.S_far (p := ⟨gb191, 0, none⟩) (Kd.S_types HO231.out BK191.out (by decide)) (fun _ hk => hk.2) (.slice Ao142 t226.length co142)) (fun _ hk => hk.2) (.slice Ao146 t229.length co146)) (fun _ hk => trivial), by refine kS_ ?_; exact Kd.S_mono (Kd.S_far (p := ⟨gb191, 1, none⟩) (Kd.S_far (p := ⟨gb191, 0, none⟩) (Kd.S_types HO234.out BK191.out (by decide)) (fun _ hk => hk.2) (.slice Ao142 t226.length co142)) (fun _ hk => hk.2) (.slice Ao146 t229.length co146)) (fun _ hk => trivial), hbA_ HB.out⟩
def spec_l20Rd_odd.f (k : Nat) (s0_0 : List Int) (s0_1 : Int) (a1 : Int) : Option (Bool × Int) := if a1 > 0 then ((spec_l20Rd_pick.f k s0_0 s0_1 a1).bind fun bt241 => (some ((bt241.1 == (wrap64 (a1 - 1))), bt241.2))) else (some (false, s0_1))
theorem spec_l20Rd_odd.mono : ∀ a0 a1 a2 k, LeO (spec_l20Rd_odd.f k a0 a1 a2) (spec_l20Rd_odd.f (k + 1) a0 a1 a2) := by
 intro a0 a1 a2 k
 unfold spec_l20Rd_odd.f
 repeat' first | (with_reducible first | apply spec_l20Rd_pick.mono | exact LeO.refl _ | exact LeO.none _ | refine LeO.ite ?_ ?_ | refine LeO.bind ?_ fun _ => ?_) | apply spec_l20Rd_pick.mono | exact LeO.none _ | refine LeO.ite ?_ ?_ | refine LeO.bind ?_ fun _ => ?_
set_option maxHeartbeats 8000000 in
set_option maxRecDepth 100000 in
theorem spec_l20Rd_odd.calls (k : Nat) (g : Nat) (s0_0 : List Int) (s0_1 : Int) (a1 : Int) (r1 : Bool) (r2 : Int) (w0 w : World) (hI : IsS73 w0 w g s0_0 s0_1) (hB : Below w0.heap.size w0 w) (h : spec_l20Rd_odd.f k s0_0 s0_1 a1 = some (r1, r2)) :
  Calls Try.prog 49 #[.pointer (some ⟨g, 0, none⟩), .int .i64 a1] w fun e w' => e = .returned (.bool r1) ∧ IsS73 w0 w' g s0_0 r2 ∧ Below w0.heap.size w0 w' ∧ KeepBut w w' g none := by
 have HI0 := Aside0.mk hI
 have HK := Aside0.mk (KeepBut.refl w g none)
 have HL := Aside0.mk hB.size; clear hI; have HW0 := Aside0.mk hB.size; have HB := Aside0.mk hB; clear hB
 have H : (if a1 > 0 then ((spec_l20Rd_pick.f k s0_0 s0_1 a1).bind fun bt241 => (some ((bt241.1 == (wrap64 (a1 - 1))), bt241.2))) else (some (false, s0_1))) = some (r1, r2) := h
 clear h
 by_cases c3 : a1 > 0
 ·rw [if_pos c3] at H
  have c3b0 : decide (0 < a1) = true := decide_eq_true c3
  clear c3
  replace H := Option.bind_eq_some_iff.mp H
  obtain ⟨⟨t241, t242⟩, A40, H⟩ := H
  (try dsimp only at H)
  have A4 := Aside0.mk A40; clear A40
  simp only [Option.some.injEq, Prod.mk.injEq] at H
  obtain ⟨rfl, rfl⟩ := H
  go_enter Try.func49, Try.ntmps49
  go_wp2_with (first | (go_at_call 23; (with_reducible refine (spec_l20Rd_pick.calls k g s0_0 s0_1 a1 t241 t242 w0 _ ?side1 ?side2 A4.out).mono ?_); (case side1 => exact is73_ HI0.out); (case side2 => exact hb73_ HB.out); rintro e w5 ⟨rfl, hi, hb, hk⟩; replace HK := (kk_ HK hk); replace HB := Aside0.mk (hb); replace HI0 := Aside0.mk (hi); (try clear hb); (try clear hb2); (try clear hk); (try clear hi)))
  go_ret
  exact ⟨by first | rfl | (simp [errW_none, errW_some] <;> rfl) | (simp [*, errW_none, errW_some] <;> rfl), is73_ HI0.out, hb73_ HB.out, hkA_ HK.out⟩
 ·rw [if_neg c3] at H
  have c3b0 : decide (0 < a1) = false := decide_eq_false c3
  clear c3
  simp only [Option.some.injEq, Prod.mk.injEq] at H
  obtain ⟨rfl, rfl⟩ := H
  go_enter Try.func49, Try.ntmps49
  go_wp2
  go_ret
  exact ⟨by first | rfl | (simp [errW_none, errW_some] <;> rfl) | (simp [*, errW_none, errW_some] <;> rfl), is73_ HI0.out, hb73_ HB.out, hkA_ HK.out⟩
def spec_l20Query.f (k : Nat) (s0_0 : List Int) (s0_1 : Int) (a1 : Int) : Option (Int × Int × Int × Int × Int) := (spec_l20Rd_pick.f k s0_0 s0_1 2).bind fun bt244 => ((spec_l20Rd_pick.f k s0_0 bt244.2 4).bind fun bt246 => ((spec_l20Rd_pick.f k s0_0 bt246.2 6).bind fun bt248 => ((spec_l20Rd_pick.f k s0_0 bt248.2 6).bind fun bt250 => ((spec_l20Rd_odd.f k s0_0 bt250.2 a1).bind fun bt253 => (if bt253.1 = true then ((spec_l20Rd_pick.f k s0_0 bt253.2 3).bind fun bt255 => (if bt255.1 = 0 then ((spec_l20Rd_pick.f k s0_0 bt255.2 5).bind fun bt257 => (some (bt257.1, bt246.1, bt248.1, bt250.1, bt257.2))) else (if bt255.1 = 1 then (some (wrap64 (1 + bt244.1), 255, bt248.1, bt250.1, bt255.2)) else ((spec_l20Rd_pick.f k s0_0 bt255.2 2).bind fun bt259 => (some (wrap64 (1 + bt244.1), bt246.1, wrap64 (65536 - (wrap64 (bt259.1 * 70000))), bt250.1, bt259.2)))))) else (some (wrap64 (1 + bt244.1), bt246.1, bt248.1, bt250.1, bt253.2)))))))
theorem spec_l20Query.mono : ∀ a0 a1 a2 k, LeO (spec_l20Query.f k a0 a1 a2) (spec_l20Query.f (k + 1) a0 a1 a2) := by
 intro a0 a1 a2 k
 unfold spec_l20Query.f
 repeat' first | (with_reducible first | apply spec_l20Rd_odd.mono | apply spec_l20Rd_pick.mono | exact LeO.refl _ | exact LeO.none _ | refine LeO.ite ?_ ?_ | refine LeO.bind ?_ fun _ => ?_) | apply spec_l20Rd_odd.mono | apply spec_l20Rd_pick.mono | exact LeO.none _ | refine LeO.ite ?_ ?_ | refine LeO.bind ?_ fun _ => ?_
set_option maxHeartbeats 8000000 in
set_option maxRecDepth 100000 in
theorem spec_l20Query.calls (k : Nat) (g : Nat) (s0_0 : List Int) (s0_1 : Int) (a1 : Int) (r1 : Int) (r2 : Int) (r3 : Int) (r4 : Int) (r5 : Int) (w0 w : World) (hI : IsS73 w0 w g s0_0 s0_1) (hB : Below w0.heap.size w0 w) (h : spec_l20Query.f k s0_0 s0_1 a1 = some (r1, r2, r3, r4, r5)) :
  Calls Try.prog 48 #[.pointer (some ⟨g, 0, none⟩), .int .i64 a1] w fun e w' => e = .returned (.agg #[.int .i64 r1, .int .i64 r2, .int .i64 r3, .int .i64 r4]) ∧ IsS73 w0 w' g s0_0 r5 ∧ Below w0.heap.size w0 w' ∧ KeepBut w w' g none := by
 have hu78 := Try.underlying78; have HI0 := Aside0.mk hI
 have HK := Aside0.mk (KeepBut.refl w g none)
 have HL := Aside0.mk hB.size; clear hI; have HW0 := Aside0.mk hB.size; have HB := Aside0.mk hB; clear hB
 have H : ((spec_l20Rd_pick.f k s0_0 s0_1 2).bind fun bt244 => ((spec_l20Rd_pick.f k s0_0 bt244.2 4).bind fun bt246 => ((spec_l20Rd_pick.f k s0_0 bt246.2 6).bind fun bt248 => ((spec_l20Rd_pick.f k s0_0 bt248.2 6).bind fun bt250 => ((spec_l20Rd_odd.f k s0_0 bt250.2 a1).bind fun bt253 => (if bt253.1 = true then ((spec_l20Rd_pick.f k s0_0 bt253.2 3).bind fun bt255 => (if bt255.1 = 0 then ((spec_l20Rd_pick.f k s0_0 bt255.2 5).bind fun bt257 => (some (bt257.1, bt246.1, bt248.1, bt250.1, bt257.2))) else (if bt255.1 = 1 then (some (wrap64 (1 + bt244.1), 255, bt248.1, bt250.1, bt255.2)) else ((spec_l20Rd_pick.f k s0_0 bt255.2 2).bind fun bt259 => (some (wrap64 (1 + bt244.1), bt246.1, wrap64 (65536 - (wrap64 (bt259.1 * 70000))), bt250.1, bt259.2)))))) else (some (wrap64 (1 + bt244.1), bt246.1, bt248.1, bt250.1, bt253.2)))))))) = some (r1, r2, r3, r4, r5) := h
 clear h
 replace H := Option.bind_eq_some_iff.mp H
 obtain ⟨⟨t244, t245⟩, A30, H⟩ := H
 (try dsimp only at H)
 have A3 := Aside0.mk A30; clear A30
 replace H := Option.bind_eq_some_iff.mp H
 obtain ⟨⟨t246, t247⟩, A40, H⟩ := H
 (try dsimp only at H)
 have A4 := Aside0.mk A40; clear A40
 replace H := Option.bind_eq_some_iff.mp H
 obtain ⟨⟨t248, t249⟩, A50, H⟩ := H
 (try dsimp only at H)
 have A5 := Aside0.mk A50; clear A50
 replace H := Option.bind_eq_some_iff.mp H
 obtain ⟨⟨t250, t251⟩, A60, H⟩ := H
 (try dsimp only at H)
 have A6 := Aside0.mk A60; clear A60
 replace H := Option.bind_eq_some_iff.mp H
 obtain ⟨⟨t253, t254⟩, A70, H⟩ := H
 (try dsimp only at H)
 have A7 := Aside0.mk A70; clear A70
 by_cases c8 : t253 = true
 ·subst c8
  rw [if_pos rfl] at H
  replace H := Option.bind_eq_some_iff.mp H
  obtain ⟨⟨t255, t256⟩, A90, H⟩ := H
  (try dsimp only at H)
  have A9 := Aside0.mk A90; clear A90
  by_cases c10 : t255 = 0
  ·rw [if_pos c10] at H
   have c10b0 : (t255 == 0) = true := beq_iff_eq.mpr c10
   have c10b1 : (t255 != 0) = false := bne_eq_false_iff_eq.mpr c10
   clear c10
   replace H := Option.bind_eq_some_iff.mp H
   obtain ⟨⟨t257, t258⟩, A110, H⟩ := H
   (try dsimp only at H)
   have A11 := Aside0.mk A110; clear A110
   simp only [Option.some.injEq, Prod.mk.injEq] at H
   obtain ⟨rfl, rfl, rfl, rfl, rfl⟩ := H
   go_enter Try.func48, Try.ntmps48
   go_wp2_with (first | ((with_reducible refine gate_dst (N := 4) rfl ?_); refine box_ (N := 4) (cs := #[.int .i64 0, .int .i64 0, .int .i64 0, .int .i64 0]) (t := 78) (fun gb243 hg w12 hbox hb => ?_); replace HB := (bs73_ HB hb); have BK243 := Aside0.mk (hbox); have GW243 := gk_ hg HK; have GE243 := Aside0.mk ((Nat.le_trans HW0.out (by rw [hg]; exact (keep_size (w := w) (g := g) (row := none) (hkA_ HK.out)) : w.heap.size ≤ gb243) : w0.heap.size ≤ gb243)); replace HK := (kw_ HK hb); have NB0_243 := nl73_ hg HI0; have NB243_0 := ng73_ hg HI0; replace HI0 := (ib73_ HI0 hb); clear hb hbox hg) | ((with_reducible refine gate_callee (f := 23) rfl ?_); refine goesL_ (some 7) rfl rfl Try.func23 (by kernel_rfl) rfl #[.pointer (some ⟨g, 0, none⟩), .int .i64 2] rfl ar_ ?_; (with_reducible refine (spec_l20Rd_pick.calls k g s0_0 s0_1 2 t244 t245 w0 _ ?side1 ?side2 A3.out).mono ?_); (case side1 => exact is73_ HI0.out); (case side2 => exact hb73_ HB.out); rintro e w13 ⟨rfl, hi, hb, hk⟩; refine ⟨_, rfl, ?_⟩; replace BK243 := (bkA_ BK243 hk NB243_0); replace HK := (kk_ HK hk); replace HB := Aside0.mk (hb); replace HI0 := Aside0.mk (hi); (try clear hb); (try clear hb2); (try clear hk); (try clear hi)) | ((with_reducible refine gate_callee (f := 23) rfl ?_); refine goesL_ (some 10) rfl rfl Try.func23 (by kernel_rfl) rfl #[.pointer (some ⟨g, 0, none⟩), .int .i64 4] rfl ar_ ?_; (with_reducible refine (spec_l20Rd_pick.calls k g s0_0 t245 4 t246 t247 w0 _ ?side1 ?side2 A4.out).mono ?_); (case side1 => exact is73_ HI0.out); (case side2 => exact hb73_ HB.out); rintro e w14 ⟨rfl, hi, hb, hk⟩; refine ⟨_, rfl, ?_⟩; replace BK243 := (bkA_ BK243 hk NB243_0); replace HK := (kk_ HK hk); replace HB := Aside0.mk (hb); replace HI0 := Aside0.mk (hi); (try clear hb); (try clear hb2); (try clear hk); (try clear hi)) | ((with_reducible refine gate_callee (f := 23) rfl ?_); refine goesL_ (some 12) rfl rfl Try.func23 (by kernel_rfl) rfl #[.pointer (some ⟨g, 0, none⟩), .int .i64 6] rfl ar_ ?_; (with_reducible refine (spec_l20Rd_pick.calls k g s0_0 t247 6 t248 t249 w0 _ ?side1 ?side2 A5.out).mono ?_); (case side1 => exact is73_ HI0.out); (case side2 => exact hb73_ HB.out); rintro e w15 ⟨rfl, hi, hb, hk⟩; refine ⟨_, rfl, ?_⟩; replace BK243 := (bkA_ BK243 hk NB243_0); replace HK := (kk_ HK hk); replace HB := Aside0.mk (hb); replace HI0 := Aside0.mk (hi); (try clear hb); (try clear hb2); (try clear hk); (try clear hi)) | ((with_reducible refine gate_callee (f := 23) rfl ?_); refine goesL_ (some 14) rfl rfl Try.func23 (by kernel_rfl) rfl #[.pointer (some ⟨g, 0, none⟩), .int .i64 6] rfl ar_ ?_; (with_reducible refine (spec_l20Rd_pick.calls k g s0_0 t249 6 t250 t251 w0 _ ?side1 ?side2 A6.out).mono ?_); (case side1 => exact is73_ HI0.out); (case side2 => exact hb73_ HB.out); rintro e w16 ⟨rfl, hi, hb, hk⟩; refine ⟨_, rfl, ?_⟩; replace BK243 := (bkA_ BK243 hk NB243_0); replace HK := (kk_ HK hk); replace HB := Aside0.mk (hb); replace HI0 := Aside0.mk (hi); (try clear hb); (try clear hb2); (try clear hk); (try clear hi)) | ((with_reducible refine gate_dst (N := 5) rfl ?_); refine box_ (N := 5) (cs := #[.int .i64 0, .int .i64 0, .int .i64 0, .int .i64 0]) (t := 78) (fun gb252 hg w17 hbox hb => ?_); replace HB := (bs73_ HB hb); have BK252 := Aside0.mk (hbox); have GW252 := gk_ hg HK; have GE252 := Aside0.mk ((Nat.le_trans HW0.out (by rw [hg]; exact (keep_size (w := w) (g := g) (row := none) (hkA_ HK.out)) : w.heap.size ≤ gb252) : w0.heap.size ≤ gb252)); replace HK := (kw_ HK hb); have NB243_252 := nl_ hg BK243; have NB252_243 := ng_ hg BK243; replace BK243 := (bbA_ BK243 hb); have NB0_252 := nl73_ hg HI0; have NB252_0 := ng73_ hg HI0; replace HI0 := (ib73_ HI0 hb); clear hb hbox hg; have hnb18 := NB252_243.out; have hnc18 := NB243_252.out; have hnb19 := NB252_0.out; have hnc19 := NB0_252.out; have Z20 := zz4 BK252) | ((with_reducible refine gate_callee (f := 49) rfl ?_); refine goesL_ (some 18) rfl rfl Try.func49 (by kernel_rfl) rfl #[.pointer (some ⟨g, 0, none⟩), .int .i64 a1] rfl ar_ ?_; (with_reducible refine (spec_l20Rd_odd.calls k g s0_0 t251 a1 true t254 w0 _ ?side1 ?side2 A7.out).mono ?_); (case side1 => exact is73_ HI0.out); (case side2 => exact hb73_ HB.out); rintro e w21 ⟨rfl, hi, hb, hk⟩; refine ⟨_, rfl, ?_⟩; replace BK243 := Aside0.mk (KeepBut.blk hk (g' := gb243) (o := .cells #[.int .i64 0, .int .i64 0, .int .i64 0, .int .i64 0] 78 (0, 0)) (by exact kf_ BK243.out) NB243_0.out (by simp)); replace BK252 := Aside0.mk (KeepBut.blk hk (g' := gb252) (o := .cells #[.int .i64 (wrap64 (1 + t244)), .int .i64 t246, .int .i64 t248, .int .i64 t250] 78 (0, 0)) (by refine kb_ ?_; refine pz4 (cs := #[.int .i64 0, .int .i64 0, .int .i64 0, .int .i64 0]) ?_; refine kb_ ?_; exact BK252.out) NB252_0.out (by simp)); replace HK := (kk_ HK hk); replace HB := Aside0.mk (hb); replace HI0 := Aside0.mk (hi); (try clear hb); (try clear hb2); (try clear hk); (try clear hi)) | ((with_reducible refine gate_callee (f := 23) rfl ?_); refine goesL_ (some 20) rfl rfl Try.func23 (by kernel_rfl) rfl #[.pointer (some ⟨g, 0, none⟩), .int .i64 3] rfl ar_ ?_; (with_reducible refine (spec_l20Rd_pick.calls k g s0_0 t254 3 t255 t256 w0 _ ?side1 ?side2 A9.out).mono ?_); (case side1 => exact is73_ HI0.out); (case side2 => exact hb73_ HB.out); rintro e w22 ⟨rfl, hi, hb, hk⟩; refine ⟨_, rfl, ?_⟩; replace BK243 := (bkA_ BK243 hk NB243_0); replace BK252 := (bkA_ BK252 hk NB252_0); replace HK := (kk_ HK hk); replace HB := Aside0.mk (hb); replace HI0 := Aside0.mk (hi); (try clear hb); (try clear hb2); (try clear hk); (try clear hi)) | ((with_reducible refine gate_callee (f := 23) rfl ?_); refine goesL_ (some 29) rfl rfl Try.func23 (by kernel_rfl) rfl #[.pointer (some ⟨g, 0, none⟩), .int .i64 5] rfl ar_ ?_; (with_reducible refine (spec_l20Rd_pick.calls k g s0_0 t256 5 t257 t258 w0 _ ?side1 ?side2 A11.out).mono ?_); (case side1 => exact is73_ HI0.out); (case side2 => exact hb73_ HB.out); rintro e w23 ⟨rfl, hi, hb, hk⟩; refine ⟨_, rfl, ?_⟩; replace BK243 := (bkA_ BK243 hk NB243_0); replace BK252 := (bkA_ BK252 hk NB252_0); replace HK := (kk_ HK hk); replace HB := Aside0.mk (hb); replace HI0 := Aside0.mk (hi); (try clear hb); (try clear hb2); (try clear hk); (try clear hi); have Z24 := zz4 BK252; have hnb25 := NB243_0.out; have hnc25 := NB0_243.out; have Z26 := zz4 BK243))
   refine bodyPost_ret (results_cell_row rfl _ _ gb243 78 #[.int .i64 t257, .int .i64 t246, .int .i64 t248, .int .i64 t250] (0, 0) _ rfl (by refine kb_ ?_; refine pz4 (cs := #[.int .i64 0, .int .i64 0, .int .i64 0, .int .i64 0]) ?_; exact kf_ BK243.out) Try.underlying78 rfl (by kernel_rfl)) rfl ?_
   exact ⟨by first | rfl | (simp [errW_none, errW_some] <;> rfl) | (simp [*, errW_none, errW_some] <;> rfl), is73_ HI0.out, hb73_ HB.out, hkA_ HK.out⟩
  ·rw [if_neg c10] at H
   have c10b0 : (t255 == 0) = false := beq_eq_false_iff_ne.mpr c10
   have c10b1 : (t255 != 0) = true := bne_iff_ne.mpr c10
   by_cases c27 : t255 = 1
   ·rw [if_pos c27] at H
    have c27b0 : (t255 == 1) = true := beq_iff_eq.mpr c27
    have c27b1 : (t255 != 1) = false := bne_eq_false_iff_eq.mpr c27
    clear c27
    simp only [Option.some.injEq, Prod.mk.injEq] at H
    obtain ⟨rfl, rfl, rfl, rfl, rfl⟩ := H
    go_enter Try.func48, Try.ntmps48
    go_wp2_with (first | ((with_reducible refine gate_dst (N := 4) rfl ?_); refine box_ (N := 4) (cs := #[.int .i64 0, .int .i64 0, .int .i64 0, .int .i64 0]) (t := 78) (fun gb243 hg w28 hbox hb => ?_); replace HB := (bs73_ HB hb); have BK243 := Aside0.mk (hbox); have GW243 := gk_ hg HK; have GE243 := Aside0.mk ((Nat.le_trans HW0.out (by rw [hg]; exact (keep_size (w := w) (g := g) (row := none) (hkA_ HK.out)) : w.heap.size ≤ gb243) : w0.heap.size ≤ gb243)); replace HK := (kw_ HK hb); have NB0_243 := nl73_ hg HI0; have NB243_0 := ng73_ hg HI0; replace HI0 := (ib73_ HI0 hb); clear hb hbox hg) | ((with_reducible refine gate_callee (f := 23) rfl ?_); refine goesL_ (some 7) rfl rfl Try.func23 (by kernel_rfl) rfl #[.pointer (some ⟨g, 0, none⟩), .int .i64 2] rfl ar_ ?_; (with_reducible refine (spec_l20Rd_pick.calls k g s0_0 s0_1 2 t244 t245 w0 _ ?side1 ?side2 A3.out).mono ?_); (case side1 => exact is73_ HI0.out); (case side2 => exact hb73_ HB.out); rintro e w29 ⟨rfl, hi, hb, hk⟩; refine ⟨_, rfl, ?_⟩; replace BK243 := (bkA_ BK243 hk NB243_0); replace HK := (kk_ HK hk); replace HB := Aside0.mk (hb); replace HI0 := Aside0.mk (hi); (try clear hb); (try clear hb2); (try clear hk); (try clear hi)) | ((with_reducible refine gate_callee (f := 23) rfl ?_); refine goesL_ (some 10) rfl rfl Try.func23 (by kernel_rfl) rfl #[.pointer (some ⟨g, 0, none⟩), .int .i64 4] rfl ar_ ?_; (with_reducible refine (spec_l20Rd_pick.calls k g s0_0 t245 4 t246 t247 w0 _ ?side1 ?side2 A4.out).mono ?_); (case side1 => exact is73_ HI0.out); (case side2 => exact hb73_ HB.out); rintro e w30 ⟨rfl, hi, hb, hk⟩; refine ⟨_, rfl, ?_⟩; replace BK243 := (bkA_ BK243 hk NB243_0); replace HK := (kk_ HK hk); replace HB := Aside0.mk (hb); replace HI0 := Aside0.mk (hi); (try clear hb); (try clear hb2); (try clear hk); (try clear hi)) | ((with_reducible refine gate_callee (f := 23) rfl ?_); refine goesL_ (some 12) rfl rfl Try.func23 (by kernel_rfl) rfl #[.pointer (some ⟨g, 0, none⟩), .int .i64 6] rfl ar_ ?_; (with_reducible refine (spec_l20Rd_pick.calls k g s0_0 t247 6 t248 t249 w0 _ ?side1 ?side2 A5.out).mono ?_); (case side1 => exact is73_ HI0.out); (case side2 => exact hb73_ HB.out); rintro e w31 ⟨rfl, hi, hb, hk⟩; refine ⟨_, rfl, ?_⟩; replace BK243 := (bkA_ BK243 hk NB243_0); replace HK := (kk_ HK hk); replace HB := Aside0.mk (hb); replace HI0 := Aside0.mk (hi); (try clear hb); (try clear hb2); (try clear hk); (try clear hi)) | ((with_reducible refine gate_callee (f := 23) rfl ?_); refine goesL_ (some 14) rfl rfl Try.func23 (by kernel_rfl) rfl #[.pointer (some ⟨g, 0, none⟩), .int .i64 6] rfl ar_ ?_; (with_reducible refine (spec_l20Rd_pick.calls k g s0_0 t249 6 t250 t251 w0 _ ?side1 ?side2 A6.out).mono ?_); (case side1 => exact is73_ HI0.out); (case side2 => exact hb73_ HB.out); rintro e w32 ⟨rfl, hi, hb, hk⟩; refine ⟨_, rfl, ?_⟩; replace BK243 := (bkA_ BK243 hk NB243_0); replace HK := (kk_ HK hk); replace HB := Aside0.mk (hb); replace HI0 := Aside0.mk (hi); (try clear hb); (try clear hb2); (try clear hk); (try clear hi)) | ((with_reducible refine gate_dst (N := 5) rfl ?_); refine box_ (N := 5) (cs := #[.int .i64 0, .int .i64 0, .int .i64 0, .int .i64 0]) (t := 78) (fun gb252 hg w33 hbox hb => ?_); replace HB := (bs73_ HB hb); have BK252 := Aside0.mk (hbox); have GW252 := gk_ hg HK; have GE252 := Aside0.mk ((Nat.le_trans HW0.out (by rw [hg]; exact (keep_size (w := w) (g := g) (row := none) (hkA_ HK.out)) : w.heap.size ≤ gb252) : w0.heap.size ≤ gb252)); replace HK := (kw_ HK hb); have NB243_252 := nl_ hg BK243; have NB252_243 := ng_ hg BK243; replace BK243 := (bbA_ BK243 hb); have NB0_252 := nl73_ hg HI0; have NB252_0 := ng73_ hg HI0; replace HI0 := (ib73_ HI0 hb); clear hb hbox hg; have hnb34 := NB252_243.out; have hnc34 := NB243_252.out; have hnb35 := NB252_0.out; have hnc35 := NB0_252.out; have Z36 := zz4 BK252) | ((with_reducible refine gate_callee (f := 49) rfl ?_); refine goesL_ (some 18) rfl rfl Try.func49 (by kernel_rfl) rfl #[.pointer (some ⟨g, 0, none⟩), .int .i64 a1] rfl ar_ ?_; (with_reducible refine (spec_l20Rd_odd.calls k g s0_0 t251 a1 true t254 w0 _ ?side1 ?side2 A7.out).mono ?_); (case side1 => exact is73_ HI0.out); (case side2 => exact hb73_ HB.out); rintro e w37 ⟨rfl, hi, hb, hk⟩; refine ⟨_, rfl, ?_⟩; replace BK243 := Aside0.mk (KeepBut.blk hk (g' := gb243) (o := .cells #[.int .i64 0, .int .i64 0, .int .i64 0, .int .i64 0] 78 (0, 0)) (by exact kf_ BK243.out) NB243_0.out (by simp)); replace BK252 := Aside0.mk (KeepBut.blk hk (g' := gb252) (o := .cells #[.int .i64 (wrap64 (1 + t244)), .int .i64 t246, .int .i64 t248, .int .i64 t250] 78 (0, 0)) (by refine kb_ ?_; refine pz4 (cs := #[.int .i64 0, .int .i64 0, .int .i64 0, .int .i64 0]) ?_; refine kb_ ?_; exact BK252.out) NB252_0.out (by simp)); replace HK := (kk_ HK hk); replace HB := Aside0.mk (hb); replace HI0 := Aside0.mk (hi); (try clear hb); (try clear hb2); (try clear hk); (try clear hi)) | ((with_reducible refine gate_callee (f := 23) rfl ?_); refine goesL_ (some 20) rfl rfl Try.func23 (by kernel_rfl) rfl #[.pointer (some ⟨g, 0, none⟩), .int .i64 3] rfl ar_ ?_; (with_reducible refine (spec_l20Rd_pick.calls k g s0_0 t254 3 t255 t256 w0 _ ?side1 ?side2 A9.out).mono ?_); (case side1 => exact is73_ HI0.out); (case side2 => exact hb73_ HB.out); rintro e w38 ⟨rfl, hi, hb, hk⟩; refine ⟨_, rfl, ?_⟩; replace BK243 := (bkA_ BK243 hk NB243_0); replace BK252 := (bkA_ BK252 hk NB252_0); replace HK := (kk_ HK hk); replace HB := Aside0.mk (hb); replace HI0 := Aside0.mk (hi); (try clear hb); (try clear hb2); (try clear hk); (try clear hi); have Z39 := zz4 BK252; have hnb40 := NB243_0.out; have hnc40 := NB0_243.out; have Z41 := zz4 BK243))
    refine bodyPost_ret (results_cell_row rfl _ _ gb243 78 #[.int .i64 (wrap64 (1 + t244)), .int .i64 255, .int .i64 t248, .int .i64 t250] (0, 0) _ rfl (by refine kb_ ?_; refine pz4 (cs := #[.int .i64 0, .int .i64 0, .int .i64 0, .int .i64 0]) ?_; exact kf_ BK243.out) Try.underlying78 rfl (by kernel_rfl)) rfl ?_
    exact ⟨by first | rfl | (simp [errW_none, errW_some] <;> rfl) | (simp [*, errW_none, errW_some] <;> rfl), is73_ HI0.out, hb73_ HB.out, hkA_ HK.out⟩
   ·rw [if_neg c27] at H
    have c27b0 : (t255 == 1) = false := beq_eq_false_iff_ne.mpr c27
    have c27b1 : (t255 != 1) = true := bne_iff_ne.mpr c27
    replace H := Option.bind_eq_some_iff.mp H
    obtain ⟨⟨t259, t260⟩, A420, H⟩ := H
    (try dsimp only at H)
    have A42 := Aside0.mk A420; clear A420
    simp only [Option.some.injEq, Prod.mk.injEq] at H
    obtain ⟨rfl, rfl, rfl, rfl, rfl⟩ := H
    go_enter Try.func48, Try.ntmps48
    go_wp2_with (first | ((with_reducible refine gate_dst (N := 4) rfl ?_); refine box_ (N := 4) (cs := #[.int .i64 0, .int .i64 0, .int .i64 0, .int .i64 0]) (t := 78) (fun gb243 hg w43 hbox hb => ?_); replace HB := (bs73_ HB hb); have BK243 := Aside0.mk (hbox); have GW243 := gk_ hg HK; have GE243 := Aside0.mk ((Nat.le_trans HW0.out (by rw [hg]; exact (keep_size (w := w) (g := g) (row := none) (hkA_ HK.out)) : w.heap.size ≤ gb243) : w0.heap.size ≤ gb243)); replace HK := (kw_ HK hb); have NB0_243 := nl73_ hg HI0; have NB243_0 := ng73_ hg HI0; replace HI0 := (ib73_ HI0 hb); clear hb hbox hg) | ((with_reducible refine gate_callee (f := 23) rfl ?_); refine goesL_ (some 7) rfl rfl Try.func23 (by kernel_rfl) rfl #[.pointer (some ⟨g, 0, none⟩), .int .i64 2] rfl ar_ ?_; (with_reducible refine (spec_l20Rd_pick.calls k g s0_0 s0_1 2 t244 t245 w0 _ ?side1 ?side2 A3.out).mono ?_); (case side1 => exact is73_ HI0.out); (case side2 => exact hb73_ HB.out); rintro e w44 ⟨rfl, hi, hb, hk⟩; refine ⟨_, rfl, ?_⟩; replace BK243 := (bkA_ BK243 hk NB243_0); replace HK := (kk_ HK hk); replace HB := Aside0.mk (hb); replace HI0 := Aside0.mk (hi); (try clear hb); (try clear hb2); (try clear hk); (try clear hi)) | ((with_reducible refine gate_callee (f := 23) rfl ?_); refine goesL_ (some 10) rfl rfl Try.func23 (by kernel_rfl) rfl #[.pointer (some ⟨g, 0, none⟩), .int .i64 4] rfl ar_ ?_; (with_reducible refine (spec_l20Rd_pick.calls k g s0_0 t245 4 t246 t247 w0 _ ?side1 ?side2 A4.out).mono ?_); (case side1 => exact is73_ HI0.out); (case side2 => exact hb73_ HB.out); rintro e w45 ⟨rfl, hi, hb, hk⟩; refine ⟨_, rfl, ?_⟩; replace BK243 := (bkA_ BK243 hk NB243_0); replace HK := (kk_ HK hk); replace HB := Aside0.mk (hb); replace HI0 := Aside0.mk (hi); (try clear hb); (try clear hb2); (try clear hk); (try clear hi)) | ((with_reducible refine gate_callee (f := 23) rfl ?_); refine goesL_ (some 12) rfl rfl Try.func23 (by kernel_rfl) rfl #[.pointer (some ⟨g, 0, none⟩), .int .i64 6] rfl ar_ ?_; (with_reducible refine (spec_l20Rd_pick.calls k g s0_0 t247 6 t248 t249 w0 _ ?side1 ?side2 A5.out).mono ?_); (case side1 => exact is73_ HI0.out); (case side2 => exact hb73_ HB.out); rintro e w46 ⟨rfl, hi, hb, hk⟩; refine ⟨_, rfl, ?_⟩; replace BK243 := (bkA_ BK243 hk NB243_0); replace HK := (kk_ HK hk); replace HB := Aside0.mk (hb); replace HI0 := Aside0.mk (hi); (try clear hb); (try clear hb2); (try clear hk); (try clear hi)) | ((with_reducible refine gate_callee (f := 23) rfl ?_); refine goesL_ (some 14) rfl rfl Try.func23 (by kernel_rfl) rfl #[.pointer (some ⟨g, 0, none⟩), .int .i64 6] rfl ar_ ?_; (with_reducible refine (spec_l20Rd_pick.calls k g s0_0 t249 6 t250 t251 w0 _ ?side1 ?side2 A6.out).mono ?_); (case side1 => exact is73_ HI0.out); (case side2 => exact hb73_ HB.out); rintro e w47 ⟨rfl, hi, hb, hk⟩; refine ⟨_, rfl, ?_⟩; replace BK243 := (bkA_ BK243 hk NB243_0); replace HK := (kk_ HK hk); replace HB := Aside0.mk (hb); replace HI0 := Aside0.mk (hi); (try clear hb); (try clear hb2); (try clear hk); (try clear hi)) | ((with_reducible refine gate_dst (N := 5) rfl ?_); refine box_ (N := 5) (cs := #[.int .i64 0, .int .i64 0, .int .i64 0, .int .i64 0]) (t := 78) (fun gb252 hg w48 hbox hb => ?_); replace HB := (bs73_ HB hb); have BK252 := Aside0.mk (hbox); have GW252 := gk_ hg HK; have GE252 := Aside0.mk ((Nat.le_trans HW0.out (by rw [hg]; exact (keep_size (w := w) (g := g) (row := none) (hkA_ HK.out)) : w.heap.size ≤ gb252) : w0.heap.size ≤ gb252)); replace HK := (kw_ HK hb); have NB243_252 := nl_ hg BK243; have NB252_243 := ng_ hg BK243; replace BK243 := (bbA_ BK243 hb); have NB0_252 := nl73_ hg HI0; have NB252_0 := ng73_ hg HI0; replace HI0 := (ib73_ HI0 hb); clear hb hbox hg; have hnb49 := NB252_243.out; have hnc49 := NB243_252.out; have hnb50 := NB252_0.out; have hnc50 := NB0_252.out; have Z51 := zz4 BK252) | ((with_reducible refine gate_callee (f := 49) rfl ?_); refine goesL_ (some 18) rfl rfl Try.func49 (by kernel_rfl) rfl #[.pointer (some ⟨g, 0, none⟩), .int .i64 a1] rfl ar_ ?_; (with_reducible refine (spec_l20Rd_odd.calls k g s0_0 t251 a1 true t254 w0 _ ?side1 ?side2 A7.out).mono ?_); (case side1 => exact is73_ HI0.out); (case side2 => exact hb73_ HB.out); rintro e w52 ⟨rfl, hi, hb, hk⟩; refine ⟨_, rfl, ?_⟩; replace BK243 := Aside0.mk (KeepBut.blk hk (g' := gb243) (o := .cells #[.int .i64 0, .int .i64 0, .int .i64 0, .int .i64 0] 78 (0, 0)) (by exact kf_ BK243.out) NB243_0.out (by simp)); replace BK252 := Aside0.mk (KeepBut.blk hk (g' := gb252) (o := .cells #[.int .i64 (wrap64 (1 + t244)), .int .i64 t246, .int .i64 t248, .int .i64 t250] 78 (0, 0)) (by refine kb_ ?_; refine pz4 (cs := #[.int .i64 0, .int .i64 0, .int .i64 0, .int .i64 0]) ?_; refine kb_ ?_; exact BK252.out) NB252_0.out (by simp)); replace HK := (kk_ HK hk); replace HB := Aside0.mk (hb); replace HI0 := Aside0.mk (hi); (try clear hb); (try clear hb2); (try clear hk); (try clear hi)) | ((with_reducible refine gate_callee (f := 23) rfl ?_); refine goesL_ (some 20) rfl rfl Try.func23 (by kernel_rfl) rfl #[.pointer (some ⟨g, 0, none⟩), .int .i64 3] rfl ar_ ?_; (with_reducible refine (spec_l20Rd_pick.calls k g s0_0 t254 3 t255 t256 w0 _ ?side1 ?side2 A9.out).mono ?_); (case side1 => exact is73_ HI0.out); (case side2 => exact hb73_ HB.out); rintro e w53 ⟨rfl, hi, hb, hk⟩; refine ⟨_, rfl, ?_⟩; replace BK243 := (bkA_ BK243 hk NB243_0); replace BK252 := (bkA_ BK252 hk NB252_0); replace HK := (kk_ HK hk); replace HB := Aside0.mk (hb); replace HI0 := Aside0.mk (hi); (try clear hb); (try clear hb2); (try clear hk); (try clear hi)) | ((with_reducible refine gate_callee (f := 23) rfl ?_); refine goesL_ (some 22) rfl rfl Try.func23 (by kernel_rfl) rfl #[.pointer (some ⟨g, 0, none⟩), .int .i64 2] rfl ar_ ?_; (with_reducible refine (spec_l20Rd_pick.calls k g s0_0 t256 2 t259 t260 w0 _ ?side1 ?side2 A42.out).mono ?_); (case side1 => exact is73_ HI0.out); (case side2 => exact hb73_ HB.out); rintro e w54 ⟨rfl, hi, hb, hk⟩; refine ⟨_, rfl, ?_⟩; replace BK243 := (bkA_ BK243 hk NB243_0); replace BK252 := (bkA_ BK252 hk NB252_0); replace HK := (kk_ HK hk); replace HB := Aside0.mk (hb); replace HI0 := Aside0.mk (hi); (try clear hb); (try clear hb2); (try clear hk); (try clear hi); have Z55 := zz4 BK252; have hnb56 := NB243_0.out; have hnc56 := NB0_243.out; have Z57 := zz4 BK243))
    refine bodyPost_ret (results_cell_row rfl _ _ gb243 78 #[.int .i64 (wrap64 (1 + t244)), .int .i64 t246, .int .i64 (wrap64 (65536 - (wrap64 (t259 * 70000)))), .int .i64 t250] (0, 0) _ rfl (by refine kb_ ?_; refine pz4 (cs := #[.int .i64 0, .int .i64 0, .int .i64 0, .int .i64 0]) ?_; exact kf_ BK243.out) Try.underlying78 rfl (by kernel_rfl)) rfl ?_
    exact ⟨by first | rfl | (simp [errW_none, errW_some] <;> rfl) | (simp [*, errW_none, errW_some] <;> rfl), is73_ HI0.out, hb73_ HB.out, hkA_ HK.out⟩
 ·replace c8 := Bool.eq_false_iff.mpr c8
  subst c8
  rw [if_neg (show ¬ (false = true) by decide)] at H
  simp only [Option.some.injEq, Prod.mk.injEq] at H
  obtain ⟨rfl, rfl, rfl, rfl, rfl⟩ := H
  go_enter Try.func48, Try.ntmps48
  go_wp2_with (first | ((with_reducible refine gate_dst (N := 4) rfl ?_); refine box_ (N := 4) (cs := #[.int .i64 0, .int .i64 0, .int .i64 0, .int .i64 0]) (t := 78) (fun gb243 hg w58 hbox hb => ?_); replace HB := (bs73_ HB hb); have BK243 := Aside0.mk (hbox); have GW243 := gk_ hg HK; have GE243 := Aside0.mk ((Nat.le_trans HW0.out (by rw [hg]; exact (keep_size (w := w) (g := g) (row := none) (hkA_ HK.out)) : w.heap.size ≤ gb243) : w0.heap.size ≤ gb243)); replace HK := (kw_ HK hb); have NB0_243 := nl73_ hg HI0; have NB243_0 := ng73_ hg HI0; replace HI0 := (ib73_ HI0 hb); clear hb hbox hg) | ((with_reducible refine gate_callee (f := 23) rfl ?_); refine goesL_ (some 7) rfl rfl Try.func23 (by kernel_rfl) rfl #[.pointer (some ⟨g, 0, none⟩), .int .i64 2] rfl ar_ ?_; (with_reducible refine (spec_l20Rd_pick.calls k g s0_0 s0_1 2 t244 t245 w0 _ ?side1 ?side2 A3.out).mono ?_); (case side1 => exact is73_ HI0.out); (case side2 => exact hb73_ HB.out); rintro e w59 ⟨rfl, hi, hb, hk⟩; refine ⟨_, rfl, ?_⟩; replace BK243 := (bkA_ BK243 hk NB243_0); replace HK := (kk_ HK hk); replace HB := Aside0.mk (hb); replace HI0 := Aside0.mk (hi); (try clear hb); (try clear hb2); (try clear hk); (try clear hi)) | ((with_reducible refine gate_callee (f := 23) rfl ?_); refine goesL_ (some 10) rfl rfl Try.func23 (by kernel_rfl) rfl #[.pointer (some ⟨g, 0, none⟩), .int .i64 4] rfl ar_ ?_; (with_reducible refine (spec_l20Rd_pick.calls k g s0_0 t245 4 t246 t247 w0 _ ?side1 ?side2 A4.out).mono ?_); (case side1 => exact is73_ HI0.out); (case side2 => exact hb73_ HB.out); rintro e w60 ⟨rfl, hi, hb, hk⟩; refine ⟨_, rfl, ?_⟩; replace BK243 := (bkA_ BK243 hk NB243_0); replace HK := (kk_ HK hk); replace HB := Aside0.mk (hb); replace HI0 := Aside0.mk (hi); (try clear hb); (try clear hb2); (try clear hk); (try clear hi)) | ((with_reducible refine gate_callee (f := 23) rfl ?_); refine goesL_ (some 12) rfl rfl Try.func23 (by kernel_rfl) rfl #[.pointer (some ⟨g, 0, none⟩), .int .i64 6] rfl ar_ ?_; (with_reducible refine (spec_l20Rd_pick.calls k g s0_0 t247 6 t248 t249 w0 _ ?side1 ?side2 A5.out).mono ?_); (case side1 => exact is73_ HI0.out); (case side2 => exact hb73_ HB.out); rintro e w61 ⟨rfl, hi, hb, hk⟩; refine ⟨_, rfl, ?_⟩; replace BK243 := (bkA_ BK243 hk NB243_0); replace HK := (kk_ HK hk); replace HB := Aside0.mk (hb); replace HI0 := Aside0.mk (hi); (try clear hb); (try clear hb2); (try clear hk); (try clear hi)) | ((with_reducible refine gate_callee (f := 23) rfl ?_); refine goesL_ (some 14) rfl rfl Try.func23 (by kernel_rfl) rfl #[.pointer (some ⟨g, 0, none⟩), .int .i64 6] rfl ar_ ?_; (with_reducible refine (spec_l20Rd_pick.calls k g s0_0 t249 6 t250 t251 w0 _ ?side1 ?side2 A6.out).mono ?_); (case side1 => exact is73_ HI0.out); (case side2 => exact hb73_ HB.out); rintro e w62 ⟨rfl, hi, hb, hk⟩; refine ⟨_, rfl, ?_⟩; replace BK243 := (bkA_ BK243 hk NB243_0); replace HK := (kk_ HK hk); replace HB := Aside0.mk (hb); replace HI0 := Aside0.mk (hi); (try clear hb); (try clear hb2); (try clear hk); (try clear hi)) | ((with_reducible refine gate_dst (N := 5) rfl ?_); refine box_ (N := 5) (cs := #[.int .i64 0, .int .i64 0, .int .i64 0, .int .i64 0]) (t := 78) (fun gb252 hg w63 hbox hb => ?_); replace HB := (bs73_ HB hb); have BK252 := Aside0.mk (hbox); have GW252 := gk_ hg HK; have GE252 := Aside0.mk ((Nat.le_trans HW0.out (by rw [hg]; exact (keep_size (w := w) (g := g) (row := none) (hkA_ HK.out)) : w.heap.size ≤ gb252) : w0.heap.size ≤ gb252)); replace HK := (kw_ HK hb); have NB243_252 := nl_ hg BK243; have NB252_243 := ng_ hg BK243; replace BK243 := (bbA_ BK243 hb); have NB0_252 := nl73_ hg HI0; have NB252_0 := ng73_ hg HI0; replace HI0 := (ib73_ HI0 hb); clear hb hbox hg; have hnb64 := NB252_243.out; have hnc64 := NB243_252.out; have hnb65 := NB252_0.out; have hnc65 := NB0_252.out; have Z66 := zz4 BK252) | ((with_reducible refine gate_callee (f := 49) rfl ?_); refine goesL_ (some 18) rfl rfl Try.func49 (by kernel_rfl) rfl #[.pointer (some ⟨g, 0, none⟩), .int .i64 a1] rfl ar_ ?_; (with_reducible refine (spec_l20Rd_odd.calls k g s0_0 t251 a1 false t254 w0 _ ?side1 ?side2 A7.out).mono ?_); (case side1 => exact is73_ HI0.out); (case side2 => exact hb73_ HB.out); rintro e w67 ⟨rfl, hi, hb, hk⟩; refine ⟨_, rfl, ?_⟩; replace BK243 := Aside0.mk (KeepBut.blk hk (g' := gb243) (o := .cells #[.int .i64 0, .int .i64 0, .int .i64 0, .int .i64 0] 78 (0, 0)) (by exact kf_ BK243.out) NB243_0.out (by simp)); replace BK252 := Aside0.mk (KeepBut.blk hk (g' := gb252) (o := .cells #[.int .i64 (wrap64 (1 + t244)), .int .i64 t246, .int .i64 t248, .int .i64 t250] 78 (0, 0)) (by refine kb_ ?_; refine pz4 (cs := #[.int .i64 0, .int .i64 0, .int .i64 0, .int .i64 0]) ?_; refine kb_ ?_; exact BK252.out) NB252_0.out (by simp)); replace HK := (kk_ HK hk); replace HB := Aside0.mk (hb); replace HI0 := Aside0.mk (hi); (try clear hb); (try clear hb2); (try clear hk); (try clear hi); have Z68 := zz4 BK252; have hnb69 := NB243_0.out; have hnc69 := NB0_243.out; have Z70 := zz4 BK243))
  refine bodyPost_ret (results_cell_row rfl _ _ gb243 78 #[.int .i64 (wrap64 (1 + t244)), .int .i64 t246, .int .i64 t248, .int .i64 t250] (0, 0) _ rfl (by refine kb_ ?_; refine pz4 (cs := #[.int .i64 0, .int .i64 0, .int .i64 0, .int .i64 0]) ?_; refine kb_ ?_; exact BK243.out) Try.underlying78 rfl (by kernel_rfl)) rfl ?_
  exact ⟨by first | rfl | (simp [errW_none, errW_some] <;> rfl) | (simp [*, errW_none, errW_some] <;> rfl), is73_ HI0.out, hb73_ HB.out, hkA_ HK.out⟩
end Go.Proofs.Ytcbiljabpadaeaa.PFnNearSend
