/- Printed by wip/xp/xprint.sh out of the translation, for this claim: what each function answers, as a plain function, and that the machine does just that. No condition. -/
import Derived.Test.YtdoohdbfpnmndaaPFnNearHearx0
import Derived.Test.YtdoohdbfpnmndaaPFnNearHearx2
namespace Go.Proofs.Ytdoohdbfpnmndaa.PFnNearHear
open Go.RowKit Go.Proofs.YtdoohdbfpnmndaaW.PrintWords Go.Proofs.YtdoohdbfpnmndaaW.PrintLast Go.Proofs.YtdoohdbfpnmndaaW.PrintMore
attribute [local go_sem] max2_int min2_int max_two min_two max_three min_three max_four min_four   -- for this text's walks alone
set_option linter.unusedVariables false
set_option linter.unusedSimpArgs false
mutual
def spec_NearHear.j0 : Nat → Int → Int → List (List Int) → Bool → List (S63) → List (S65) → Int → Int → Int → Int → Option ((List (S63)) × (List (S65)) × (List (List Int)))
 | 0, _, _, _, _, _, _, _, _, _, _ => none
 | k + 1, x1, x3, x10, x28, x139000, x139001, x140000, x140001, x140002, x140003 => if x28 = true then (some (([] : List (S63)), ([] : List (S65)), x10)) else (spec_NearHear.l0 k x3 x10 (x140003 == x1) 0 x139000 x139001 x140000 x140001 x140002 x140003 ([] : List (S63)))
def spec_NearHear.l0 : Nat → Int → List (List Int) → Bool → Int → List (S63) → List (S65) → Int → Int → Int → Int → List (S63) → Option ((List (S63)) × (List (S65)) × (List (List Int)))
 | 0, _, _, _, _, _, _, _, _, _, _, _ => none
 | k + 1, x3, x10, x12, x13, x139000, x139001, x140000, x140001, x140002, x140003, x148000 => if x13 < (x139000.length : Int) then (if 0 ≤ x13 then (if ((rd_T63 x139000 x13).f0) = x140002 then (spec_NearHear.l0 k x3 x10 true (wrap64 (x13 + 1)) x139000 x139001 x140000 x140001 x140002 x140003 x148000) else (if x148000.length < 5864062014805 then (spec_NearHear.l0 k x3 x10 x12 (wrap64 (x13 + 1)) x139000 x139001 x140000 x140001 x140002 x140003 (x148000 ++ [(⟨(rd_T63 x139000 x13).f0, (rd_T63 x139000 x13).f1, (rd_T63 x139000 x13).f2⟩ : S63)])) else (none))) else (none)) else (spec_NearHear.l1 k x3 x10 x12 0 x139000 x139001 x140000 x140001 x140002 x140003 x148000 ([] : List (S65)))
def spec_NearHear.l1 : Nat → Int → List (List Int) → Bool → Int → List (S63) → List (S65) → Int → Int → Int → Int → List (S63) → List (S65) → Option ((List (S63)) × (List (S65)) × (List (List Int)))
 | 0, _, _, _, _, _, _, _, _, _, _, _, _ => none
 | k + 1, x3, x10, x12, x14, x139000, x139001, x140000, x140001, x140002, x140003, x148000, x148001 => if x14 < (x139001.length : Int) then (if 0 ≤ x14 then (if ((rd_T65 x139001 x14).f0) = x140002 then ((some (([] : List Int) : List Int)).bind fun y154 => (if y154.length + ((rd_T65 x139001 x14).f1).length < 140737488355328 then (if x10.length < 5864062014805 then (spec_NearHear.l1 k x3 (x10 ++ [(y154 ++ ((rd_T65 x139001 x14).f1))]) true (wrap64 (x14 + 1)) x139000 x139001 x140000 x140001 x140002 x140003 x148000 x148001) else (none)) else (none))) else ((some (([] : List Int) : List Int)).bind fun y165 => (if y165.length + ((rd_T65 x139001 x14).f1).length < 140737488355328 then (if x148001.length < 4398046511104 then (spec_NearHear.l1 k x3 x10 x12 (wrap64 (x14 + 1)) x139000 x139001 x140000 x140001 x140002 x140003 x148000 (x148001 ++ [(⟨(rd_T65 x139001 x14).f0, (y165 ++ ((rd_T65 x139001 x14).f1))⟩ : S65)])) else (none)) else (none)))) else (none)) else (if x12 = true then (if x148000.length < 5864062014805 then ((some (x148000 ++ [(⟨x140002, x140001, wrap64 (x3 + 20)⟩ : S63)] : List (S63))).bind fun y184 => (if (y184.length : Int) > 4 then (if 1 ≤ (y184.length : Int) then (some ((y184.drop (1 : Int).toNat), x148001, x10)) else (none)) else (some (y184, x148001, x10)))) else (none)) else ((spec_l3Copy.f k x139000 x139001).bind fun bt175 => (some (bt175.1, bt175.2, (([] : List (List Int)))))))
end
def spec_NearHear.f (k : Nat) (l0_0 : List (S63)) (l0_1 : List (S65)) (a1 : Int) (a2_0 : Int) (a2_1 : Int) (a2_2 : Int) (a2_3 : Int) (a3 : Int) : Option ((List (S63)) × (List (S65)) × (List (List Int))) := (some (([] : List (List Int)) : List (List Int))).bind fun y141 => ((spec_NearOk.f k l0_0 l0_1).bind fun t144 => (if t144 = true then ((spec_QueryOk.f a2_0 a2_1 a2_2 a2_3).bind fun t145 => (if t145 = true then ((spec_l1In.f a3 0 999980).bind fun t146 => (spec_NearHear.j0 k a1 a3 y141 (!t146) l0_0 l0_1 a2_0 a2_1 a2_2 a2_3)) else (spec_NearHear.j0 k a1 a3 y141 true l0_0 l0_1 a2_0 a2_1 a2_2 a2_3))) else (spec_NearHear.j0 k a1 a3 y141 true l0_0 l0_1 a2_0 a2_1 a2_2 a2_3)))
theorem spec_NearHear.mono_l : ∀ k, (∀ y0 y1 y2 y3 y4 y5 y6 y7 y8 y9, LeO (spec_NearHear.j0 k y0 y1 y2 y3 y4 y5 y6 y7 y8 y9) (spec_NearHear.j0 (k + 1) y0 y1 y2 y3 y4 y5 y6 y7 y8 y9)) ∧ (∀ y0 y1 y2 y3 y4 y5 y6 y7 y8 y9 y10, LeO (spec_NearHear.l0 k y0 y1 y2 y3 y4 y5 y6 y7 y8 y9 y10) (spec_NearHear.l0 (k + 1) y0 y1 y2 y3 y4 y5 y6 y7 y8 y9 y10)) ∧ (∀ y0 y1 y2 y3 y4 y5 y6 y7 y8 y9 y10 y11, LeO (spec_NearHear.l1 k y0 y1 y2 y3 y4 y5 y6 y7 y8 y9 y10 y11) (spec_NearHear.l1 (k + 1) y0 y1 y2 y3 y4 y5 y6 y7 y8 y9 y10 y11))
 | 0 => ⟨fun _ _ _ _ _ _ _ _ _ _ r h => by simp [spec_NearHear.j0] at h, fun _ _ _ _ _ _ _ _ _ _ _ r h => by simp [spec_NearHear.l0] at h, fun _ _ _ _ _ _ _ _ _ _ _ _ r h => by simp [spec_NearHear.l1] at h⟩
 | k + 1 => by
  obtain ⟨ih0, ih1, ih2⟩ := spec_NearHear.mono_l k
  refine ⟨?_, ?_, ?_⟩
  ·intro y0 y1 y2 y3 y4 y5 y6 y7 y8 y9
   unfold spec_NearHear.j0
   repeat' first | (with_reducible first | apply ih0 | apply ih1 | apply ih2 | apply spec_NearOk.mono | apply spec_l3Copy.mono | exact LeO.refl _ | exact LeO.none _ | refine LeO.ite ?_ ?_ | refine LeO.bind ?_ fun _ => ?_) | apply ih0 | apply ih1 | apply ih2 | apply spec_NearOk.mono | apply spec_l3Copy.mono | exact LeO.none _ | refine LeO.ite ?_ ?_ | refine LeO.bind ?_ fun _ => ?_
  ·intro y0 y1 y2 y3 y4 y5 y6 y7 y8 y9 y10
   unfold spec_NearHear.l0
   repeat' first | (with_reducible first | apply ih0 | apply ih1 | apply ih2 | apply spec_NearOk.mono | apply spec_l3Copy.mono | exact LeO.refl _ | exact LeO.none _ | refine LeO.ite ?_ ?_ | refine LeO.bind ?_ fun _ => ?_) | apply ih0 | apply ih1 | apply ih2 | apply spec_NearOk.mono | apply spec_l3Copy.mono | exact LeO.none _ | refine LeO.ite ?_ ?_ | refine LeO.bind ?_ fun _ => ?_
  ·intro y0 y1 y2 y3 y4 y5 y6 y7 y8 y9 y10 y11
   unfold spec_NearHear.l1
   repeat' first | (with_reducible first | apply ih0 | apply ih1 | apply ih2 | apply spec_NearOk.mono | apply spec_l3Copy.mono | exact LeO.refl _ | exact LeO.none _ | refine LeO.ite ?_ ?_ | refine LeO.bind ?_ fun _ => ?_) | apply ih0 | apply ih1 | apply ih2 | apply spec_NearOk.mono | apply spec_l3Copy.mono | exact LeO.none _ | refine LeO.ite ?_ ?_ | refine LeO.bind ?_ fun _ => ?_
theorem spec_NearHear.mono : ∀ a0 a1 a2 a3 a4 a5 a6 a7 k, LeO (spec_NearHear.f k a0 a1 a2 a3 a4 a5 a6 a7) (spec_NearHear.f (k + 1) a0 a1 a2 a3 a4 a5 a6 a7) := by
 intro a0 a1 a2 a3 a4 a5 a6 a7 k
 obtain ⟨ih0, ih1, ih2⟩ := spec_NearHear.mono_l k
 unfold spec_NearHear.f
 repeat' first | (with_reducible first | apply ih0 | apply ih1 | apply ih2 | apply spec_NearOk.mono | apply spec_l3Copy.mono | exact LeO.refl _ | exact LeO.none _ | refine LeO.ite ?_ ?_ | refine LeO.bind ?_ fun _ => ?_) | apply ih0 | apply ih1 | apply ih2 | apply spec_NearOk.mono | apply spec_l3Copy.mono | exact LeO.none _ | refine LeO.ite ?_ ?_ | refine LeO.bind ?_ fun _ => ?_
def spec_NearHear.T9 : Bool × List (List Nat × List Nat) := (true, [([], []), ([0], [0]), ([], []), ([1, 2], [1, 2]), ([3], [3]), ([4], [4]), ([], []), ([6], [6]), ([5, 7], [5, 7])])
def spec_NearHear.B9 : List Nat := [0, 1, 0, 7, 15, 31, 0, 64, 255]
theorem spec_NearHear.tab9 : rtab .any (opsOf Try.f7 9) = spec_NearHear.T9 := by kernel_rfl
theorem spec_NearHear.bits9 : waitsOk spec_NearHear.T9.2 spec_NearHear.B9 = true := by kernel_rfl
def spec_NearHear.T11 : Bool × List (List Nat × List Nat) := (true, [([], []), ([0], [0]), ([], []), ([2], [2]), ([], []), ([3, 4], [3, 4]), ([5], [5]), ([6], [6]), ([1, 7], [1, 7]), ([0, 1, 2, 3, 4, 5, 6, 7, 8], []), ([9, 8, 8, 0, 1, 2, 3, 4, 5, 6, 7, 8], [8, 9])])
def spec_NearHear.B11 : List Nat := [0, 1, 0, 4, 0, 28, 60, 124, 255, 511, 1023]
theorem spec_NearHear.tab11 : rtab .any (opsOf Try.f7 11) = spec_NearHear.T11 := by kernel_rfl
theorem spec_NearHear.bits11 : waitsOk spec_NearHear.T11.2 spec_NearHear.B11 = true := by kernel_rfl
def spec_NearHear.T15 : Bool × List (List Nat × List Nat) := (true, [([], []), ([0], [0]), ([], []), ([1, 2], [1, 2]), ([3], [3]), ([4], [4]), ([], []), ([6], [6]), ([5, 7], [5, 7])])
def spec_NearHear.B15 : List Nat := [0, 1, 0, 7, 15, 31, 0, 64, 255]
theorem spec_NearHear.tab15 : rtab .any (opsOf Try.f7 15) = spec_NearHear.T15 := by kernel_rfl
theorem spec_NearHear.bits15 : waitsOk spec_NearHear.T15.2 spec_NearHear.B15 = true := by kernel_rfl
def spec_NearHear.T18 : Bool × List (List Nat × List Nat) := (true, [([], []), ([0], [0]), ([], []), ([2], [2]), ([], []), ([3, 4], [3, 4]), ([5], [5]), ([6], [6]), ([], []), ([], []), ([9], [9]), ([], []), ([10, 11], [10, 11]), ([12], [12]), ([13], [13]), ([8, 14], [8, 14]), ([7, 15], [7, 15]), ([16], [16]), ([1, 17, 15], [1, 17]), ([0, 1, 2, 3, 4, 5, 6, 7, 8, 9, 10, 11, 12, 13, 14, 15, 16, 17, 18], []), ([19, 18, 18, 0, 1, 2, 3, 4, 5, 6, 7, 8, 9, 10, 11, 12, 13, 14, 15, 16, 17, 18], [18, 19])])
def spec_NearHear.B18 : List Nat := [0, 1, 0, 4, 0, 28, 60, 124, 0, 0, 512, 0, 3584, 7680, 15872, 32512, 65532, 131068, 262143, 524287, 1048575]
theorem spec_NearHear.tab18 : rtab .any (opsOf Try.f7 18) = spec_NearHear.T18 := by kernel_rfl
theorem spec_NearHear.bits18 : waitsOk spec_NearHear.T18.2 spec_NearHear.B18 = true := by kernel_rfl
set_option maxHeartbeats 8000000 in
set_option maxRecDepth 100000 in
theorem spec_NearHear.calls (k : Nat) (A0_0 : Option Addr) (c0_0 : Nat) (l0_0 : List (S63)) (A0_1 : Option Addr) (c0_1 : Nat) (l0_1 : List (S65)) (a1 : Int) (a2_0 : Int) (a2_1 : Int) (a2_2 : Int) (a2_3 : Int) (a3 : Int) (r1 : List (S63)) (r2 : List (S65)) (r3 : List (List Int)) (w : World) (hr0_0 : Kd.C k63 w A0_0 l0_0.length l0_0) (hc0_0 : l0_0.length ≤ c0_0) (hr0_1 : Kd.C k65 w A0_1 l0_1.length l0_1) (hc0_1 : l0_1.length ≤ c0_1) (h : spec_NearHear.f k l0_0 l0_1 a1 a2_0 a2_1 a2_2 a2_3 a3 = some (r1, r2, r3)) :
  Calls Try.prog 7 #[.agg #[.slice A0_0 l0_0.length c0_0, .slice A0_1 l0_1.length c0_1], .int .i64 a1, .agg #[.int .i64 a2_0, .int .i64 a2_1, .int .i64 a2_2, .int .i64 a2_3], .int .i64 a3] w fun e w' => ∃ v0_ v1_ v2_ : Value, e = .returned (.tuple #[.agg #[v0_, v1_], v2_]) ∧ Kd.Q k63 63 w' w.heap.size (fun _ => True) v0_ r1 ∧ Kd.S k65 65 w' w.heap.size (fun _ => True) v1_ r2 ∧ Kd.S (Kd.slice 5 (Kd.int .u8)) 44 w' w.heap.size (fun _ => True) v2_ r3 ∧ Below w.heap.size w w' := by
 have hu32 := Try.underlying32; have hu37 := Try.underlying37; have hu63 := Try.underlying63; have hu65 := Try.underlying65; have HR0_0 := Aside0.mk hr0_0; have HC0_0 := Aside0.mk hc0_0; clear hr0_0 hc0_0; have HR0_1 := Aside0.mk hr0_1; have HC0_1 := Aside0.mk hc0_1; clear hr0_1 hc0_1
 have HB := Aside0.mk (Below.refl w.heap.size w)
 have H : ((some (([] : List (List Int)) : List (List Int))).bind fun y141 => ((spec_NearOk.f k l0_0 l0_1).bind fun t144 => (if t144 = true then ((spec_QueryOk.f a2_0 a2_1 a2_2 a2_3).bind fun t145 => (if t145 = true then ((spec_l1In.f a3 0 999980).bind fun t146 => (spec_NearHear.j0 k a1 a3 y141 (!t146) l0_0 l0_1 a2_0 a2_1 a2_2 a2_3)) else (spec_NearHear.j0 k a1 a3 y141 true l0_0 l0_1 a2_0 a2_1 a2_2 a2_3))) else (spec_NearHear.j0 k a1 a3 y141 true l0_0 l0_1 a2_0 a2_1 a2_2 a2_3)))) = some (r1, r2, r3) := h
 clear h
 obtain ⟨y141, hy141⟩ : ∃ y_ : List (List Int), y_ = (([] : List (List Int))) := ⟨_, rfl⟩
 (first | replace H := sb_ hy141 H | rw [← hy141] at H)
 have Ny141 := Aside0.mk hy141; clear hy141; have HC5 := Aside0.mk H; clear H
 go_enter Try.func7, Try.ntmps7
 go_upto_region 2 with (first | ((with_reducible refine gate_dst (N := 4) rfl ?_); refine box_ (N := 4) (cs := #[.slice A0_0 l0_0.length c0_0, .slice A0_1 l0_1.length c0_1]) (t := 32) (fun gb138 hg w6 hbox hb => ?_); have BK138 := Aside0.mk (hbox); have GW138 := ge_ hg HB; have GE138 := ge_ hg HB; replace HB := (bs_ HB hb); clear hb hbox hg) | ((with_reducible refine gate_dst (N := 6) rfl ?_); refine box_ (N := 6) (cs := #[.int .i64 a2_0, .int .i64 a2_1, .int .i64 a2_2, .int .i64 a2_3]) (t := 37) (fun gb139 hg w7 hbox hb => ?_); have BK139 := Aside0.mk (hbox); have GW139 := ge_ hg HB; have GE139 := ge_ hg HB; replace HB := (bs_ HB hb); have NB138_139 := nl_ hg BK138; have NB139_138 := ng_ hg BK138; replace BK138 := (bbA_ BK138 hb); clear hb hbox hg) | ((with_reducible refine gate_dst (N := 8) rfl ?_); refine box_ (N := 8) (cs := #[.slice none 0 0, .slice none 0 0]) (t := 32) (fun gb140 hg w8 hbox hb => ?_); have BK140 := Aside0.mk (hbox); have GW140 := ge_ hg HB; have GE140 := ge_ hg HB; replace HB := (bs_ HB hb); have NB138_140 := nl_ hg BK138; have NB140_138 := ng_ hg BK138; replace BK138 := (bbA_ BK138 hb); have NB139_140 := nl_ hg BK139; have NB140_139 := ng_ hg BK139; replace BK139 := (bbA_ BK139 hb); clear hb hbox hg) | ((with_reducible refine gate_dst (N := 15) rfl ?_); refine Kd.S_lit (Kd.slice 5 (Kd.int .u8)) _ 44 ?hg (N := 15) ?hd (xs := ([] : List (List Int))) (inner := []) (ok := fun _ => True) (okp := fun _ => True) ?hr ?hp (fun _ hk => hk) trivial (Below.refl _ _) (Nat.le_refl _) (by simp) ?_; (case hd => rfl); (case hg => rfl); (case hr => first | (go_simp; done) | (go_simp; rfl)); (case hp => exact (Reps.none _ _)); intro v142 w9 ho10 hb hg_ hnew_; clear hg_ hnew_; (first | rw [← Ny141.out] at ho10 | (simp only [Int.reduceToNat] at ho10; rw [← Ny141.out] at ho10)); have HO143 := Aside0.mk (Kd.S_lower ho10 (below_size (hbA_ HB.out))); replace BK138 := (bbA_ BK138 hb); replace BK139 := (bbA_ BK139 hb); replace BK140 := (bbA_ BK140 hb); replace HB := (bs_ HB hb); clear hb ho10))
 (try simp only [Act.put, List.setIfInBounds_toArray, List.set_cons_zero, List.set_cons_succ])
 go_cut [28] (fun v28 wc => ∃ (kq : Nat) (x28_4 : Bool), v28 = .bool x28_4 ∧ Aside0 (spec_NearHear.j0 kq a1 a3 y141 x28_4 l0_0 l0_1 a2_0 a2_1 a2_2 a2_3 = some (r1, r2, r3)) ∧ Aside0 (kq ≤ k) ∧ Aside0 (Kd.S (Kd.slice 5 (Kd.int .u8)) 44 wc w.heap.size (fun _ => True) v142 y141) ∧ Aside0 (wc.heap[gb138]? = some (.cells #[(.slice A0_0 l0_0.length c0_0), (.slice A0_1 l0_1.length c0_1)] 32 (0, 0))) ∧ Aside0 (wc.heap[gb139]? = some (.cells #[.int .i64 a2_0, .int .i64 a2_1, .int .i64 a2_2, .int .i64 a2_3] 37 (0, 0))) ∧ Aside0 (wc.heap[gb140]? = some (.cells #[(.slice none 0 0), (.slice none 0 0)] 32 (0, 0))) ∧ Aside0 (Below w.heap.size w wc))
 case first =>
  have H := HC5.out; clear HC5
  replace H := Option.bind_eq_some_iff.mp H
  obtain ⟨t144, A110, H⟩ := H
  (try dsimp only at H)
  have A11 := Aside0.mk A110; clear A110
  by_cases c12 : t144 = true
  ·subst c12
   rw [if_pos rfl] at H
   replace H := Option.bind_eq_some_iff.mp H
   obtain ⟨t145, A130, H⟩ := H
   (try dsimp only at H)
   have A13 := Aside0.mk A130; clear A130
   by_cases c14 : t145 = true
   ·subst c14
    rw [if_pos rfl] at H
    replace H := Option.bind_eq_some_iff.mp H
    obtain ⟨t146, A150, H⟩ := H
    (try dsimp only at H)
    have A15 := Aside0.mk A150; clear A150
    have H' := Aside0.mk H
    clear H; have hnb16 := NB138_139.out; have hnc16 := NB139_138.out; have hnb17 := NB138_140.out; have hnc17 := NB140_138.out; have Z18 := zz2 BK138
    go_wp2_with (first | ((with_reducible refine gate_callee (f := 31) rfl ?_); refine goesL_ (some 17) rfl rfl Try.func31 (by kernel_rfl) rfl #[.agg #[.slice A0_0 l0_0.length c0_0, .slice A0_1 l0_1.length c0_1]] rfl ar_ ?_; (with_reducible refine (spec_NearOk.calls k _ _ l0_0 _ _ l0_1 true _ ?side1 ?side2 ?side3 ?side4 A11.out).mono ?_); (case side1 => exact kC_ (Kd.C_below HR0_0.out HB.out)); (case side2 => exact HC0_0.out); (case side3 => exact kC_ (Kd.C_below HR0_1.out HB.out)); (case side4 => exact HC0_1.out); rintro e w19 ⟨rfl, hb⟩; refine ⟨_, rfl, ?_⟩; replace HO143 := Aside0.mk (Kd.S_below (kS_ HO143.out) hb); replace BK138 := (bbA_ BK138 hb); replace BK139 := (bbA_ BK139 hb); replace BK140 := (bbA_ BK140 hb); replace HB := (bs_ HB hb); (try clear hb); (try clear hb2); (try clear hk); (try clear hi); have hnb20 := NB139_140.out; have hnc20 := NB140_139.out; have Z21 := zz4 BK139) | (go_at_call 32; (with_reducible refine (spec_QueryOk.calls a2_0 a2_1 a2_2 a2_3 true _ A13.out).mono ?_); rintro e w22 ⟨rfl, hb⟩; replace HO143 := Aside0.mk (Kd.S_below (kS_ HO143.out) hb); replace BK138 := (bbA_ BK138 hb); replace BK139 := (bbA_ BK139 hb); replace BK140 := (bbA_ BK140 hb); replace HB := (bs_ HB hb); (try clear hb); (try clear hb2); (try clear hk); (try clear hi)) | (go_at_call 33; (with_reducible refine (spec_l1In.calls a3 0 999980 t146 _ A15.out).mono ?_); rintro e w' ⟨rfl, ⟨nd, rfl⟩⟩))
    go_meet
    case rel => exact ⟨_, (!t146), (by first | rfl | (simp; done) | (simp [*]; done)), H', ⟨by first | omega | exact Nat.le_refl _⟩, ⟨by refine kS_ ?_; exact HO143.out⟩, ⟨by refine kb_ ?_; exact BK138.out⟩, ⟨by refine kb_ ?_; exact BK139.out⟩, ⟨by refine kb_ ?_; exact BK140.out⟩, ⟨hbA_ HB.out⟩⟩
   ·replace c14 := Bool.eq_false_iff.mpr c14
    subst c14
    rw [if_neg (show ¬ (false = true) by decide)] at H
    have H' := Aside0.mk H
    clear H; have hnb23 := NB138_139.out; have hnc23 := NB139_138.out; have hnb24 := NB138_140.out; have hnc24 := NB140_138.out; have Z25 := zz2 BK138
    go_wp2_with (first | ((with_reducible refine gate_callee (f := 31) rfl ?_); refine goesL_ (some 17) rfl rfl Try.func31 (by kernel_rfl) rfl #[.agg #[.slice A0_0 l0_0.length c0_0, .slice A0_1 l0_1.length c0_1]] rfl ar_ ?_; (with_reducible refine (spec_NearOk.calls k _ _ l0_0 _ _ l0_1 true _ ?side1 ?side2 ?side3 ?side4 A11.out).mono ?_); (case side1 => exact kC_ (Kd.C_below HR0_0.out HB.out)); (case side2 => exact HC0_0.out); (case side3 => exact kC_ (Kd.C_below HR0_1.out HB.out)); (case side4 => exact HC0_1.out); rintro e w26 ⟨rfl, hb⟩; refine ⟨_, rfl, ?_⟩; replace HO143 := Aside0.mk (Kd.S_below (kS_ HO143.out) hb); replace BK138 := (bbA_ BK138 hb); replace BK139 := (bbA_ BK139 hb); replace BK140 := (bbA_ BK140 hb); replace HB := (bs_ HB hb); (try clear hb); (try clear hb2); (try clear hk); (try clear hi); have hnb27 := NB139_140.out; have hnc27 := NB140_139.out; have Z28 := zz4 BK139) | (go_at_call 32; (with_reducible refine (spec_QueryOk.calls a2_0 a2_1 a2_2 a2_3 false _ A13.out).mono ?_); rintro e w29 ⟨rfl, hb⟩; replace HO143 := Aside0.mk (Kd.S_below (kS_ HO143.out) hb); replace BK138 := (bbA_ BK138 hb); replace BK139 := (bbA_ BK139 hb); replace BK140 := (bbA_ BK140 hb); replace HB := (bs_ HB hb); (try clear hb); (try clear hb2); (try clear hk); (try clear hi)))
    go_meet
    case rel => exact ⟨_, (true), (by first | rfl | (simp; done) | (simp [*]; done)), H', ⟨by first | omega | exact Nat.le_refl _⟩, ⟨by refine kS_ ?_; exact HO143.out⟩, ⟨by refine kb_ ?_; exact BK138.out⟩, ⟨by refine kb_ ?_; exact BK139.out⟩, ⟨by refine kb_ ?_; exact BK140.out⟩, ⟨hbA_ HB.out⟩⟩
  ·replace c12 := Bool.eq_false_iff.mpr c12
   subst c12
   rw [if_neg (show ¬ (false = true) by decide)] at H
   have H' := Aside0.mk H
   clear H; have hnb30 := NB138_139.out; have hnc30 := NB139_138.out; have hnb31 := NB138_140.out; have hnc31 := NB140_138.out; have Z32 := zz2 BK138
   go_wp2_with (first | ((with_reducible refine gate_callee (f := 31) rfl ?_); refine goesL_ (some 17) rfl rfl Try.func31 (by kernel_rfl) rfl #[.agg #[.slice A0_0 l0_0.length c0_0, .slice A0_1 l0_1.length c0_1]] rfl ar_ ?_; (with_reducible refine (spec_NearOk.calls k _ _ l0_0 _ _ l0_1 false _ ?side1 ?side2 ?side3 ?side4 A11.out).mono ?_); (case side1 => exact kC_ (Kd.C_below HR0_0.out HB.out)); (case side2 => exact HC0_0.out); (case side3 => exact kC_ (Kd.C_below HR0_1.out HB.out)); (case side4 => exact HC0_1.out); rintro e w33 ⟨rfl, hb⟩; refine ⟨_, rfl, ?_⟩; replace HO143 := Aside0.mk (Kd.S_below (kS_ HO143.out) hb); replace BK138 := (bbA_ BK138 hb); replace BK139 := (bbA_ BK139 hb); replace BK140 := (bbA_ BK140 hb); replace HB := (bs_ HB hb); (try clear hb); (try clear hb2); (try clear hk); (try clear hi)))
   go_meet
   case rel => exact ⟨_, (true), (by first | rfl | (simp; done) | (simp [*]; done)), H', ⟨by first | omega | exact Nat.le_refl _⟩, ⟨by refine kS_ ?_; exact HO143.out⟩, ⟨by refine kb_ ?_; exact BK138.out⟩, ⟨by refine kb_ ?_; exact BK139.out⟩, ⟨by refine kb_ ?_; exact BK140.out⟩, ⟨hbA_ HB.out⟩⟩
 case rest =>
  clear HC5; (try clear c1); (try clear c2); (try clear p2); (try clear c3); (try clear c7); (try clear c12); (try clear c14); (try clear c16); (try clear c17); (try clear c20); (try clear c23); (try clear c24); (try clear c27); (try clear c30); (try clear c31); (try clear Z18); (try clear Z21); (try clear Z25); (try clear Z28); (try clear Z32)
  obtain ⟨kq, x28_4, rfl, HA, HJ4, HO_10, BK138, BK139, BK140, HB⟩ := hcut
  cases kq with
  | zero => exact absurd HA.out (by simp [spec_NearHear.j0])
  | succ kj4 =>
   have H := HA.out; clear HA
   simp only [spec_NearHear.j0] at H
   by_cases c34 : x28_4 = true
   ·subst c34
    rw [if_pos rfl] at H
    simp only [Option.some.injEq, Prod.mk.injEq] at H
    obtain ⟨rfl, rfl, rfl⟩ := H
    have hnb35 := NB140_138.out; have hnc35 := NB138_140.out; have hnb36 := NB140_139.out; have hnc36 := NB139_140.out; have Z37 := zz2 BK140
    go_wp2
    refine bodyPost_ret (results_ct rfl _ _ gb140 32 #[.slice none 0 0, .slice none 0 0] (0, 0) _ rfl (by refine kb_ ?_; refine pz2 (cs := #[.slice none 0 0, .slice none 0 0]) ?_; refine kb_ ?_; exact BK140.out) Try.underlying32 rfl (by kernel_rfl)) rfl ?_
    exact ⟨_, _, _, by first | rfl | (simp [errW_none, errW_some] <;> rfl) | (simp [*, errW_none, errW_some] <;> rfl), Kd.Q_of_R (by first | exact Kd.R_nil _ _ _ _ _ | exact Kd.N_nil _ _ _ _ _ | exact Kd.V_nil _ _ _ _ _ | exact Kd.Q_nil _ _ _ _ _ | exact Kd.S_nil _ _ _ _ _), by first | exact Kd.S_nil _ _ _ _ _ | exact Kd.N_nil _ _ _ _ _ | exact Kd.V_nil _ _ _ _ _ | exact Kd.Q_nil _ _ _ _ _ | exact Kd.R_nil _ _ _ _ _, by refine kS_ ?_; exact Kd.S_mono (Kd.S_far (p := ⟨gb140, 1, none⟩) (Kd.S_far (p := ⟨gb140, 0, none⟩) (Kd.S_types HO_10.out BK140.out (by decide)) (fun _ hk => hk.2) (.slice none 0 0)) (fun _ hk => hk.2) (.slice none 0 0)) (fun _ hk => trivial), hbA_ HB.out⟩
   ·replace c34 := Bool.eq_false_iff.mpr c34
    subst c34
    rw [if_neg (show ¬ (false = true) by decide)] at H
    have H' := Aside0.mk H
    clear H
    go_wp2_with (first | ((with_reducible refine gate_dst (N := 11) rfl ?_); refine box_ (N := 11) (cs := #[.slice none 0 0, .slice none 0 0]) (t := 32) (fun gb147 hg w38 hbox hb => ?_); replace HO_10 := Aside0.mk (Kd.S_below (kS_ HO_10.out) hb); have BK147 := Aside0.mk (hbox); have GW147 := ge_ hg HB; have GE147 := ge_ hg HB; replace HB := (bs_ HB hb); have NB138_147 := nl_ hg BK138; have NB147_138 := ng_ hg BK138; replace BK138 := (bbA_ BK138 hb); have NB139_147 := nl_ hg BK139; have NB147_139 := ng_ hg BK139; replace BK139 := (bbA_ BK139 hb); have NB140_147 := nl_ hg BK140; have NB147_140 := ng_ hg BK140; replace BK140 := (bbA_ BK140 hb); clear hb hbox hg; have hnb39 := NB147_138.out; have hnc39 := NB138_147.out; have hnb40 := NB147_139.out; have hnc40 := NB139_147.out; have hnb41 := NB147_140.out; have hnc41 := NB140_147.out; have Z42 := zz2 BK147; have hnb43 := NB139_138.out; have hnc43 := NB138_139.out; have hnb44 := NB139_140.out; have hnc44 := NB140_139.out; have Z45 := zz4 BK139))
    go_loopg [12, 13] kj4 (fun kq v12 v13 w' => ∃ (x12_2 : Bool) (x13_2 : Int) (x148000_2 : List (S63)) (u148000 : Value), v12 = .bool x12_2 ∧ v13 = .int .i64 x13_2 ∧ Aside0 (spec_NearHear.l0 kq a3 y141 x12_2 x13_2 l0_0 l0_1 a2_0 a2_1 a2_2 a2_3 x148000_2 = some (r1, r2, r3)) ∧ Aside0 (kq ≤ kj4) ∧ Aside0 (Kd.S (Kd.slice 5 (Kd.int .u8)) 44 w' w.heap.size (fun _ => True) v142 y141) ∧ Aside0 (Kd.Q k63 63 w' w.heap.size (fun _ => True) u148000 x148000_2) ∧ Aside0 (w'.heap[gb138]? = some (.cells #[(.slice A0_0 l0_0.length c0_0), (.slice A0_1 l0_1.length c0_1)] 32 (0, 0))) ∧ Aside0 (w'.heap[gb139]? = some (.cells #[.int .i64 a2_0, .int .i64 a2_1, .int .i64 a2_2, .int .i64 a2_3] 37 (0, 0))) ∧ Aside0 (w'.heap[gb140]? = some (.cells #[(.slice none 0 0), (.slice none 0 0)] 32 (0, 0))) ∧ Aside0 (w'.heap[gb147]? = some (.cells #[u148000, (.slice none 0 0)] 32 (0, 0))) ∧ Aside0 (Below w.heap.size w w'))
    case atStart => exact ⟨((a2_3 == a1)), (0), (([] : List (S63))), (.slice none 0 0), (by first | rfl | (simp; done) | (simp [*]; done)), (by first | rfl | (simp; done) | (simp [*]; done)), H', ⟨Nat.le_refl _⟩, ⟨by refine kS_ ?_; exact Kd.S_mono (Kd.S_far (p := ⟨gb147, 1, none⟩) (Kd.S_far (p := ⟨gb147, 0, none⟩) (Kd.S_types HO_10.out BK147.out (by decide)) (fun _ hk => hk.2) (.slice none 0 0)) (fun _ hk => hk.2) (.slice none 0 0)) (fun _ hk => trivial)⟩, ⟨Kd.Q_of_R (by first | exact Kd.R_nil _ _ _ _ _ | exact Kd.N_nil _ _ _ _ _ | exact Kd.V_nil _ _ _ _ _ | exact Kd.Q_nil _ _ _ _ _ | exact Kd.S_nil _ _ _ _ _)⟩, ⟨by exact kf_ BK138.out⟩, ⟨by exact kf_ BK139.out⟩, ⟨by exact kf_ BK140.out⟩, ⟨by refine kb_ ?_; refine pz2 (cs := #[.slice none 0 0, .slice none 0 0]) ?_; refine kb_ ?_; exact BK147.out⟩, ⟨hbA_ HB.out⟩⟩
    case round =>
     clear H'; (try clear c1); (try clear c2); (try clear p2); (try clear c3); (try clear c4); (try clear c7); (try clear c12); (try clear c14); (try clear c16); (try clear c17); (try clear c20); (try clear c23); (try clear c24); (try clear c27); (try clear c30); (try clear c31); (try clear c34); (try clear c35); (try clear c36); (try clear c39); (try clear c40); (try clear c41); (try clear c43); (try clear c44); (try clear Z18); (try clear Z21); (try clear Z25); (try clear Z28); (try clear Z32); (try clear Z37); (try clear Z42); (try clear Z45); (try clear p2)
     obtain ⟨x12_2, x13_2, x148000_2, u148000, rfl, rfl, HA, HK2, HO_10, HO_148000, BK138, BK139, BK140, BK147, HB⟩ := hrel
     cases gk with
     | zero => exact absurd HA.out (by simp [spec_NearHear.l0])
     | succ k2 =>
      have H := HA.out; clear HA
      simp only [spec_NearHear.l0] at H
      by_cases c46 : x13_2 < (l0_0.length : Int)
      ·rw [if_pos c46] at H
       have c46b0 : decide (x13_2 < (l0_0.length : Int)) = true := decide_eq_true c46
       clear c46
       by_cases c47 : 0 ≤ x13_2
       ·rw [if_pos c47] at H
        have c47b0 : decide (0 ≤ x13_2) = true := decide_eq_true c47
        clear c47
        by_cases c48 : ((rd_T63 l0_0 x13_2).f0) = a2_2
        ·rw [if_pos c48] at H
         have c48b0 : (((rd_T63 l0_0 x13_2).f0) == a2_2) = true := beq_iff_eq.mpr c48
         have c48b1 : (((rd_T63 l0_0 x13_2).f0) != a2_2) = false := bne_eq_false_iff_eq.mpr c48
         clear c48
         have H' := Aside0.mk H
         clear H; have hnb49 := NB138_139.out; have hnc49 := NB139_138.out; have hnb50 := NB138_140.out; have hnc50 := NB140_138.out; have hnb51 := NB138_147.out; have hnc51 := NB147_138.out; have Z52 := zz2 BK138
         try go_wp2
         replace HO_10 := Aside0.mk (Kd.S_drew HO_10.out); replace HO_148000 := Aside0.mk (Kd.Q_drew HO_148000.out); replace BK138 := Aside0.mk (blk_drew BK138.out); replace BK139 := Aside0.mk (blk_drew BK139.out); replace BK140 := Aside0.mk (blk_drew BK140.out); replace BK147 := Aside0.mk (blk_drew BK147.out); replace HB := (bd_ HB)
         have p148 : 0 ≤ (x13_2 : Int) := of_decide_eq_true (by first | (with_reducible assumption) | assumption)
         have q148 : x13_2 < (l0_0.length : Int) := of_decide_eq_true (by first | (with_reducible assumption) | assumption)
         obtain ⟨ad148, e148, hx148_0, hx148_1, hx148_2⟩ := at_T63 HR0_0.out x13_2 p148 q148
         have hw148_2 := hx148_2; have hw148_1 := hx148_1; have hw148_0 := hx148_0
         cases e148
         replace hx148_0 := cc_ HB hx148_0
         replace hx148_1 := cc_ HB hx148_1
         replace hx148_2 := cc_ HB hx148_2
         replace p148 := eq_true p148
         replace q148 := eq_true q148
         refine start_ (n := 9) (S := fun w' => w'.cell? ⟨gb138, 0, none⟩ = some (.slice (some ad148) l0_0.length c0_0) ∧ w'.cell? ⟨gb138, 1, none⟩ = some (.slice A0_1 l0_1.length c0_1) ∧ w'.cell? ⟨gb139, 0, none⟩ = some (.int .i64 a2_0) ∧ w'.cell? ⟨gb139, 1, none⟩ = some (.int .i64 a2_1) ∧ w'.cell? ⟨gb139, 2, none⟩ = some (.int .i64 a2_2) ∧ w'.cell? ⟨gb139, 3, none⟩ = some (.int .i64 a2_3) ∧ w'.cell? (ad148.add ((x13_2).toNat * 3)) = some (.int .i64 ((rd_T63 l0_0 x13_2).f0)) ∧ w'.cell? ⟨(ad148.add ((x13_2).toNat * 3)).block, (ad148.add ((x13_2).toNat * 3)).off + 1, none⟩ = some (.int .i64 ((rd_T63 l0_0 x13_2).f1)) ∧ w'.cell? ⟨(ad148.add ((x13_2).toNat * 3)).block, (ad148.add ((x13_2).toNat * 3)).off + 2, none⟩ = some (.int .i64 ((rd_T63 l0_0 x13_2).f2))) (ds := []) #[false, false, false, false, false, false, false, false, false] (by kernel_rfl) rfl rfl ⟨bc_ BK138 0, bc_ BK138 1, bc_ BK139 0, bc_ BK139 1, bc_ BK139 2, bc_ BK139 3, (cc_ HB hw148_0), (cc_ HB hw148_1), (cc_ HB hw148_2)⟩ (fun hHeld => ?_); refine with_tabW spec_NearHear.tab9 spec_NearHear.bits9 (fun HT_ HW_ => ?_)
         generalize wr.drew = w53 at HO_10 HO_148000 BK138 BK139 BK140 BK147 HB hx148_0 hx148_1 hx148_2 hHeld ⊢
         refine pu_ (i := 0) (N := some 43) HT_ ?_; refine pu_ (i := 2) (N := some 45) HT_ ?_; refine pu_ (i := 6) (N := some 49) HT_ ?_; refine tk_ (i := 1) (N := some 44) HT_ HW_ hHeld ?_; refine pu_ (i := 3) (N := some 46) HT_ ?_; refine pu_ (i := 4) (N := some 47) HT_ ?_; refine tk_ (i := 5) (N := some 48) HT_ HW_ hHeld ?_; refine tk_ (i := 7) (N := some 50) HT_ HW_ hHeld ?_; refine pu_ (i := 8) (N := some 51) HT_ ?_
         refine done_ (done_of HT_.out (by kernel_rfl)) ?_
         try go_wp2
         go_roundg k2
         case measure => have := HJ4.out; have := HK2.out; omega
         case rel => exact ⟨(true), (wrap64 (x13_2 + 1)), (x148000_2), (u148000), (by first | rfl | (simp; done) | (simp [*]; done)), (by first | rfl | (simp; done) | (simp [*]; done)), H', ⟨by have := HJ4.out; have := HK2.out; omega⟩, ⟨by refine kS_ ?_; exact HO_10.out⟩, ⟨by (with_reducible repeat (first | apply Kd.Q_alloc | apply Kd.Q_drewN | apply Kd.Q_drew)); exact HO_148000.out⟩, ⟨by refine kb_ ?_; exact BK138.out⟩, ⟨by refine kb_ ?_; exact BK139.out⟩, ⟨by refine kb_ ?_; exact BK140.out⟩, ⟨by refine kb_ ?_; exact BK147.out⟩, ⟨hbA_ HB.out⟩⟩
        ·rw [if_neg c48] at H
         have c48b0 : (((rd_T63 l0_0 x13_2).f0) == a2_2) = false := beq_eq_false_iff_ne.mpr c48
         have c48b1 : (((rd_T63 l0_0 x13_2).f0) != a2_2) = true := bne_iff_ne.mpr c48
         by_cases c54 : x148000_2.length < 5864062014805
         ·rw [if_pos c54] at H
          have LMc54 := Aside0.mk c54; clear c54
          obtain ⟨y150, hy150⟩ : ∃ y_ : List (S63), y_ = (x148000_2 ++ [(⟨(rd_T63 l0_0 x13_2).f0, (rd_T63 l0_0 x13_2).f1, (rd_T63 l0_0 x13_2).f2⟩ : S63)]) := ⟨_, rfl⟩
          (first | replace H := sb_ hy150 H | rw [← hy150] at H)
          have Ny150 := Aside0.mk hy150; clear hy150
          have H' := Aside0.mk H
          clear H; have hnb55 := NB138_139.out; have hnc55 := NB139_138.out; have hnb56 := NB138_140.out; have hnc56 := NB140_138.out; have hnb57 := NB138_147.out; have hnc57 := NB147_138.out; have Z58 := zz2 BK138
          try go_wp2
          replace HO_10 := Aside0.mk (Kd.S_drew HO_10.out); replace HO_148000 := Aside0.mk (Kd.Q_drew HO_148000.out); replace BK138 := Aside0.mk (blk_drew BK138.out); replace BK139 := Aside0.mk (blk_drew BK139.out); replace BK140 := Aside0.mk (blk_drew BK140.out); replace BK147 := Aside0.mk (blk_drew BK147.out); replace HB := (bd_ HB)
          have p148 : 0 ≤ (x13_2 : Int) := of_decide_eq_true (by first | (with_reducible assumption) | assumption)
          have q148 : x13_2 < (l0_0.length : Int) := of_decide_eq_true (by first | (with_reducible assumption) | assumption)
          obtain ⟨ad148, e148, hx148_0, hx148_1, hx148_2⟩ := at_T63 HR0_0.out x13_2 p148 q148
          have hw148_2 := hx148_2; have hw148_1 := hx148_1; have hw148_0 := hx148_0
          cases e148
          replace hx148_0 := cc_ HB hx148_0
          replace hx148_1 := cc_ HB hx148_1
          replace hx148_2 := cc_ HB hx148_2
          replace p148 := eq_true p148
          replace q148 := eq_true q148
          refine start_ (n := 9) (S := fun w' => w'.cell? ⟨gb138, 0, none⟩ = some (.slice (some ad148) l0_0.length c0_0) ∧ w'.cell? ⟨gb138, 1, none⟩ = some (.slice A0_1 l0_1.length c0_1) ∧ w'.cell? ⟨gb139, 0, none⟩ = some (.int .i64 a2_0) ∧ w'.cell? ⟨gb139, 1, none⟩ = some (.int .i64 a2_1) ∧ w'.cell? ⟨gb139, 2, none⟩ = some (.int .i64 a2_2) ∧ w'.cell? ⟨gb139, 3, none⟩ = some (.int .i64 a2_3) ∧ w'.cell? (ad148.add ((x13_2).toNat * 3)) = some (.int .i64 ((rd_T63 l0_0 x13_2).f0)) ∧ w'.cell? ⟨(ad148.add ((x13_2).toNat * 3)).block, (ad148.add ((x13_2).toNat * 3)).off + 1, none⟩ = some (.int .i64 ((rd_T63 l0_0 x13_2).f1)) ∧ w'.cell? ⟨(ad148.add ((x13_2).toNat * 3)).block, (ad148.add ((x13_2).toNat * 3)).off + 2, none⟩ = some (.int .i64 ((rd_T63 l0_0 x13_2).f2))) (ds := []) #[false, false, false, false, false, false, false, false, false] (by kernel_rfl) rfl rfl ⟨bc_ BK138 0, bc_ BK138 1, bc_ BK139 0, bc_ BK139 1, bc_ BK139 2, bc_ BK139 3, (cc_ HB hw148_0), (cc_ HB hw148_1), (cc_ HB hw148_2)⟩ (fun hHeld => ?_); refine with_tabW spec_NearHear.tab9 spec_NearHear.bits9 (fun HT_ HW_ => ?_)
          generalize wr.drew = w59 at HO_10 HO_148000 BK138 BK139 BK140 BK147 HB hx148_0 hx148_1 hx148_2 hHeld ⊢
          refine pu_ (i := 0) (N := some 43) HT_ ?_; refine pu_ (i := 2) (N := some 45) HT_ ?_; refine pu_ (i := 6) (N := some 49) HT_ ?_; refine tk_ (i := 1) (N := some 44) HT_ HW_ hHeld ?_; refine pu_ (i := 3) (N := some 46) HT_ ?_; refine pu_ (i := 4) (N := some 47) HT_ ?_; refine tk_ (i := 5) (N := some 48) HT_ HW_ hHeld ?_; refine tk_ (i := 7) (N := some 50) HT_ HW_ hHeld ?_; refine pu_ (i := 8) (N := some 51) HT_ ?_
          refine done_ (done_of HT_.out (by kernel_rfl)) ?_
          try go_wp2
          replace HO_10 := Aside0.mk (Kd.S_drew HO_10.out); replace HO_148000 := Aside0.mk (Kd.Q_drew HO_148000.out); replace BK138 := Aside0.mk (blk_drew BK138.out); replace BK139 := Aside0.mk (blk_drew BK139.out); replace BK140 := Aside0.mk (blk_drew BK140.out); replace BK147 := Aside0.mk (blk_drew BK147.out); replace HB := (bd_ HB)
          have p149 : 0 ≤ (x13_2 : Int) := of_decide_eq_true (by first | (with_reducible assumption) | assumption)
          have q149 : x13_2 < (l0_0.length : Int) := of_decide_eq_true (by first | (with_reducible assumption) | assumption)
          obtain ⟨ad149, e149, hx149_0, hx149_1, hx149_2⟩ := at_T63 HR0_0.out x13_2 p149 q149
          have hw149_2 := hx149_2; have hw149_1 := hx149_1; have hw149_0 := hx149_0
          obtain rfl : ad148 = ad149 := (by injection e149)
          replace hx149_0 := cc_ HB hx149_0
          replace hx149_1 := cc_ HB hx149_1
          replace hx149_2 := cc_ HB hx149_2
          replace p149 := eq_true p149
          replace q149 := eq_true q149
          refine start_ (n := 11) (S := fun w' => w'.cell? ⟨gb147, 0, none⟩ = some (u148000) ∧ w'.cell? ⟨gb147, 1, none⟩ = some (.slice none 0 0) ∧ w'.cell? ⟨gb138, 0, none⟩ = some (.slice (some ad148) l0_0.length c0_0) ∧ w'.cell? ⟨gb138, 1, none⟩ = some (.slice A0_1 l0_1.length c0_1) ∧ w'.cell? (ad148.add ((x13_2).toNat * 3)) = some (.int .i64 ((rd_T63 l0_0 x13_2).f0)) ∧ w'.cell? ⟨(ad148.add ((x13_2).toNat * 3)).block, (ad148.add ((x13_2).toNat * 3)).off + 1, none⟩ = some (.int .i64 ((rd_T63 l0_0 x13_2).f1)) ∧ w'.cell? ⟨(ad148.add ((x13_2).toNat * 3)).block, (ad148.add ((x13_2).toNat * 3)).off + 2, none⟩ = some (.int .i64 ((rd_T63 l0_0 x13_2).f2))) (ds := [10]) #[false, false, false, false, false, false, false, false, false, false, false] (by kernel_rfl) rfl rfl ⟨bc_ BK147 0, bc_ BK147 1, bc_ BK138 0, bc_ BK138 1, (cc_ HB hw149_0), (cc_ HB hw149_1), (cc_ HB hw149_2)⟩ (fun hHeld => ?_); refine with_tabW spec_NearHear.tab11 spec_NearHear.bits11 (fun HT_ HW_ => ?_)
          generalize w59.drew = w60 at HO_10 HO_148000 BK138 BK139 BK140 BK147 HB hx149_0 hx149_1 hx149_2 hHeld ⊢
          refine pu_ (i := 0) (N := some 52) HT_ ?_; refine pu_ (i := 2) (N := some 54) HT_ ?_; refine pu_ (i := 4) (N := some 56) HT_ ?_; refine tk_ (i := 1) (N := some 53) HT_ HW_ hHeld ?_; refine tk_ (i := 3) (N := some 55) HT_ HW_ hHeld ?_; refine pu_ (i := 5) (N := some 57) HT_ ?_; refine tk_ (i := 6) (N := some 58) HT_ HW_ hHeld ?_
          refine on_ (i := 7) (N := some 59) HT_ (fun K hK => ?_)
          refine value_ (w1 := ?_) (v := ?_) (by rfl) rfl ?_ ?_
          rotate_left 2
          ·go_simp
           constructor
           ·rfl
           ·rfl
          refine hK.out _ _ ⟨(blk_cell (blk_alloc BK147.out _) 0).trans rfl, (blk_cell (blk_alloc BK147.out _) 1).trans rfl, (blk_cell (blk_alloc BK138.out _) 0).trans rfl, (blk_cell (blk_alloc BK138.out _) 1).trans rfl, (World.cell?_alloc_lt _ _ _ (World.block_lt_of_cell? _ _ ((by first | exact cc_ HB hw149_0 | exact cc_ ⟨hbA_ HB.out⟩ hw149_0)))).trans ((by first | exact cc_ HB hw149_0 | exact cc_ ⟨hbA_ HB.out⟩ hw149_0)), (World.cell?_alloc_lt _ _ _ (World.block_lt_of_cell? _ _ ((by first | exact cc_ HB hw149_1 | exact cc_ ⟨hbA_ HB.out⟩ hw149_1)))).trans ((by first | exact cc_ HB hw149_1 | exact cc_ ⟨hbA_ HB.out⟩ hw149_1)), (World.cell?_alloc_lt _ _ _ (World.block_lt_of_cell? _ _ ((by first | exact cc_ HB hw149_2 | exact cc_ ⟨hbA_ HB.out⟩ hw149_2)))).trans ((by first | exact cc_ HB hw149_2 | exact cc_ ⟨hbA_ HB.out⟩ hw149_2))⟩ (fun hHeld => ?_)
          clear hK K; refine nm_ 59 ?_
          refine on_ (i := 8) (N := some 60) HT_ (fun K hK => ?_)
          refine Kd.Q_append_step k63 (w0 := w) w.heap.size (by rfl) (.tmp 53) (.tmp 59) 29 63 (.agg #[(.int .i64 0), (.int .i64 0), (.int .i64 0)]) 24 rfl Try.underlying29 info63 rfl (by decide) (by omega) u148000 x148000_2 (⟨(rd_T63 l0_0 x13_2).f0, (rd_T63 l0_0 x13_2).f1, (rd_T63 l0_0 x13_2).f2⟩ : S63) [.int .i64 ((rd_T63 l0_0 x13_2).f0), .int .i64 ((rd_T63 l0_0 x13_2).f1), .int .i64 ((rd_T63 l0_0 x13_2).f2)] (fun _ => True) (fun _ => False) rfl rfl ?aP (fun _ hk => hk.elim) ?aF ?aO ?aB ?aS ?aL ?_
          (case aP => exact k63_mkM _ _ _ (⟨(rd_T63 l0_0 x13_2).f0, (rd_T63 l0_0 x13_2).f1, (rd_T63 l0_0 x13_2).f2⟩ : S63))
          (case aB => exact (hbA_ HB.out))
          (case aF => exact (fun _ _ => trivial))
          (case aO => exact (by (with_reducible repeat (first | apply Kd.Q_alloc | apply Kd.Q_drewN | apply Kd.Q_drew)); exact HO_148000.out))
          (case aS => exact (below_size (hbA_ HB.out)))
          (case aL => have := LMc54.out; omega)
          intro v151 w61 ho hb hg hat
          rw [← Ny150.out] at ho
          have n0_ := Aside0.mk (Kd.S_over' (kS_ HO_10.out) (Kd.Q_typed (by (with_reducible repeat (first | apply Kd.Q_alloc | apply Kd.Q_drewN | apply Kd.Q_drew)); exact HO_148000.out)) (by decide) hg); have n1_ := (bgA_ BK138 hg (Kd.Q_ne HO_148000.out BK138.out (by decide))); have n2_ := (bgA_ BK139 hg (Kd.Q_ne HO_148000.out BK139.out (by decide))); have n3_ := (bgA_ BK140 hg (Kd.Q_ne HO_148000.out BK140.out (by decide))); have n4_ := (bgA_ BK147 hg (Kd.Q_ne HO_148000.out BK147.out (by decide))); have n5_ := Aside0.mk (hb); have n6_ := Aside0.mk (ho); clear HO_10 BK138 BK139 BK140 BK147 HB HO_148000; have HO_10 := n0_; have BK138 := n1_; have BK139 := n2_; have BK140 := n3_; have BK147 := n4_; have HB := n5_; have HO152 := n6_; clear n0_ n1_ n2_ n3_ n4_ n5_ n6_ ho hb hg hat
          obtain ⟨Ao62, co62, eo62, _⟩ := Kd.Q_slice HO152.out
          (first | subst eo62 | (injection eo62 with f1_ f2_ f3_; have f4_ := f1_.symm; have f5_ := f3_.symm; clear f1_ f2_ f3_; subst f4_; subst f5_))
          refine hK.out _ _ ⟨bc_ BK147 0, bc_ BK147 1, bc_ BK138 0, bc_ BK138 1, (by first | exact cc_ HB hw149_0 | exact cc_ ⟨hbA_ HB.out⟩ hw149_0), (by first | exact cc_ HB hw149_1 | exact cc_ ⟨hbA_ HB.out⟩ hw149_1), (by first | exact cc_ HB hw149_2 | exact cc_ ⟨hbA_ HB.out⟩ hw149_2)⟩ (fun hHeld => ?_)
          clear hK K; refine nm_ 60 ?_; refine pu_ (i := 9) (N := some 61) HT_ ?_
          refine last_ (i := 10) (N := none) #[true, true, true, true, true, true, true, true, true, true, true] rfl rfl (one_of HT_.out (by kernel_rfl)) (by decide) (fun K hK => ?_)
          have hs63 : w61.cell? ⟨gb147, 0, none⟩ = some (u148000) := bc_ BK147 0
          have hfs63 := blk_frozen BK147.out 0
          have hns63_0 := NB138_147.out; have hns63_1 := NB139_147.out; have hns63_2 := NB140_147.out; have hms63_0 := NB147_138.out; have hms63_1 := NB147_139.out; have hms63_2 := NB147_140.out
          refine skip_ (w1 := ?_) (by rfl) rfl ?_ ?_
          rotate_left
          ·go_simp
           rfl
          refine hK.out _ _ ?_
          clear hK K
          refine done_ (done_of HT_.out (by kernel_rfl)) ?_
          try go_wp2
          go_roundg k2
          case measure => have := HJ4.out; have := HK2.out; omega
          case rel => exact ⟨(x12_2), (wrap64 (x13_2 + 1)), (y150), (.slice Ao62 y150.length co62), (by first | rfl | (simp; done) | (simp [*]; done)), (by first | rfl | (simp; done) | (simp [*]; done)), H', ⟨by have := HJ4.out; have := HK2.out; omega⟩, ⟨by refine kS_ ?_; exact Kd.S_mono (Kd.S_far (p := ⟨gb147, 0, none⟩) (Kd.S_types HO_10.out BK147.out (by decide)) (fun _ hk => hk.2) (.slice Ao62 y150.length co62)) (fun _ hk => trivial)⟩, ⟨by (with_reducible repeat (first | apply Kd.Q_alloc | apply Kd.Q_drewN | apply Kd.Q_drew)); exact Kd.Q_mono (Kd.Q_far (p := ⟨gb147, 0, none⟩) (Kd.Q_types HO152.out BK147.out (by decide)) (fun _ hk => hk.2) (.slice Ao62 y150.length co62)) (fun _ hk => trivial)⟩, ⟨by exact kf_ BK138.out⟩, ⟨by exact kf_ BK139.out⟩, ⟨by exact kf_ BK140.out⟩, ⟨by refine kb_ ?_; refine blk_put (cs := #[u148000, .slice none 0 0]) ?_ 0 _ rfl; refine kb_ ?_; exact BK147.out⟩, ⟨hbA_ HB.out⟩⟩
         ·rw [if_neg c54] at H
          exact absurd H (by simp)
       ·rw [if_neg c47] at H
        exact absurd H (by simp)
      ·rw [if_neg c46] at H
       have c46b0 : decide (x13_2 < (l0_0.length : Int)) = false := decide_eq_false c46
       clear c46
       have H' := Aside0.mk H
       clear H; have hnb64 := NB138_139.out; have hnc64 := NB139_138.out; have hnb65 := NB138_140.out; have hnc65 := NB140_138.out; have hnb66 := NB138_147.out; have hnc66 := NB147_138.out; have Z67 := zz2 BK138
       go_wp2
       go_loopg [10, 12, 14] k2 (fun kq v10 v12 v14 w' => ∃ (x10_3 : List (List Int)) (x12_3 : Bool) (x14_3 : Int) (x148001_3 : List (S65)) (u148001 : Value), v12 = .bool x12_3 ∧ v14 = .int .i64 x14_3 ∧ Aside0 (spec_NearHear.l1 kq a3 x10_3 x12_3 x14_3 l0_0 l0_1 a2_0 a2_1 a2_2 a2_3 x148000_2 x148001_3 = some (r1, r2, r3)) ∧ Aside0 (kq ≤ k2) ∧ Aside0 (Kd.S (Kd.slice 5 (Kd.int .u8)) 44 w' w.heap.size (fun _ => True) v10 x10_3) ∧ Aside0 (Kd.Q k63 63 w' w.heap.size (fun _ => True) u148000 x148000_2) ∧ Aside0 (Kd.S k65 65 w' w.heap.size (fun _ => True) u148001 x148001_3) ∧ Aside0 (w'.heap[gb138]? = some (.cells #[(.slice A0_0 l0_0.length c0_0), (.slice A0_1 l0_1.length c0_1)] 32 (0, 0))) ∧ Aside0 (w'.heap[gb139]? = some (.cells #[.int .i64 a2_0, .int .i64 a2_1, .int .i64 a2_2, .int .i64 a2_3] 37 (0, 0))) ∧ Aside0 (w'.heap[gb140]? = some (.cells #[(.slice none 0 0), (.slice none 0 0)] 32 (0, 0))) ∧ Aside0 (w'.heap[gb147]? = some (.cells #[u148000, u148001] 32 (0, 0))) ∧ Aside0 (Below w.heap.size w w'))
       case atStart => exact ⟨(y141), (x12_2), (0), (([] : List (S65))), (.slice none 0 0), (by first | rfl | (simp; done) | (simp [*]; done)), (by first | rfl | (simp; done) | (simp [*]; done)), H', ⟨Nat.le_refl _⟩, ⟨by refine kS_ ?_; exact HO_10.out⟩, ⟨by (with_reducible repeat (first | apply Kd.Q_alloc | apply Kd.Q_drewN | apply Kd.Q_drew)); exact HO_148000.out⟩, ⟨by first | exact Kd.S_nil _ _ _ _ _ | exact Kd.N_nil _ _ _ _ _ | exact Kd.V_nil _ _ _ _ _ | exact Kd.Q_nil _ _ _ _ _ | exact Kd.R_nil _ _ _ _ _⟩, ⟨by refine kb_ ?_; exact BK138.out⟩, ⟨by refine kb_ ?_; exact BK139.out⟩, ⟨by refine kb_ ?_; exact BK140.out⟩, ⟨by refine kb_ ?_; exact BK147.out⟩, ⟨hbA_ HB.out⟩⟩
       case round =>
        clear H'; (try clear c1); (try clear p1); (try clear q1); (try clear hx1); (try clear c2); (try clear p2); (try clear c3); (try clear c4); (try clear c5); (try clear c6); (try clear p6); (try clear c7); (try clear c12); (try clear c14); (try clear p14); (try clear q14); (try clear hx14); (try clear c16); (try clear c17); (try clear c20); (try clear c23); (try clear c24); (try clear c27); (try clear c30); (try clear c31); (try clear c34); (try clear c35); (try clear c36); (try clear c39); (try clear c40); (try clear c41); (try clear c43); (try clear c44); (try clear c46); (try clear c46b0); (try clear c47); (try clear c47b0); (try clear c48); (try clear c48b0); (try clear c48b1); (try clear c49); (try clear c50); (try clear c51); (try clear c54); (try clear c55); (try clear c56); (try clear c57); (try clear c64); (try clear p64); (try clear c65); (try clear c66); (try clear Z18); (try clear Z21); (try clear Z25); (try clear Z28); (try clear Z32); (try clear Z37); (try clear Z42); (try clear Z45); (try clear Z52); (try clear Z58); (try clear Z67); (try clear hx148_0); (try clear hx148_1); (try clear hx148_2); (try clear hx149_0); (try clear hx149_1); (try clear hx149_2); (try clear p148); (try clear p149); (try clear p2); (try clear q148); (try clear q149)
        obtain ⟨x10_3, x12_3, x14_3, x148001_3, u148001, rfl, rfl, HA, HK3, HO_10, HO_148000, HO_148001, BK138, BK139, BK140, BK147, HB⟩ := hrel
        cases gk with
        | zero => exact absurd HA.out (by simp [spec_NearHear.l1])
        | succ k3 =>
         have H := HA.out; clear HA
         simp only [spec_NearHear.l1] at H
         by_cases c68 : x14_3 < (l0_1.length : Int)
         ·rw [if_pos c68] at H
          have c68b0 : decide (x14_3 < (l0_1.length : Int)) = true := decide_eq_true c68
          clear c68
          by_cases c69 : 0 ≤ x14_3
          ·rw [if_pos c69] at H
           have c69b0 : decide (0 ≤ x14_3) = true := decide_eq_true c69
           clear c69
           by_cases c70 : ((rd_T65 l0_1 x14_3).f0) = a2_2
           ·rw [if_pos c70] at H
            have c70b0 : (((rd_T65 l0_1 x14_3).f0) == a2_2) = true := beq_iff_eq.mpr c70
            have c70b1 : (((rd_T65 l0_1 x14_3).f0) != a2_2) = false := bne_eq_false_iff_eq.mpr c70
            clear c70
            obtain ⟨y154, hy154⟩ : ∃ y_ : List Int, y_ = (([] : List Int)) := ⟨_, rfl⟩
            (first | replace H := sb_ hy154 H | rw [← hy154] at H)
            have Ny154 := Aside0.mk hy154; clear hy154
            by_cases c71 : y154.length + ((rd_T65 l0_1 x14_3).f1).length < 140737488355328
            ·rw [if_pos c71] at H
             have LMc71 := Aside0.mk c71; clear c71
             obtain ⟨y158, hy158⟩ : ∃ y_ : List Int, y_ = (y154 ++ ((rd_T65 l0_1 x14_3).f1)) := ⟨_, rfl⟩
             (first | replace H := sb_ hy158 H | rw [← hy158] at H)
             have Ny158 := Aside0.mk hy158; clear hy158
             by_cases c72 : x10_3.length < 5864062014805
             ·rw [if_pos c72] at H
              have LMc72 := Aside0.mk c72; clear c72
              obtain ⟨y161, hy161⟩ : ∃ y_ : List (List Int), y_ = (x10_3 ++ [y158]) := ⟨_, rfl⟩
              (first | replace H := sb_ hy161 H | rw [← hy161] at H)
              have Ny161 := Aside0.mk hy161; clear hy161
              have H' := Aside0.mk H
              clear H; have hnb73 := NB138_139.out; have hnc73 := NB139_138.out; have hnb74 := NB138_140.out; have hnc74 := NB140_138.out; have hnb75 := NB138_147.out; have hnc75 := NB147_138.out; have Z76 := zz2 BK138
              try go_wp2
              replace HO_10 := Aside0.mk (Kd.S_drew HO_10.out); replace HO_148000 := Aside0.mk (Kd.Q_drew HO_148000.out); replace HO_148001 := Aside0.mk (Kd.S_drew HO_148001.out); replace BK138 := Aside0.mk (blk_drew BK138.out); replace BK139 := Aside0.mk (blk_drew BK139.out); replace BK140 := Aside0.mk (blk_drew BK140.out); replace BK147 := Aside0.mk (blk_drew BK147.out); replace HB := (bd_ HB)
              have p153 : 0 ≤ (x14_3 : Int) := of_decide_eq_true (by first | (with_reducible assumption) | assumption)
              have q153 : x14_3 < (l0_1.length : Int) := of_decide_eq_true (by first | (with_reducible assumption) | assumption)
              obtain ⟨ad153, A153_1, c153_1, e153, hx153_0, hx153_1, hl153_1, hi153_1⟩ := at_T65 HR0_1.out x14_3 p153 q153
              have hw153_1 := hx153_1; have hw153_0 := hx153_0
              cases e153
              replace hx153_0 := cc_ HB hx153_0
              replace hx153_1 := cc_ HB hx153_1
              have HR153_1 := Aside0.mk hi153_1; have HC153_1 := Aside0.mk hl153_1; clear hi153_1 hl153_1
              replace p153 := eq_true p153
              replace q153 := eq_true q153
              refine start_ (n := 9) (S := fun w' => w'.cell? ⟨gb138, 0, none⟩ = some (.slice A0_0 l0_0.length c0_0) ∧ w'.cell? ⟨gb138, 1, none⟩ = some (.slice (some ad153) l0_1.length c0_1) ∧ w'.cell? ⟨gb139, 0, none⟩ = some (.int .i64 a2_0) ∧ w'.cell? ⟨gb139, 1, none⟩ = some (.int .i64 a2_1) ∧ w'.cell? ⟨gb139, 2, none⟩ = some (.int .i64 a2_2) ∧ w'.cell? ⟨gb139, 3, none⟩ = some (.int .i64 a2_3) ∧ w'.cell? (ad153.add ((x14_3).toNat * 2)) = some (.int .i64 ((rd_T65 l0_1 x14_3).f0)) ∧ w'.cell? ⟨(ad153.add ((x14_3).toNat * 2)).block, (ad153.add ((x14_3).toNat * 2)).off + 1, none⟩ = some (.slice A153_1 ((rd_T65 l0_1 x14_3).f1).length c153_1)) (ds := []) #[false, false, false, false, false, false, false, false, false] (by kernel_rfl) rfl rfl ⟨bc_ BK138 0, bc_ BK138 1, bc_ BK139 0, bc_ BK139 1, bc_ BK139 2, bc_ BK139 3, (cc_ HB hw153_0), (cc_ HB hw153_1)⟩ (fun hHeld => ?_); refine with_tabW spec_NearHear.tab15 spec_NearHear.bits15 (fun HT_ HW_ => ?_)
              generalize wr.drew = w77 at HO_10 HO_148000 HO_148001 BK138 BK139 BK140 BK147 HB HR153_1 hx153_0 hx153_1 hHeld ⊢
              refine pu_ (i := 0) (N := some 69) HT_ ?_; refine pu_ (i := 2) (N := some 71) HT_ ?_; refine pu_ (i := 6) (N := some 75) HT_ ?_; refine tk_ (i := 1) (N := some 70) HT_ HW_ hHeld ?_; refine pu_ (i := 3) (N := some 72) HT_ ?_; refine pu_ (i := 4) (N := some 73) HT_ ?_; refine tk_ (i := 5) (N := some 74) HT_ HW_ hHeld ?_; refine tk_ (i := 7) (N := some 76) HT_ HW_ hHeld ?_; refine pu_ (i := 8) (N := some 77) HT_ ?_
              refine done_ (done_of HT_.out (by kernel_rfl)) ?_
              try go_wp2_with (first | ((with_reducible refine gate_dst (N := 79) rfl ?_); refine Kd.R_lit (Kd.int .u8) _ 5 ?hg (N := 79) ?hd (xs := ([] : List Int)) (inner := []) (ok := fun _ => True) (okp := fun _ => True) ?hr ?hp (fun _ hk => hk) trivial (Below.refl _ _) (Nat.le_refl _) (by simp) ?_; (case hd => rfl); (case hg => rfl); (case hr => first | (go_simp; done) | (go_simp; rfl)); (case hp => exact (Reps.none _ _)); intro v155 w78 ho79 hb hg_ hnew_; clear hg_ hnew_; (first | rw [← Ny154.out] at ho79 | (simp only [Int.reduceToNat] at ho79; rw [← Ny154.out] at ho79)); replace HO_10 := Aside0.mk (Kd.S_elder' (kS_ HO_10.out) (Kd.R_base ho79) hb); replace HO_148000 := Aside0.mk (Kd.Q_below (by (with_reducible repeat (first | apply Kd.Q_alloc | apply Kd.Q_drewN | apply Kd.Q_drew)); exact HO_148000.out) hb); replace HO_148001 := Aside0.mk (Kd.S_elder' (kS_ HO_148001.out) (Kd.R_base ho79) hb); have HO156 := Aside0.mk (Kd.R_lower ho79 (below_size (hbA_ HB.out))); replace BK138 := (bbA_ BK138 hb); replace BK139 := (bbA_ BK139 hb); replace BK140 := (bbA_ BK140 hb); replace BK147 := (bbA_ BK147 hb); replace HB := (bs_ HB hb); clear hb ho79; have Z80 := zz2 BK138; have p157 : 0 ≤ (x14_3 : Int) := of_decide_eq_true (by first | (with_reducible assumption) | assumption); have q157 : x14_3 < (l0_1.length : Int) := of_decide_eq_true (by first | (with_reducible assumption) | assumption); obtain ⟨ad157, A157_1, c157_1, e157, hx157_0, hx157_1, hl157_1, hi157_1⟩ := at_T65 HR0_1.out x14_3 p157 q157; obtain rfl : ad153 = ad157 := (by injection e157); replace hx157_0 := cc_ HB hx157_0; replace hx157_1 := cc_ HB hx157_1; have HR157_1 := Aside0.mk hi157_1; have HC157_1 := Aside0.mk hl157_1; clear hi157_1 hl157_1; replace p157 := eq_true p157; replace q157 := eq_true q157) | ((with_reducible refine gate_builtin (b := .append) (xs := #[.tmp 79, .tmp 85]) rfl ?_); at_builtin; refine Kd.R_append_rows (Kd.int .u8) (w0 := w) w.heap.size rfl (.tmp 79) (.tmp 85) 44 5 (.int .u8 0) 1 rfl Try.underlying44 info5 rfl (by decide) (by omega) v155 y154 ((rd_T65 l0_1 x14_3).f1) _ _ _ (fun _ => True) (fun _ => False) rfl rfl ?aO ?aR (fun _ _ h => h) (fun _ h => h.elim) ?aF ?aB ?aS ?aL ?_; (case aR => exact kC_ (Kd.C_below HR157_1.out HB.out)); (case aB => exact (hbA_ HB.out)); (case aF => exact (fun _ _ => trivial)); (case aO => exact (kR_ HO156.out)); (case aS => exact (below_size (hbA_ HB.out))); (case aL => have := LMc71.out; omega); intro v159 w81 ho hb hg hat; rw [← Ny158.out] at ho; replace HO_10 := Aside0.mk (Kd.S_after (ok := (fun _ => True)) (kS_ HO_10.out) hg hat); replace HO_148000 := Aside0.mk (Kd.Q_over' (by (with_reducible repeat (first | apply Kd.Q_alloc | apply Kd.Q_drewN | apply Kd.Q_drew)); exact HO_148000.out) (Kd.R_typed (kR_ HO156.out)) (by decide) hg); replace HO_148001 := Aside0.mk (Kd.S_after (ok := (fun _ => True)) (kS_ HO_148001.out) hg hat); replace BK138 := (bgA_ BK138 hg (Kd.R_ne HO156.out BK138.out (by decide))); replace BK139 := (bgA_ BK139 hg (Kd.R_ne HO156.out BK139.out (by decide))); replace BK140 := (bgA_ BK140 hg (Kd.R_ne HO156.out BK140.out (by decide))); replace BK147 := (bgA_ BK147 hg (Kd.R_ne HO156.out BK147.out (by decide))); replace HB := Aside0.mk (hb); have HO160 := Aside0.mk (ho); clear HO156; clear ho hb hg hat; obtain ⟨Ao83, co83, eo83⟩ := Kd.R_slice HO160.out; subst eo83) | ((with_reducible refine gate_builtin (b := .append) (xs := #[.tmp 78, .tmp 87]) rfl ?_); at_builtin; refine Kd.S_append (Kd.slice 5 (Kd.int .u8)) (w0 := w) w.heap.size rfl (.tmp 78) (.tmp 87) 33 44 (.slice none 0 0) 24 rfl Try.underlying33 info44 rfl (by decide) (by omega) u10 x10_3 y158 [.slice Ao83 y158.length co83] (fun _ => True) (fun k_ => some k_ = (.slice Ao83 y158.length co83 : Value).ownBlock) rfl rfl ?aP (fun k_ hk_ => ((Kd.R_mono (ok' := fun k_ => ((fun _ => True)) k_ ∧ some k_ ≠ (u10 : Value).ownBlock) (Kd.R_apart' (HO160.out) (Kd.S_typed HO_10.out) (by decide)) (fun k_ hk => ⟨trivial, hk.2⟩))).1 k_ hk_.symm) ?aF ?aO ?aB ?aS ?aL ?_; (case aP => exact Kd.M_row (Kd.R_mono (Kd.R_tight rfl (Kd.R_mono (ok' := fun k_ => ((fun _ => True)) k_ ∧ some k_ ≠ (u10 : Value).ownBlock) (Kd.R_apart' (HO160.out) (Kd.S_typed HO_10.out) (by decide)) (fun k_ hk => ⟨trivial, hk.2⟩))) (fun _ h_ => h_))); (case aB => exact (hbA_ HB.out)); (case aF => exact (fun _ _ => trivial)); (case aO => exact (by refine kS_ ?_; exact Kd.S_mono HO_10.out (fun k_ hk => ⟨trivial, fun e_ => hk.2 e_⟩))); (case aS => exact (below_size (hbA_ HB.out))); (case aL => have := LMc72.out; omega); intro v162 w82 ho hb hg hat; rw [← Ny161.out] at ho; replace HO_148000 := Aside0.mk (Kd.Q_over' (by (with_reducible repeat (first | apply Kd.Q_alloc | apply Kd.Q_drewN | apply Kd.Q_drew)); exact HO_148000.out) (Kd.S_typed (kS_ HO_10.out)) (by decide) hg); replace HO_148001 := Aside0.mk (Kd.S_over' (kS_ HO_148001.out) (Kd.S_typed (kS_ HO_10.out)) (by decide) hg); replace BK138 := (bgA_ BK138 hg (Kd.S_ne HO_10.out BK138.out (by decide))); replace BK139 := (bgA_ BK139 hg (Kd.S_ne HO_10.out BK139.out (by decide))); replace BK140 := (bgA_ BK140 hg (Kd.S_ne HO_10.out BK140.out (by decide))); replace BK147 := (bgA_ BK147 hg (Kd.S_ne HO_10.out BK147.out (by decide))); replace HB := Aside0.mk (hb); have HO163 := Aside0.mk (ho); clear HO_10 HO160; clear ho hb hg hat))
              go_roundg k3
              case measure => have := HJ4.out; have := HK2.out; have := HK3.out; omega
              case rel => exact ⟨(y161), (true), (wrap64 (x14_3 + 1)), (x148001_3), (u148001), (by first | rfl | (simp; done) | (simp [*]; done)), (by first | rfl | (simp; done) | (simp [*]; done)), H', ⟨by have := HJ4.out; have := HK2.out; have := HK3.out; omega⟩, ⟨by refine kS_ ?_; exact HO163.out⟩, ⟨by (with_reducible repeat (first | apply Kd.Q_alloc | apply Kd.Q_drewN | apply Kd.Q_drew)); exact HO_148000.out⟩, ⟨by refine kS_ ?_; exact Kd.S_mono HO_148001.out (fun _ hk => trivial)⟩, ⟨by refine kb_ ?_; exact BK138.out⟩, ⟨by refine kb_ ?_; exact BK139.out⟩, ⟨by refine kb_ ?_; exact BK140.out⟩, ⟨by refine kb_ ?_; exact BK147.out⟩, ⟨hbA_ HB.out⟩⟩
             ·rw [if_neg c72] at H
              exact absurd H (by simp)
            ·rw [if_neg c71] at H
             exact absurd H (by simp)
           ·rw [if_neg c70] at H
            have c70b0 : (((rd_T65 l0_1 x14_3).f0) == a2_2) = false := beq_eq_false_iff_ne.mpr c70
            have c70b1 : (((rd_T65 l0_1 x14_3).f0) != a2_2) = true := bne_iff_ne.mpr c70
            obtain ⟨y165, hy165⟩ : ∃ y_ : List Int, y_ = (([] : List Int)) := ⟨_, rfl⟩
            (first | replace H := sb_ hy165 H | rw [← hy165] at H)
            have Ny165 := Aside0.mk hy165; clear hy165
            by_cases c84 : y165.length + ((rd_T65 l0_1 x14_3).f1).length < 140737488355328
            ·rw [if_pos c84] at H
             have LMc84 := Aside0.mk c84; clear c84
             obtain ⟨y169, hy169⟩ : ∃ y_ : List Int, y_ = (y165 ++ ((rd_T65 l0_1 x14_3).f1)) := ⟨_, rfl⟩
             (first | replace H := sb_ hy169 H | rw [← hy169] at H)
             have Ny169 := Aside0.mk hy169; clear hy169
             by_cases c85 : x148001_3.length < 4398046511104
             ·rw [if_pos c85] at H
              have LMc85 := Aside0.mk c85; clear c85
              obtain ⟨y172, hy172⟩ : ∃ y_ : List (S65), y_ = (x148001_3 ++ [(⟨(rd_T65 l0_1 x14_3).f0, y169⟩ : S65)]) := ⟨_, rfl⟩
              (first | replace H := sb_ hy172 H | rw [← hy172] at H)
              have Ny172 := Aside0.mk hy172; clear hy172
              have H' := Aside0.mk H
              clear H; have hnb86 := NB138_139.out; have hnc86 := NB139_138.out; have hnb87 := NB138_140.out; have hnc87 := NB140_138.out; have hnb88 := NB138_147.out; have hnc88 := NB147_138.out; have Z89 := zz2 BK138
              try go_wp2
              replace HO_10 := Aside0.mk (Kd.S_drew HO_10.out); replace HO_148000 := Aside0.mk (Kd.Q_drew HO_148000.out); replace HO_148001 := Aside0.mk (Kd.S_drew HO_148001.out); replace BK138 := Aside0.mk (blk_drew BK138.out); replace BK139 := Aside0.mk (blk_drew BK139.out); replace BK140 := Aside0.mk (blk_drew BK140.out); replace BK147 := Aside0.mk (blk_drew BK147.out); replace HB := (bd_ HB)
              have p153 : 0 ≤ (x14_3 : Int) := of_decide_eq_true (by first | (with_reducible assumption) | assumption)
              have q153 : x14_3 < (l0_1.length : Int) := of_decide_eq_true (by first | (with_reducible assumption) | assumption)
              obtain ⟨ad153, A153_1, c153_1, e153, hx153_0, hx153_1, hl153_1, hi153_1⟩ := at_T65 HR0_1.out x14_3 p153 q153
              have hw153_1 := hx153_1; have hw153_0 := hx153_0
              cases e153
              replace hx153_0 := cc_ HB hx153_0
              replace hx153_1 := cc_ HB hx153_1
              have HR153_1 := Aside0.mk hi153_1; have HC153_1 := Aside0.mk hl153_1; clear hi153_1 hl153_1
              replace p153 := eq_true p153
              replace q153 := eq_true q153
              refine start_ (n := 9) (S := fun w' => w'.cell? ⟨gb138, 0, none⟩ = some (.slice A0_0 l0_0.length c0_0) ∧ w'.cell? ⟨gb138, 1, none⟩ = some (.slice (some ad153) l0_1.length c0_1) ∧ w'.cell? ⟨gb139, 0, none⟩ = some (.int .i64 a2_0) ∧ w'.cell? ⟨gb139, 1, none⟩ = some (.int .i64 a2_1) ∧ w'.cell? ⟨gb139, 2, none⟩ = some (.int .i64 a2_2) ∧ w'.cell? ⟨gb139, 3, none⟩ = some (.int .i64 a2_3) ∧ w'.cell? (ad153.add ((x14_3).toNat * 2)) = some (.int .i64 ((rd_T65 l0_1 x14_3).f0)) ∧ w'.cell? ⟨(ad153.add ((x14_3).toNat * 2)).block, (ad153.add ((x14_3).toNat * 2)).off + 1, none⟩ = some (.slice A153_1 ((rd_T65 l0_1 x14_3).f1).length c153_1)) (ds := []) #[false, false, false, false, false, false, false, false, false] (by kernel_rfl) rfl rfl ⟨bc_ BK138 0, bc_ BK138 1, bc_ BK139 0, bc_ BK139 1, bc_ BK139 2, bc_ BK139 3, (cc_ HB hw153_0), (cc_ HB hw153_1)⟩ (fun hHeld => ?_); refine with_tabW spec_NearHear.tab15 spec_NearHear.bits15 (fun HT_ HW_ => ?_)
              generalize wr.drew = w90 at HO_10 HO_148000 HO_148001 BK138 BK139 BK140 BK147 HB HR153_1 hx153_0 hx153_1 hHeld ⊢
              refine pu_ (i := 0) (N := some 69) HT_ ?_; refine pu_ (i := 2) (N := some 71) HT_ ?_; refine pu_ (i := 6) (N := some 75) HT_ ?_; refine tk_ (i := 1) (N := some 70) HT_ HW_ hHeld ?_; refine pu_ (i := 3) (N := some 72) HT_ ?_; refine pu_ (i := 4) (N := some 73) HT_ ?_; refine tk_ (i := 5) (N := some 74) HT_ HW_ hHeld ?_; refine tk_ (i := 7) (N := some 76) HT_ HW_ hHeld ?_; refine pu_ (i := 8) (N := some 77) HT_ ?_
              refine done_ (done_of HT_.out (by kernel_rfl)) ?_
              try go_wp2
              replace HO_10 := Aside0.mk (Kd.S_drew HO_10.out); replace HO_148000 := Aside0.mk (Kd.Q_drew HO_148000.out); replace HO_148001 := Aside0.mk (Kd.S_drew HO_148001.out); replace BK138 := Aside0.mk (blk_drew BK138.out); replace BK139 := Aside0.mk (blk_drew BK139.out); replace BK140 := Aside0.mk (blk_drew BK140.out); replace BK147 := Aside0.mk (blk_drew BK147.out); replace HB := (bd_ HB)
              have p164 : 0 ≤ (x14_3 : Int) := of_decide_eq_true (by first | (with_reducible assumption) | assumption)
              have q164 : x14_3 < (l0_1.length : Int) := of_decide_eq_true (by first | (with_reducible assumption) | assumption)
              obtain ⟨ad164, A164_1, c164_1, e164, hx164_0, hx164_1, hl164_1, hi164_1⟩ := at_T65 HR0_1.out x14_3 p164 q164
              have hw164_1 := hx164_1; have hw164_0 := hx164_0
              obtain rfl : ad153 = ad164 := (by injection e164)
              replace hx164_0 := cc_ HB hx164_0
              replace hx164_1 := cc_ HB hx164_1
              have HR164_1 := Aside0.mk hi164_1; have HC164_1 := Aside0.mk hl164_1; clear hi164_1 hl164_1
              replace p164 := eq_true p164
              replace q164 := eq_true q164
              have p168 : 0 ≤ (x14_3 : Int) := of_decide_eq_true (by first | (with_reducible assumption) | assumption)
              have q168 : x14_3 < (l0_1.length : Int) := of_decide_eq_true (by first | (with_reducible assumption) | assumption)
              obtain ⟨ad168, A168_1, c168_1, e168, hx168_0, hx168_1, hl168_1, hi168_1⟩ := at_T65 HR0_1.out x14_3 p168 q168
              have hw168_1 := hx168_1; have hw168_0 := hx168_0
              obtain rfl : ad153 = ad168 := (by injection e168)
              replace hx168_0 := cc_ HB hx168_0
              replace hx168_1 := cc_ HB hx168_1
              have HR168_1 := Aside0.mk hi168_1; have HC168_1 := Aside0.mk hl168_1; clear hi168_1 hl168_1
              replace p168 := eq_true p168
              replace q168 := eq_true q168
              have ea_ := Option.some.inj (hx164_1.symm.trans hx168_1)
              injection ea_ with ea_ en_ ec_
              subst ea_; subst ec_; clear en_
              refine start_ (n := 21) (S := fun w' => w'.cell? ⟨gb147, 0, none⟩ = some (u148000) ∧ w'.cell? ⟨gb147, 1, none⟩ = some (u148001) ∧ w'.cell? ⟨gb138, 0, none⟩ = some (.slice A0_0 l0_0.length c0_0) ∧ w'.cell? ⟨gb138, 1, none⟩ = some (.slice (some ad153) l0_1.length c0_1) ∧ w'.cell? (ad153.add ((x14_3).toNat * 2)) = some (.int .i64 ((rd_T65 l0_1 x14_3).f0)) ∧ w'.cell? ⟨(ad153.add ((x14_3).toNat * 2)).block, (ad153.add ((x14_3).toNat * 2)).off + 1, none⟩ = some (.slice A164_1 ((rd_T65 l0_1 x14_3).f1).length c164_1) ∧ w'.cell? (ad153.add ((x14_3).toNat * 2)) = some (.int .i64 ((rd_T65 l0_1 x14_3).f0)) ∧ w'.cell? ⟨(ad153.add ((x14_3).toNat * 2)).block, (ad153.add ((x14_3).toNat * 2)).off + 1, none⟩ = some (.slice A164_1 ((rd_T65 l0_1 x14_3).f1).length c164_1)) (ds := [20]) #[false, false, false, false, false, false, false, false, false, false, false, false, false, false, false, false, false, false, false, false, false] (by kernel_rfl) rfl rfl ⟨bc_ BK147 0, bc_ BK147 1, bc_ BK138 0, bc_ BK138 1, (cc_ HB hw164_0), (cc_ HB hw164_1), (cc_ HB hw168_0), (cc_ HB hw168_1)⟩ (fun hHeld => ?_); refine with_tabW spec_NearHear.tab18 spec_NearHear.bits18 (fun HT_ HW_ => ?_)
              generalize w90.drew = w91 at HO_10 HO_148000 HO_148001 BK138 BK139 BK140 BK147 HB HR164_1 HR168_1 hx164_0 hx164_1 hx168_0 hx168_1 hHeld ⊢
              refine pu_ (i := 0) (N := some 89) HT_ ?_; refine pu_ (i := 2) (N := some 91) HT_ ?_; refine pu_ (i := 4) (N := some 93) HT_ ?_; refine pu_ (i := 9) (N := some 98) HT_ ?_; refine pu_ (i := 11) (N := some 100) HT_ ?_; refine tk_ (i := 1) (N := some 90) HT_ HW_ hHeld ?_; refine tk_ (i := 3) (N := some 92) HT_ HW_ hHeld ?_; refine pu_ (i := 5) (N := some 94) HT_ ?_; refine pu_ (i := 6) (N := some 95) HT_ ?_; refine tk_ (i := 7) (N := some 96) HT_ HW_ hHeld ?_; refine tk_ (i := 10) (N := some 99) HT_ HW_ hHeld ?_; refine pu_ (i := 12) (N := some 101) HT_ ?_; refine pu_ (i := 13) (N := some 102) HT_ ?_; refine tk_ (i := 14) (N := some 103) HT_ HW_ hHeld ?_
              refine on_ (i := 8) (N := some 97) HT_ (fun K hK => ?_)
              refine Kd.R_lit_step (Kd.int .u8) _ 5 ?hg (N := 97) ?hd (xs := ([] : List Int)) (inner := []) (ok := fun _ => True) (okp := fun _ => True) ?hr ?hp (fun _ hk => hk) trivial (Below.refl _ _) (Nat.le_refl _) (by simp) ?_; (case hd => rfl); (case hg => rfl); (case hr => first | (go_simp; done) | (go_simp; rfl)); (case hp => exact (Reps.none _ _))
              intro v166 w92 ho93 hb hg_ hnew_
              clear hg_ hnew_
              (first | rw [← Ny165.out] at ho93 | (simp only [Int.reduceToNat] at ho93; rw [← Ny165.out] at ho93))
              have n0_ := Aside0.mk (Kd.S_elder' (kS_ HO_10.out) (Kd.R_base ho93) hb); have n1_ := Aside0.mk (Kd.Q_below (by (with_reducible repeat (first | apply Kd.Q_alloc | apply Kd.Q_drewN | apply Kd.Q_drew)); exact HO_148000.out) hb); have n2_ := Aside0.mk (Kd.S_elder' (kS_ HO_148001.out) (Kd.R_base ho93) hb); have n3_ := Aside0.mk (Kd.R_lower ho93 (below_size (hbA_ HB.out))); have n4_ := (bbA_ BK138 hb); have n5_ := (bbA_ BK139 hb); have n6_ := (bbA_ BK140 hb); have n7_ := (bbA_ BK147 hb); have n8_ := (bs_ HB hb); clear HO_10 HO_148000 HO_148001 BK138 BK139 BK140 BK147 HB; have HO_10 := n0_; have HO_148000 := n1_; have HO_148001 := n2_; have HO167 := n3_; have BK138 := n4_; have BK139 := n5_; have BK140 := n6_; have BK147 := n7_; have HB := n8_; clear n0_ n1_ n2_ n3_ n4_ n5_ n6_ n7_ n8_ hb ho93
              refine hK.out _ _ ⟨bc_ BK147 0, bc_ BK147 1, bc_ BK138 0, bc_ BK138 1, (by first | exact cc_ HB hw164_0 | exact cc_ ⟨hbA_ HB.out⟩ hw164_0), (by first | exact cc_ HB hw164_1 | exact cc_ ⟨hbA_ HB.out⟩ hw164_1), (by first | exact cc_ HB hw168_0 | exact cc_ ⟨hbA_ HB.out⟩ hw168_0), (by first | exact cc_ HB hw168_1 | exact cc_ ⟨hbA_ HB.out⟩ hw168_1)⟩ (fun hHeld => ?_)
              clear hK K; refine nm_ 97 ?_
              refine on_ (i := 15) (N := some 104) HT_ (fun K hK => ?_)
              refine Kd.R_append_rows_step (Kd.int .u8) (w0 := w) w.heap.size (by rfl) (.tmp 97) (.tmp 103) 44 5 (.int .u8 0) 1 rfl Try.underlying44 info5 rfl (by decide) (by omega) v166 y165 ((rd_T65 l0_1 x14_3).f1) _ _ _ (fun _ => True) (fun _ => False) rfl rfl ?aO ?aR (fun _ _ h => h) (fun _ h => h.elim) ?aF ?aB ?aS ?aL ?_
              (case aR => exact kC_ (Kd.C_below HR168_1.out HB.out))
              (case aB => exact (hbA_ HB.out))
              (case aF => exact (fun _ _ => trivial))
              (case aO => exact (kR_ HO167.out))
              (case aS => exact (below_size (hbA_ HB.out)))
              (case aL => have := LMc84.out; omega)
              intro v170 w94 ho hb hg hat
              rw [← Ny169.out] at ho
              have n0_ := Aside0.mk (Kd.S_after (ok := (fun _ => True)) (kS_ HO_10.out) hg hat); have n1_ := Aside0.mk (Kd.Q_over' (by (with_reducible repeat (first | apply Kd.Q_alloc | apply Kd.Q_drewN | apply Kd.Q_drew)); exact HO_148000.out) (Kd.R_typed (kR_ HO167.out)) (by decide) hg); have n2_ := Aside0.mk (Kd.S_after (ok := (fun _ => True)) (kS_ HO_148001.out) hg hat); have n3_ := (bgA_ BK138 hg (Kd.R_ne HO167.out BK138.out (by decide))); have n4_ := (bgA_ BK139 hg (Kd.R_ne HO167.out BK139.out (by decide))); have n5_ := (bgA_ BK140 hg (Kd.R_ne HO167.out BK140.out (by decide))); have n6_ := (bgA_ BK147 hg (Kd.R_ne HO167.out BK147.out (by decide))); have n7_ := Aside0.mk (hb); have n8_ := Aside0.mk (ho); clear HO_10 HO_148000 HO_148001 BK138 BK139 BK140 BK147 HB HO167; have HO_10 := n0_; have HO_148000 := n1_; have HO_148001 := n2_; have BK138 := n3_; have BK139 := n4_; have BK140 := n5_; have BK147 := n6_; have HB := n7_; have HO171 := n8_; clear n0_ n1_ n2_ n3_ n4_ n5_ n6_ n7_ n8_ ho hb hg hat
              obtain ⟨Ao95, co95, eo95⟩ := Kd.R_slice HO171.out
              (first | subst eo95 | (injection eo95 with f1_ f2_ f3_; have f4_ := f1_.symm; have f5_ := f3_.symm; clear f1_ f2_ f3_; subst f4_; subst f5_))
              refine hK.out _ _ ⟨bc_ BK147 0, bc_ BK147 1, bc_ BK138 0, bc_ BK138 1, (by first | exact cc_ HB hw164_0 | exact cc_ ⟨hbA_ HB.out⟩ hw164_0), (by first | exact cc_ HB hw164_1 | exact cc_ ⟨hbA_ HB.out⟩ hw164_1), (by first | exact cc_ HB hw168_0 | exact cc_ ⟨hbA_ HB.out⟩ hw168_0), (by first | exact cc_ HB hw168_1 | exact cc_ ⟨hbA_ HB.out⟩ hw168_1)⟩ (fun hHeld => ?_)
              clear hK K; refine nm_ 104 ?_; refine pu_ (i := 16) (N := some 105) HT_ ?_
              refine on_ (i := 17) (N := some 106) HT_ (fun K hK => ?_)
              refine value_ (w1 := ?_) (v := ?_) (by rfl) rfl ?_ ?_
              rotate_left 2
              ·go_simp
               constructor
               ·rfl
               ·rfl
              refine hK.out _ _ ⟨(blk_cell (blk_alloc BK147.out _) 0).trans rfl, (blk_cell (blk_alloc BK147.out _) 1).trans rfl, (blk_cell (blk_alloc BK138.out _) 0).trans rfl, (blk_cell (blk_alloc BK138.out _) 1).trans rfl, (World.cell?_alloc_lt _ _ _ (World.block_lt_of_cell? _ _ ((by first | exact cc_ HB hw164_0 | exact cc_ ⟨hbA_ HB.out⟩ hw164_0)))).trans ((by first | exact cc_ HB hw164_0 | exact cc_ ⟨hbA_ HB.out⟩ hw164_0)), (World.cell?_alloc_lt _ _ _ (World.block_lt_of_cell? _ _ ((by first | exact cc_ HB hw164_1 | exact cc_ ⟨hbA_ HB.out⟩ hw164_1)))).trans ((by first | exact cc_ HB hw164_1 | exact cc_ ⟨hbA_ HB.out⟩ hw164_1)), (World.cell?_alloc_lt _ _ _ (World.block_lt_of_cell? _ _ ((by first | exact cc_ HB hw168_0 | exact cc_ ⟨hbA_ HB.out⟩ hw168_0)))).trans ((by first | exact cc_ HB hw168_0 | exact cc_ ⟨hbA_ HB.out⟩ hw168_0)), (World.cell?_alloc_lt _ _ _ (World.block_lt_of_cell? _ _ ((by first | exact cc_ HB hw168_1 | exact cc_ ⟨hbA_ HB.out⟩ hw168_1)))).trans ((by first | exact cc_ HB hw168_1 | exact cc_ ⟨hbA_ HB.out⟩ hw168_1))⟩ (fun hHeld => ?_)
              clear hK K; refine nm_ 106 ?_
              refine on_ (i := 18) (N := some 107) HT_ (fun K hK => ?_)
              refine Kd.S_append_step k65 (w0 := w) w.heap.size (by rfl) (.tmp 90) (.tmp 106) 30 65 (.agg #[(.int .i64 0), (.slice none 0 0)]) 32 rfl Try.underlying30 info65 rfl (by decide) (by omega) u148001 x148001_3 (⟨(rd_T65 l0_1 x14_3).f0, y169⟩ : S65) [.int .i64 ((rd_T65 l0_1 x14_3).f0), .slice Ao95 y169.length co95] (fun _ => True) (fun k_ => some k_ = (.slice Ao95 y169.length co95 : Value).ownBlock) rfl rfl ?aP (fun k_ hk_ => ((Kd.R_mono (ok' := fun k_ => ((fun _ => True)) k_ ∧ some k_ ≠ (u148001 : Value).ownBlock) (Kd.R_apart' (HO171.out) (Kd.S_typed HO_148001.out) (by decide)) (fun k_ hk => ⟨trivial, hk.2⟩))).1 k_ hk_.symm) ?aF ?aO ?aB ?aS ?aL ?_
              (case aP => exact k65_mkM _ _ _ (⟨(rd_T65 l0_1 x14_3).f0, y169⟩ : S65) (Kd.R_mono (Kd.R_tight rfl (Kd.R_mono (ok' := fun k_ => ((fun _ => True)) k_ ∧ some k_ ≠ (u148001 : Value).ownBlock) (Kd.R_apart' (HO171.out) (Kd.S_typed HO_148001.out) (by decide)) (fun k_ hk => ⟨trivial, hk.2⟩))) (fun _ h_ => h_)))
              (case aB => exact (hbA_ HB.out))
              (case aF => exact (fun _ _ => trivial))
              (case aO => exact (by refine kS_ ?_; exact Kd.S_mono HO_148001.out (fun k_ hk => ⟨trivial, fun e_ => hk.2 e_⟩)))
              (case aS => exact (below_size (hbA_ HB.out)))
              (case aL => have := LMc85.out; omega)
              intro v173 w96 ho hb hg hat
              rw [← Ny172.out] at ho
              have n0_ := Aside0.mk (Kd.S_over' (kS_ HO_10.out) (Kd.S_typed (kS_ HO_148001.out)) (by decide) hg); have n1_ := Aside0.mk (Kd.Q_over' (by (with_reducible repeat (first | apply Kd.Q_alloc | apply Kd.Q_drewN | apply Kd.Q_drew)); exact HO_148000.out) (Kd.S_typed (kS_ HO_148001.out)) (by decide) hg); have n2_ := (bgA_ BK138 hg (Kd.S_ne HO_148001.out BK138.out (by decide))); have n3_ := (bgA_ BK139 hg (Kd.S_ne HO_148001.out BK139.out (by decide))); have n4_ := (bgA_ BK140 hg (Kd.S_ne HO_148001.out BK140.out (by decide))); have n5_ := (bgA_ BK147 hg (Kd.S_ne HO_148001.out BK147.out (by decide))); have n6_ := Aside0.mk (hb); have n7_ := Aside0.mk (ho); clear HO_10 HO_148000 BK138 BK139 BK140 BK147 HB HO_148001 HO171; have HO_10 := n0_; have HO_148000 := n1_; have BK138 := n2_; have BK139 := n3_; have BK140 := n4_; have BK147 := n5_; have HB := n6_; have HO174 := n7_; clear n0_ n1_ n2_ n3_ n4_ n5_ n6_ n7_ ho hb hg hat
              obtain ⟨Ao97, co97, eo97⟩ := Kd.S_slice HO174.out
              (first | subst eo97 | (injection eo97 with f1_ f2_ f3_; have f4_ := f1_.symm; have f5_ := f3_.symm; clear f1_ f2_ f3_; subst f4_; subst f5_))
              refine hK.out _ _ ⟨bc_ BK147 0, bc_ BK147 1, bc_ BK138 0, bc_ BK138 1, (by first | exact cc_ HB hw164_0 | exact cc_ ⟨hbA_ HB.out⟩ hw164_0), (by first | exact cc_ HB hw164_1 | exact cc_ ⟨hbA_ HB.out⟩ hw164_1), (by first | exact cc_ HB hw168_0 | exact cc_ ⟨hbA_ HB.out⟩ hw168_0), (by first | exact cc_ HB hw168_1 | exact cc_ ⟨hbA_ HB.out⟩ hw168_1)⟩ (fun hHeld => ?_)
              clear hK K; refine nm_ 107 ?_; refine pu_ (i := 19) (N := some 108) HT_ ?_
              refine last_ (i := 20) (N := none) #[true, true, true, true, true, true, true, true, true, true, true, true, true, true, true, true, true, true, true, true, true] rfl rfl (one_of HT_.out (by kernel_rfl)) (by decide) (fun K hK => ?_)
              have hs98 : w96.cell? ⟨gb147, 1, none⟩ = some (u148001) := bc_ BK147 1
              have hfs98 := blk_frozen BK147.out 1
              have hns98_0 := NB138_147.out; have hns98_1 := NB139_147.out; have hns98_2 := NB140_147.out; have hms98_0 := NB147_138.out; have hms98_1 := NB147_139.out; have hms98_2 := NB147_140.out
              refine skip_ (w1 := ?_) (by rfl) rfl ?_ ?_
              rotate_left
              ·go_simp
               rfl
              refine hK.out _ _ ?_
              clear hK K
              refine done_ (done_of HT_.out (by kernel_rfl)) ?_
              try go_wp2
              go_roundg k3
              case measure => have := HJ4.out; have := HK2.out; have := HK3.out; omega
              case rel => exact ⟨(x10_3), (x12_3), (wrap64 (x14_3 + 1)), (y172), (.slice Ao97 y172.length co97), (by first | rfl | (simp; done) | (simp [*]; done)), (by first | rfl | (simp; done) | (simp [*]; done)), H', ⟨by have := HJ4.out; have := HK2.out; have := HK3.out; omega⟩, ⟨by refine kS_ ?_; exact Kd.S_mono (Kd.S_far (p := ⟨gb147, 1, none⟩) (Kd.S_types HO_10.out BK147.out (by decide)) (fun _ hk => hk.2) (.slice Ao97 y172.length co97)) (fun _ hk => trivial)⟩, ⟨by (with_reducible repeat (first | apply Kd.Q_alloc | apply Kd.Q_drewN | apply Kd.Q_drew)); exact Kd.Q_mono (Kd.Q_far (p := ⟨gb147, 1, none⟩) (Kd.Q_types HO_148000.out BK147.out (by decide)) (fun _ hk => hk.2) (.slice Ao97 y172.length co97)) (fun _ hk => trivial)⟩, ⟨by refine kS_ ?_; exact Kd.S_mono (Kd.S_far (p := ⟨gb147, 1, none⟩) (Kd.S_types HO174.out BK147.out (by decide)) (fun _ hk => hk.2) (.slice Ao97 y172.length co97)) (fun _ hk => trivial)⟩, ⟨by exact kf_ BK138.out⟩, ⟨by exact kf_ BK139.out⟩, ⟨by exact kf_ BK140.out⟩, ⟨by refine kb_ ?_; refine blk_put (cs := #[u148000, u148001]) ?_ 1 _ rfl; refine kb_ ?_; exact BK147.out⟩, ⟨hbA_ HB.out⟩⟩
             ·rw [if_neg c85] at H
              exact absurd H (by simp)
            ·rw [if_neg c84] at H
             exact absurd H (by simp)
          ·rw [if_neg c69] at H
           exact absurd H (by simp)
         ·rw [if_neg c68] at H
          have c68b0 : decide (x14_3 < (l0_1.length : Int)) = false := decide_eq_false c68
          clear c68
          by_cases c99 : x12_3 = true
          ·subst c99
           rw [if_pos rfl] at H
           by_cases c100 : x148000_2.length < 5864062014805
           ·rw [if_pos c100] at H
            have LMc100 := Aside0.mk c100; clear c100
            obtain ⟨y184, hy184⟩ : ∃ y_ : List (S63), y_ = (x148000_2 ++ [(⟨a2_2, a2_1, wrap64 (a3 + 20)⟩ : S63)]) := ⟨_, rfl⟩
            (first | replace H := sb_ hy184 H | rw [← hy184] at H)
            have Ny184 := Aside0.mk hy184; clear hy184
            by_cases c101 : (y184.length : Int) > 4
            ·rw [if_pos c101] at H
             have c101b0 : decide (4 < (y184.length : Int)) = true := decide_eq_true c101
             have c101b1 : decide (4 < y184.length) = true := decide_eq_true (by omega)
             clear c101
             by_cases c102 : 1 ≤ (y184.length : Int)
             ·rw [if_pos c102] at H
              have c102b0 := eq_true c102
              have c102b1 : decide (1 ≤ (y184.length : Int)) = true := decide_eq_true c102
              clear c102
              obtain ⟨y187, hy187⟩ : ∃ y_ : List (S63), y_ = (y184.drop (1 : Int).toNat) := ⟨_, rfl⟩
              (first | replace H := sb_ hy187 H | rw [← hy187] at H)
              have Ny187 := Aside0.mk hy187; clear hy187
              simp only [Option.some.injEq, Prod.mk.injEq] at H
              obtain ⟨rfl, rfl, rfl⟩ := H
              have hnb103 := NB138_139.out; have hnc103 := NB139_138.out; have hnb104 := NB138_140.out; have hnc104 := NB140_138.out; have hnb105 := NB138_147.out; have hnc105 := NB147_138.out; have Z106 := zz2 BK138; have hnb107 := NB147_139.out; have hnc107 := NB139_147.out; have hnb108 := NB147_140.out; have hnc108 := NB140_147.out; have Z109 := zz2 BK147; have hnb110 := NB139_140.out; have hnc110 := NB140_139.out; have Z111 := zz4 BK139
              go_wp2_with (first | ((with_reducible refine gate_builtin (b := .append) (xs := #[.tmp 115, .tmp 123]) rfl ?_); at_builtin; refine Kd.Q_append k63 (w0 := w) w.heap.size rfl (.tmp 115) (.tmp 123) 29 63 (.agg #[(.int .i64 0), (.int .i64 0), (.int .i64 0)]) 24 rfl Try.underlying29 info63 rfl (by decide) (by omega) u148000 x148000_2 (⟨a2_2, a2_1, wrap64 (a3 + 20)⟩ : S63) [.int .i64 a2_2, .int .i64 a2_1, .int .i64 (wrap64 (a3 + 20))] (fun _ => True) (fun _ => False) rfl rfl ?aP (fun _ hk => hk.elim) ?aF ?aO ?aB ?aS ?aL ?_; (case aP => exact k63_mkM _ _ _ (⟨a2_2, a2_1, wrap64 (a3 + 20)⟩ : S63)); (case aB => exact (hbA_ HB.out)); (case aF => exact (fun _ _ => trivial)); (case aO => exact (by (with_reducible repeat (first | apply Kd.Q_alloc | apply Kd.Q_drewN | apply Kd.Q_drew)); exact HO_148000.out)); (case aS => exact (below_size (hbA_ HB.out))); (case aL => have := LMc100.out; omega); intro v185 w112 ho hb hg hat; rw [← Ny184.out] at ho; replace HO_10 := Aside0.mk (Kd.S_over' (kS_ HO_10.out) (Kd.Q_typed (by (with_reducible repeat (first | apply Kd.Q_alloc | apply Kd.Q_drewN | apply Kd.Q_drew)); exact HO_148000.out)) (by decide) hg); replace HO_148001 := Aside0.mk (Kd.S_over' (kS_ HO_148001.out) (Kd.Q_typed (by (with_reducible repeat (first | apply Kd.Q_alloc | apply Kd.Q_drewN | apply Kd.Q_drew)); exact HO_148000.out)) (by decide) hg); replace BK138 := (bgA_ BK138 hg (Kd.Q_ne HO_148000.out BK138.out (by decide))); replace BK139 := (bgA_ BK139 hg (Kd.Q_ne HO_148000.out BK139.out (by decide))); replace BK140 := (bgA_ BK140 hg (Kd.Q_ne HO_148000.out BK140.out (by decide))); replace BK147 := (bgA_ BK147 hg (Kd.Q_ne HO_148000.out BK147.out (by decide))); replace HB := Aside0.mk (hb); have HO186 := Aside0.mk (ho); clear HO_148000; clear ho hb hg hat; obtain ⟨Ao113, co113, eo113, _⟩ := Kd.Q_slice HO186.out; subst eo113; have Z114 := zz2 BK147) | ((with_reducible refine gate_store (t := 29) (p := 125) rfl ?_); refine store_event (t := 29) (p := 125) (v := ?vo_w115) (w1 := (w112.setCell ⟨gb147, 0, none⟩ (.slice Ao113 y184.length co113))) ?hg ?ho ?hn ?hr ?_; (case ho => rfl); (case hg => rfl); (case hn => rfl); (case hr => first | (go_simp; done) | (go_simp; rfl)); intro w115 hw; have n0_ : Aside0 (Kd.S (Kd.slice 5 (Kd.int .u8)) 44 w115 w.heap.size (fun _ => True) u10 x10_3) := ⟨(by rw [hw]; exact (by refine kS_ ?_; exact Kd.S_mono (Kd.S_far (p := ⟨gb147, 0, none⟩) (Kd.S_types HO_10.out BK147.out (by decide)) (fun _ hk => hk.2) (.slice Ao113 y184.length co113)) (fun _ hk => trivial)))⟩; have n1_ : Aside0 (Kd.S k65 65 w115 w.heap.size (fun _ => True) u148001 x148001_3) := ⟨(by rw [hw]; exact (by refine kS_ ?_; exact Kd.S_mono (Kd.S_far (p := ⟨gb147, 0, none⟩) (Kd.S_types HO_148001.out BK147.out (by decide)) (fun _ hk => hk.2) (.slice Ao113 y184.length co113)) (fun _ hk => trivial)))⟩; have n2_ : Aside0 (Kd.Q k63 63 w115 w.heap.size (fun _ => True) (.slice Ao113 y184.length co113) y184) := ⟨(by rw [hw]; exact (by (with_reducible repeat (first | apply Kd.Q_alloc | apply Kd.Q_drewN | apply Kd.Q_drew)); exact Kd.Q_mono (Kd.Q_far (p := ⟨gb147, 0, none⟩) (Kd.Q_types HO186.out BK147.out (by decide)) (fun _ hk => hk.2) (.slice Ao113 y184.length co113)) (fun _ hk => trivial)))⟩; have n3_ : Aside0 (w115.heap[gb138]? = some (.cells #[.slice A0_0 l0_0.length c0_0, .slice A0_1 l0_1.length c0_1] 32 (0, 0))) := ⟨(by rw [hw]; exact (by exact kf_ BK138.out))⟩; have n4_ : Aside0 (w115.heap[gb139]? = some (.cells #[.int .i64 a2_0, .int .i64 a2_1, .int .i64 a2_2, .int .i64 a2_3] 37 (0, 0))) := ⟨(by rw [hw]; exact (by exact kf_ BK139.out))⟩; have n5_ : Aside0 (w115.heap[gb140]? = some (.cells #[.slice none 0 0, .slice none 0 0] 32 (0, 0))) := ⟨(by rw [hw]; exact (by exact kf_ BK140.out))⟩; have n6_ : Aside0 (w115.heap[gb147]? = some (.cells #[.slice Ao113 y184.length co113, u148001] 32 (0, 0))) := ⟨(by rw [hw]; exact (by refine kb_ ?_; refine blk_put (cs := #[u148000, u148001]) ?_ 0 _ rfl; refine kb_ ?_; exact BK147.out))⟩; have n7_ : Aside0 (Below w.heap.size w w115) := ⟨(by rw [hw]; exact (hbA_ HB.out))⟩; clear hw; clear HO_10; clear HO_148001; clear HO186; clear BK138; clear BK139; clear BK140; clear BK147; clear HB; have HO_10 := n0_; have HO_148001 := n1_; have HO186 := n2_; have BK138 := n3_; have BK139 := n4_; have BK140 := n5_; have BK147 := n6_; have HB := n7_; clear n0_ n1_ n2_ n3_ n4_ n5_ n6_ n7_; have Z116 := zz2 BK147; have q117 : (1 : Int) ≤ ((y184.length : Int) : Int) := of_decide_eq_true (by first | (with_reducible assumption) | assumption); obtain ⟨i0117, hi0117, _, hsz117, _⟩ := info_parts info63; have hcut117 := cut_from (P := Try.prog) 29 63 .i64 Try.underlying29 hi0117 3 hsz117 Ao113 y184.length co113 1 (by omega) q117; have hr117 := Kd.Q_drop (k := (1 : Int).toNat) HO186.out (by omega); obtain ⟨A117, hA117⟩ : ∃ A1, A1 = (if co113 = (1 : Int).toNat then Ao113 else (Ao113 : Option Addr).map (·.add ((1 : Int).toNat * 3))) := ⟨_, rfl⟩; obtain ⟨c117, hc117⟩ : ∃ c1, c1 = co113 - (1 : Int).toNat := ⟨_, rfl⟩; have hy117 : y187.length = y184.length - (1 : Int).toNat := (by rw [Ny187.out, List.length_drop]); rw [← Ny187.out] at hr117; rw [← hy117, ← hA117, ← hc117] at hcut117; replace hr117 : Kd.Q k63 63 w115 w.heap.size (fun _ => True) (.slice A117 y187.length c117) y187 := (by rw [hA117, hc117, hy117]; exact hr117); have HE117 : Aside0 ((Value.slice A117 y187.length c117).ownBlock = (.slice Ao113 y184.length co113 : Value).ownBlock) := ⟨by rw [hA117]; split <;> (cases (Ao113 : Option Addr) <;> first | rfl | simp [Value.ownBlock, add_block])⟩; clear hy117 hi0117 hsz117 HO186 hA117 hc117; have HO189 := Aside0.mk hr117; clear hr117; replace q117 := eq_true q117; have Z118 := zz2 BK140; obtain ⟨Ao119, co119, eo119⟩ := Kd.S_slice HO_148001.out; subst eo119))
              refine bodyPost_ret (results_ct rfl _ _ gb140 32 #[.slice A117 y187.length c117, .slice Ao119 x148001_3.length co119] (0, 0) _ rfl (by refine kb_ ?_; refine pz2 (cs := #[.slice none 0 0, .slice none 0 0]) ?_; exact kf_ BK140.out) Try.underlying32 rfl (by kernel_rfl)) rfl ?_
              exact ⟨_, _, _, by first | rfl | (simp [errW_none, errW_some] <;> rfl) | (simp [*, errW_none, errW_some] <;> rfl), by (with_reducible repeat (first | apply Kd.Q_alloc | apply Kd.Q_drewN | apply Kd.Q_drew)); exact Kd.Q_mono (Kd.Q_far (p := ⟨gb140, 1, none⟩) (Kd.Q_far (p := ⟨gb140, 0, none⟩) (Kd.Q_far (p := ⟨gb147, 0, none⟩) (Kd.Q_types (Kd.Q_types HO189.out BK147.out (by decide)) BK140.out (by decide)) (fun _ hk => hk.1.2) (.slice A117 y187.length c117)) (fun _ hk => hk.2) (.slice A117 y187.length c117)) (fun _ hk => hk.2) (.slice Ao119 x148001_3.length co119)) (fun _ hk => trivial), by refine kS_ ?_; exact Kd.S_mono (Kd.S_far (p := ⟨gb140, 1, none⟩) (Kd.S_far (p := ⟨gb140, 0, none⟩) (Kd.S_far (p := ⟨gb147, 0, none⟩) (Kd.S_types (Kd.S_types HO_148001.out BK147.out (by decide)) BK140.out (by decide)) (fun _ hk => hk.1.2) (.slice A117 y187.length c117)) (fun _ hk => hk.2) (.slice A117 y187.length c117)) (fun _ hk => hk.2) (.slice Ao119 x148001_3.length co119)) (fun _ hk => trivial), by refine kS_ ?_; exact Kd.S_mono (Kd.S_far (p := ⟨gb140, 1, none⟩) (Kd.S_far (p := ⟨gb140, 0, none⟩) (Kd.S_far (p := ⟨gb147, 0, none⟩) (Kd.S_types (Kd.S_types HO_10.out BK147.out (by decide)) BK140.out (by decide)) (fun _ hk => hk.1.2) (.slice A117 y187.length c117)) (fun _ hk => hk.2) (.slice A117 y187.length c117)) (fun _ hk => hk.2) (.slice Ao119 x148001_3.length co119)) (fun _ hk => trivial), hbA_ HB.out⟩
             ·rw [if_neg c102] at H
              exact absurd H (by simp)
            ·rw [if_neg c101] at H
             have c101b0 : decide (4 < (y184.length : Int)) = false := decide_eq_false c101
             have c101b1 : decide (4 < y184.length) = false := decide_eq_false (by omega)
             clear c101
             simp only [Option.some.injEq, Prod.mk.injEq] at H
             obtain ⟨rfl, rfl, rfl⟩ := H
             have hnb120 := NB138_139.out; have hnc120 := NB139_138.out; have hnb121 := NB138_140.out; have hnc121 := NB140_138.out; have hnb122 := NB138_147.out; have hnc122 := NB147_138.out; have Z123 := zz2 BK138; have hnb124 := NB147_139.out; have hnc124 := NB139_147.out; have hnb125 := NB147_140.out; have hnc125 := NB140_147.out; have Z126 := zz2 BK147; have hnb127 := NB139_140.out; have hnc127 := NB140_139.out; have Z128 := zz4 BK139
             go_wp2_with (first | ((with_reducible refine gate_builtin (b := .append) (xs := #[.tmp 115, .tmp 123]) rfl ?_); at_builtin; refine Kd.Q_append k63 (w0 := w) w.heap.size rfl (.tmp 115) (.tmp 123) 29 63 (.agg #[(.int .i64 0), (.int .i64 0), (.int .i64 0)]) 24 rfl Try.underlying29 info63 rfl (by decide) (by omega) u148000 x148000_2 (⟨a2_2, a2_1, wrap64 (a3 + 20)⟩ : S63) [.int .i64 a2_2, .int .i64 a2_1, .int .i64 (wrap64 (a3 + 20))] (fun _ => True) (fun _ => False) rfl rfl ?aP (fun _ hk => hk.elim) ?aF ?aO ?aB ?aS ?aL ?_; (case aP => exact k63_mkM _ _ _ (⟨a2_2, a2_1, wrap64 (a3 + 20)⟩ : S63)); (case aB => exact (hbA_ HB.out)); (case aF => exact (fun _ _ => trivial)); (case aO => exact (by (with_reducible repeat (first | apply Kd.Q_alloc | apply Kd.Q_drewN | apply Kd.Q_drew)); exact HO_148000.out)); (case aS => exact (below_size (hbA_ HB.out))); (case aL => have := LMc100.out; omega); intro v185 w129 ho hb hg hat; rw [← Ny184.out] at ho; replace HO_10 := Aside0.mk (Kd.S_over' (kS_ HO_10.out) (Kd.Q_typed (by (with_reducible repeat (first | apply Kd.Q_alloc | apply Kd.Q_drewN | apply Kd.Q_drew)); exact HO_148000.out)) (by decide) hg); replace HO_148001 := Aside0.mk (Kd.S_over' (kS_ HO_148001.out) (Kd.Q_typed (by (with_reducible repeat (first | apply Kd.Q_alloc | apply Kd.Q_drewN | apply Kd.Q_drew)); exact HO_148000.out)) (by decide) hg); replace BK138 := (bgA_ BK138 hg (Kd.Q_ne HO_148000.out BK138.out (by decide))); replace BK139 := (bgA_ BK139 hg (Kd.Q_ne HO_148000.out BK139.out (by decide))); replace BK140 := (bgA_ BK140 hg (Kd.Q_ne HO_148000.out BK140.out (by decide))); replace BK147 := (bgA_ BK147 hg (Kd.Q_ne HO_148000.out BK147.out (by decide))); replace HB := Aside0.mk (hb); have HO186 := Aside0.mk (ho); clear HO_148000; clear ho hb hg hat; obtain ⟨Ao130, co130, eo130, _⟩ := Kd.Q_slice HO186.out; subst eo130; have Z131 := zz2 BK147; have Z132 := zz2 BK140; obtain ⟨Ao133, co133, eo133⟩ := Kd.S_slice HO_148001.out; subst eo133))
             refine bodyPost_ret (results_ct rfl _ _ gb140 32 #[.slice Ao130 y184.length co130, .slice Ao133 x148001_3.length co133] (0, 0) _ rfl (by refine kb_ ?_; refine pz2 (cs := #[.slice none 0 0, .slice none 0 0]) ?_; exact kf_ BK140.out) Try.underlying32 rfl (by kernel_rfl)) rfl ?_
             exact ⟨_, _, _, by first | rfl | (simp [errW_none, errW_some] <;> rfl) | (simp [*, errW_none, errW_some] <;> rfl), by (with_reducible repeat (first | apply Kd.Q_alloc | apply Kd.Q_drewN | apply Kd.Q_drew)); exact Kd.Q_mono (Kd.Q_far (p := ⟨gb140, 1, none⟩) (Kd.Q_far (p := ⟨gb140, 0, none⟩) (Kd.Q_far (p := ⟨gb147, 0, none⟩) (Kd.Q_types (Kd.Q_types HO186.out BK147.out (by decide)) BK140.out (by decide)) (fun _ hk => hk.1.2) (.slice Ao130 y184.length co130)) (fun _ hk => hk.2) (.slice Ao130 y184.length co130)) (fun _ hk => hk.2) (.slice Ao133 x148001_3.length co133)) (fun _ hk => trivial), by refine kS_ ?_; exact Kd.S_mono (Kd.S_far (p := ⟨gb140, 1, none⟩) (Kd.S_far (p := ⟨gb140, 0, none⟩) (Kd.S_far (p := ⟨gb147, 0, none⟩) (Kd.S_types (Kd.S_types HO_148001.out BK147.out (by decide)) BK140.out (by decide)) (fun _ hk => hk.1.2) (.slice Ao130 y184.length co130)) (fun _ hk => hk.2) (.slice Ao130 y184.length co130)) (fun _ hk => hk.2) (.slice Ao133 x148001_3.length co133)) (fun _ hk => trivial), by refine kS_ ?_; exact Kd.S_mono (Kd.S_far (p := ⟨gb140, 1, none⟩) (Kd.S_far (p := ⟨gb140, 0, none⟩) (Kd.S_far (p := ⟨gb147, 0, none⟩) (Kd.S_types (Kd.S_types HO_10.out BK147.out (by decide)) BK140.out (by decide)) (fun _ hk => hk.1.2) (.slice Ao130 y184.length co130)) (fun _ hk => hk.2) (.slice Ao130 y184.length co130)) (fun _ hk => hk.2) (.slice Ao133 x148001_3.length co133)) (fun _ hk => trivial), hbA_ HB.out⟩
           ·rw [if_neg c100] at H
            exact absurd H (by simp)
          ·replace c99 := Bool.eq_false_iff.mpr c99
           subst c99
           rw [if_neg (show ¬ (false = true) by decide)] at H
           replace H := Option.bind_eq_some_iff.mp H
           obtain ⟨⟨t175, t178⟩, A1340, H⟩ := H
           (try dsimp only at H)
           have A134 := Aside0.mk A1340; clear A1340
           obtain ⟨y181, hy181⟩ : ∃ y_ : List (List Int), y_ = (([] : List (List Int))) := ⟨_, rfl⟩
           (first | replace H := sb_ hy181 H | rw [← hy181] at H)
           have Ny181 := Aside0.mk hy181; clear hy181
           simp only [Option.some.injEq, Prod.mk.injEq] at H
           obtain ⟨rfl, rfl, rfl⟩ := H
           have hnb135 := NB138_139.out; have hnc135 := NB139_138.out; have hnb136 := NB138_140.out; have hnc136 := NB140_138.out; have hnb137 := NB138_147.out; have hnc137 := NB147_138.out; have Z138 := zz2 BK138
           go_wp2_with (first | ((with_reducible refine gate_callee (f := 34) rfl ?_); refine goesL_ (some 112) rfl rfl Try.func34 (by kernel_rfl) rfl #[.agg #[.slice A0_0 l0_0.length c0_0, .slice A0_1 l0_1.length c0_1]] rfl ar_ ?_; (with_reducible refine (spec_l3Copy.calls k3 _ _ l0_0 _ _ l0_1 t175 t178 _ ?side1 ?side2 ?side3 ?side4 A134.out).mono ?_); (case side1 => exact kC_ (Kd.C_below HR0_0.out HB.out)); (case side2 => exact HC0_0.out); (case side3 => exact kC_ (Kd.C_below HR0_1.out HB.out)); (case side4 => exact HC0_1.out); rintro e w139 ⟨v176, v179, rfl, ho0, ho1, hb⟩; refine ⟨_, rfl, ?_⟩; replace HO_10 := Aside0.mk (Kd.S_below (kS_ HO_10.out) hb); have HO177 := Aside0.mk (Kd.R_lower (Kd.R_new' ho0 (Kd.Q_lt (by (with_reducible repeat (first | apply Kd.Q_alloc | apply Kd.Q_drewN | apply Kd.Q_drew)); exact HO_148000.out))) (below_size (hbA_ HB.out))); replace HO_148000 := Aside0.mk (Kd.Q_elder' (by (with_reducible repeat (first | apply Kd.Q_alloc | apply Kd.Q_drewN | apply Kd.Q_drew)); exact HO_148000.out) (Kd.R_base ho0) hb); have HO180 := Aside0.mk (Kd.S_lower (Kd.S_new' ho1 (Kd.S_lt (kS_ HO_148001.out))) (below_size (hbA_ HB.out))); replace HO_148001 := Aside0.mk (Kd.S_elder' (kS_ HO_148001.out) (Kd.S_base ho1) hb); replace BK138 := (bbA_ BK138 hb); replace BK139 := (bbA_ BK139 hb); replace BK140 := (bbA_ BK140 hb); replace BK147 := (bbA_ BK147 hb); replace HB := (bs_ HB hb); (try clear hb); (try clear hb2); (try clear hk); (try clear hi); (try clear ho0); (try clear ho1)) | ((with_reducible refine gate_dst (N := 113) rfl ?_); refine Kd.S_lit (Kd.slice 5 (Kd.int .u8)) _ 44 ?hg (N := 113) ?hd (xs := ([] : List (List Int))) (inner := []) (ok := fun _ => True) (okp := fun _ => True) ?hr ?hp (fun _ hk => hk) trivial (Below.refl _ _) (Nat.le_refl _) (by simp) ?_; (case hd => rfl); (case hg => rfl); (case hr => first | (go_simp; done) | (go_simp; rfl)); (case hp => exact (Reps.none _ _)); intro v182 w140 ho141 hb hg_ hnew_; clear hg_ hnew_; (first | rw [← Ny181.out] at ho141 | (simp only [Int.reduceToNat] at ho141; rw [← Ny181.out] at ho141)); replace HO_148000 := Aside0.mk (Kd.Q_below (by (with_reducible repeat (first | apply Kd.Q_alloc | apply Kd.Q_drewN | apply Kd.Q_drew)); exact HO_148000.out) hb); replace HO_148001 := Aside0.mk (Kd.S_below (kS_ HO_148001.out) hb); replace HO177 := Aside0.mk (Kd.R_below (kR_ HO177.out) hb); replace HO180 := Aside0.mk (Kd.S_below (kS_ HO180.out) hb); have HO183 := Aside0.mk (Kd.S_lower (Kd.S_new' ho141 (Kd.S_lt (kS_ HO_10.out))) (below_size (hbA_ HB.out))); replace HO_10 := Aside0.mk (Kd.S_elder' (kS_ HO_10.out) (Kd.S_base ho141) hb); replace BK138 := (bbA_ BK138 hb); replace BK139 := (bbA_ BK139 hb); replace BK140 := (bbA_ BK140 hb); replace BK147 := (bbA_ BK147 hb); replace HB := (bs_ HB hb); clear hb ho141; obtain ⟨Ao142, co142, eo142⟩ := Kd.R_slice HO177.out; subst eo142; have hnb143 := NB140_139.out; have hnc143 := NB139_140.out; have hnb144 := NB140_147.out; have hnc144 := NB147_140.out; have Z145 := zz2 BK140; obtain ⟨Ao146, co146, eo146⟩ := Kd.S_slice HO180.out; subst eo146))
           refine bodyPost_ret (results_ct rfl _ _ gb140 32 #[.slice Ao142 t175.length co142, .slice Ao146 t178.length co146] (0, 0) _ rfl (by refine kb_ ?_; refine pz2 (cs := #[.slice none 0 0, .slice none 0 0]) ?_; refine kb_ ?_; exact BK140.out) Try.underlying32 rfl (by kernel_rfl)) rfl ?_
           exact ⟨_, _, _, by first | rfl | (simp [errW_none, errW_some] <;> rfl) | (simp [*, errW_none, errW_some] <;> rfl), Kd.Q_of_R (by refine kR_ ?_; exact rfm_ ((Kd.R_types HO177.out BK140.out (by decide))) (fun _ hk => trivial)), by refine kS_ ?_; exact Kd.S_mono (Kd.S_far (p := ⟨gb140, 1, none⟩) (Kd.S_far (p := ⟨gb140, 0, none⟩) (Kd.S_types HO180.out BK140.out (by decide)) (fun _ hk => hk.2) (.slice Ao142 t175.length co142)) (fun _ hk => hk.2) (.slice Ao146 t178.length co146)) (fun _ hk => trivial), by refine kS_ ?_; exact Kd.S_mono (Kd.S_far (p := ⟨gb140, 1, none⟩) (Kd.S_far (p := ⟨gb140, 0, none⟩) (Kd.S_types HO183.out BK140.out (by decide)) (fun _ hk => hk.2) (.slice Ao142 t175.length co142)) (fun _ hk => hk.2) (.slice Ao146 t178.length co146)) (fun _ hk => trivial), hbA_ HB.out⟩
def impl_in.f (a0 : Int) (a1 : Int) (a2 : Int) : Option (Bool) := if a0 ≥ a1 then (some (decide (a0 ≤ a2))) else (some false)
set_option maxHeartbeats 8000000 in
set_option maxRecDepth 100000 in
theorem impl_in.calls (a0 : Int) (a1 : Int) (a2 : Int) (r : Bool) (w : World) (h : impl_in.f a0 a1 a2 = some r) :
  Calls Try.prog 37 #[.int .i64 a0, .int .i64 a1, .int .i64 a2] w fun e w' => e = .returned (.bool r) ∧ Drawn0 w w' := by
 have H : (if a0 ≥ a1 then (some (decide (a0 ≤ a2))) else (some false)) = some r := h
 clear h
 by_cases c4 : a0 ≥ a1
 ·rw [if_pos c4] at H
  have c4b0 : decide (a1 ≤ a0) = true := decide_eq_true c4
  clear c4
  obtain rfl := Option.some.inj H
  go_enter Try.func37, Try.ntmps37
  go_wp2
  go_ret
  exact ⟨by first | rfl | (simp; done) | (simp [*]; done), by repeat (first | exact Drawn0.refl _ | apply Drawn0.step)⟩
 ·rw [if_neg c4] at H
  have c4b0 : decide (a1 ≤ a0) = false := decide_eq_false c4
  clear c4
  obtain rfl := Option.some.inj H
  go_enter Try.func37, Try.ntmps37
  go_wp2
  go_ret
  exact ⟨by first | rfl | (simp; done) | (simp [*]; done), by repeat (first | exact Drawn0.refl _ | apply Drawn0.step)⟩
-- NOT PRINTED: function 69 (impl_NearEntry_69)
def impl_Near_at_ix.at (a : Int) : Nat → List S63 → Int
  | _, [] => -1
  | j, e :: l => if e.f0 == a then (j : Int) else impl_Near_at_ix.at a (j + 1) l
theorem impl_Near_at_ix.at_drop (a : Int) (l : List S63) (j : Nat) (h : j < l.length) : impl_Near_at_ix.at a j (l.drop j) = if (rd_T63 l (j : Int)).f0 == a then (j : Int) else impl_Near_at_ix.at a (j + 1) (l.drop (j + 1)) := by
  rw [List.drop_eq_getElem_cons h, impl_Near_at_ix.at]
  simp [rd_T63, List.getD_eq_getElem?_getD, List.getElem?_eq_getElem h]
set_option maxHeartbeats 2000000 in
theorem impl_Near_at_ix.pred (gb : Nat) (a : Int) (e : S63) (w0 : World) (hgb : gb < w0.heap.size) (hcell : w0.cell? ⟨gb, 0, none⟩ = some (.int .i64 a)) (W : World) (hb : Below w0.heap.size w0 W) :
    Calls Try.prog 70 #[.agg #[.int .i64 e.f0, .int .i64 e.f1, .int .i64 e.f2], .pointer (some ⟨gb, 0, none⟩)] W fun r w' => r = .returned (.bool (e.f0 == a)) ∧ Below w0.heap.size w0 w' := by
  have hc : W.cell? ⟨gb, 0, none⟩ = some (.int .i64 a) := (hb.cell (p := ⟨gb, 0, none⟩) hgb).trans hcell
  have hBW : gb < W.heap.size := Nat.lt_of_lt_of_le hgb hb.size
  have hne : gb ≠ W.heap.size := by omega
  go_enter Try.func70, Try.ntmps70
  go_wp2
  all_goals (go_ret; exact ⟨by simp_all, hb.alloc hb.size _⟩)
set_option maxHeartbeats 4000000 in
theorem impl_Near_at_ix.calls (gb : Nat) (a : Int) (A : Option Addr) (n c : Nat) (l : List S63) (hn : n = l.length) (hbig : l.length ≤ 140737488351232) (w : World) (hgb : gb < w.heap.size) (hcell : w.cell? ⟨gb, 0, none⟩ = some (.int .i64 a)) (hr : Kd.C k63 w A n l) :
    Calls Try.prog 69 #[.slice A n c, .func (.func 70) #[] #[.pointer (some ⟨gb, 0, none⟩)]] w fun e w' => e = .returned (.int .i64 (impl_Near_at_ix.at a 0 l)) ∧ Below w.heap.size w w' := by
  subst hn
  have HR := Aside0.mk hr
  have HP := Aside0.mk (fun (e : S63) => impl_Near_at_ix.pred gb a e w hgb hcell)
  clear hcell hr
  go_enter Try.func69, Try.ntmps69
  go_wp2
  go_loopg [5, 8] l.length (fun gg _ s8 wr => ∃ kk : Nat, kk ≤ l.length ∧ l.length - kk ≤ gg ∧ s8 = .int .i64 kk ∧ Aside0 (Below w.heap.size w wr) ∧ Aside0 (impl_Near_at_ix.at a 0 l = impl_Near_at_ix.at a kk (l.drop kk)))
  case atStart => exact ⟨0, Nat.zero_le _, by omega, rfl, ⟨Below.refl _ w⟩, ⟨rfl⟩⟩
  case round =>
    obtain ⟨kk, hkk, hg, rfl, HB, HA⟩ := hrel
    by_cases hlt : kk < l.length
    · have hltz : (kk : Int) < (l.length : Int) := by omega
      have hstep := impl_Near_at_ix.at_drop a l kk hlt
      obtain ⟨ad, e1, hx0, hx1, hx2⟩ := at_T63 HR.out (kk : Int) (by omega) (by omega)
      cases e1
      replace hx0 := cc_ HB hx0
      replace hx1 := cc_ HB hx1
      replace hx2 := cc_ HB hx2
      simp only [Int.toNat_natCast] at hx0 hx1 hx2
      have hcall := HP.out (rd_T63 l (kk : Int)) wr HB.out
      have HS := Aside0.mk hstep; clear hstep
      generalize rd_T63 l (kk : Int) = y at *
      cases hq : (y.f0 == a) with
      | true =>
        rw [hq] at hcall; replace hcall := Aside0.mk hcall
        go_wp2_with (first | ((with_reducible refine gateT_ (u := 11) rfl ?_); refine goesB_ (u := 11) (some 16) rfl rfl Try.func70 (by kernel_rfl) rfl #[.agg #[.int .i64 y.f0, .int .i64 y.f1, .int .i64 y.f2]] #[.pointer (some ⟨gb, 0, none⟩)] rfl rfl ar_ ?_; refine Calls.mono hcall.out ?_; rintro e w' ⟨rfl, hb'⟩; refine ⟨_, rfl, ?_⟩; have HB2 := Aside0.mk hb'; clear hb'))
        go_ret
        refine ⟨?_, HB2.out⟩
        rw [HA.out, HS.out, hq]; rfl
      | false =>
        rw [hq] at hcall; replace hcall := Aside0.mk hcall
        go_wp2_with (first | ((with_reducible refine gateT_ (u := 11) rfl ?_); refine goesB_ (u := 11) (some 16) rfl rfl Try.func70 (by kernel_rfl) rfl #[.agg #[.int .i64 y.f0, .int .i64 y.f1, .int .i64 y.f2]] #[.pointer (some ⟨gb, 0, none⟩)] rfl rfl ar_ ?_; refine Calls.mono hcall.out ?_; rintro e w' ⟨rfl, hb'⟩; refine ⟨_, rfl, ?_⟩; have HB2 := Aside0.mk hb'; clear hb'))
        go_roundg (l.length - (kk + 1))
        case measure => omega
        case rel =>
          refine ⟨kk + 1, by omega, by omega, by go_num, HB2, ⟨?_⟩⟩
          rw [HA.out, HS.out, hq]; rfl
    · have hltz : ¬ (kk : Int) < (l.length : Int) := by omega
      have : kk = l.length := by omega
      subst this
      go_wp2
      go_ret
      refine ⟨?_, HB.out⟩
      rw [HA.out, List.drop_length]; rfl
def impl_Near_at.f (l0_0 : List (S63)) (l0_1 : List (S65)) (a1 : Int) : Option (Int) := if l0_0.length ≤ 140737488351232 then some (impl_Near_at_ix.at a1 0 l0_0) else none
set_option maxHeartbeats 4000000 in
theorem impl_Near_at.calls (A0_0 : Option Addr) (c0_0 : Nat) (l0_0 : List (S63)) (A0_1 : Option Addr) (c0_1 : Nat) (l0_1 : List (S65)) (a1 : Int) (r : Int) (w : World) (hr0_0 : Kd.C k63 w A0_0 l0_0.length l0_0) (hc0_0 : l0_0.length ≤ c0_0) (hr0_1 : Kd.C k65 w A0_1 l0_1.length l0_1) (hc0_1 : l0_1.length ≤ c0_1) (h : impl_Near_at.f l0_0 l0_1 a1 = some r) :
    Calls Try.prog 39 #[.agg #[.slice A0_0 l0_0.length c0_0, .slice A0_1 l0_1.length c0_1], .int .i64 a1] w fun e w' => e = .returned (.int .i64 r) ∧ Below w.heap.size w w' := by
  obtain ⟨hbig, rfl⟩ : l0_0.length ≤ 140737488351232 ∧ impl_Near_at_ix.at a1 0 l0_0 = r := by
    unfold impl_Near_at.f at h; split at h
    · exact ⟨by assumption, Option.some.inj h⟩
    · cases h
  have hu32 := Try.underlying32
  have HR0_0 := Aside0.mk hr0_0; clear hr0_0 hr0_1 h
  have HB := Aside0.mk (Below.refl w.heap.size w)
  go_enter Try.func39, Try.ntmps39
  go_wp2_with (first
    | ((with_reducible refine gate_dst (N := 2) rfl ?_); (try (refine gate_guard (by rfl) ?_; dsimp only)); refine box_ (N := 2) (cs := #[.slice A0_0 l0_0.length c0_0, .slice A0_1 l0_1.length c0_1]) (t := 32) (fun gb1 hg w2 hbox hb => ?_); have BK1 := Aside0.mk (hbox); replace HB := (bs_ HB hb); clear hb hbox hg)
    | ((with_reducible refine gate_dst (N := 3) rfl ?_); (try (refine gate_guard (by rfl) ?_; dsimp only)); refine box_ (N := 3) (cs := #[.int .i64 a1]) (t := 3) (fun gb2 hg w3 hbox hb => ?_); have BK2 := Aside0.mk (hbox); replace HB := (bs_ HB hb); have NB1_2 := nl_ hg BK1; have NB2_1 := ng_ hg BK1; replace BK1 := (bbA_ BK1 hb); clear hb hbox hg; have hnb1 := NB1_2.out; have hnb2 := NB2_1.out; have Z1 := zz2 BK1)
    | ((with_reducible refine gate_callee (f := 69) rfl ?_); refine goesL_ (some 8) rfl rfl Try.func69 (by kernel_rfl) rfl #[.slice A0_0 l0_0.length c0_0, .func (.func 70) #[] #[.pointer (some ⟨gb2, 0, none⟩)]] rfl ar_ ?_; (with_reducible refine (impl_Near_at_ix.calls gb2 a1 _ _ _ l0_0 rfl hbig _ ?side1 ?side2 ?side3).mono ?_); (case side1 => exact (Array.getElem?_eq_some_iff.1 (kb_ BK2.out)).1); (case side2 => exact (blk_cell (kb_ BK2.out) 0).trans rfl); (case side3 => exact kC_ (Kd.C_below HR0_0.out HB.out)); rintro e w14 ⟨rfl, hb⟩; refine ⟨_, rfl, ?_⟩; replace HB := (bs_ HB hb); clear hb))
  go_ret
  exact ⟨rfl, hbA_ HB.out⟩
def impl_word.f (a0 : Int) : Option (Bool) := (impl_in.f a0 0 65535).bind fun t190 => (some t190)
set_option maxHeartbeats 8000000 in
set_option maxRecDepth 100000 in
theorem impl_word.calls (a0 : Int) (r : Bool) (w : World) (h : impl_word.f a0 = some r) :
  Calls Try.prog 61 #[.int .i64 a0] w fun e w' => e = .returned (.bool r) ∧ Drawn0 w w' := by
 have H : ((impl_in.f a0 0 65535).bind fun t190 => (some t190)) = some r := h
 clear h
 replace H := Option.bind_eq_some_iff.mp H
 obtain ⟨t190, A20, H⟩ := H
 (try dsimp only at H)
 have A2 := Aside0.mk A20; clear A20
 obtain rfl := Option.some.inj H
 go_enter Try.func61, Try.ntmps61
 go_wp2_with (first | ((with_reducible refine gate_callee (f := 37) rfl ?_); refine goesL_ (some 4) rfl rfl Try.func37 (by kernel_rfl) rfl #[.int .i64 a0, .int .i64 0, .int .i64 65535] rfl ar_ ?_; (with_reducible refine (impl_in.calls a0 0 65535 t190 _ A2.out).mono ?_); rintro e w' ⟨rfl, ⟨nd, rfl⟩⟩; refine ⟨_, rfl, ?_⟩))
 go_ret
 exact ⟨by first | rfl | (simp; done) | (simp [*]; done), by repeat (first | exact Drawn0.refl _ | apply Drawn0.step)⟩
def impl_NearOk_1.f (a0_0 : Int) (l0_1 : List Int) : Option (Bool) := (impl_word.f a0_0).bind fun t192 => (if t192 = true then (some (decide ((l0_1.length : Int) > 64))) else (some true))
set_option maxHeartbeats 8000000 in
set_option maxRecDepth 100000 in
theorem impl_NearOk_1.calls (a0_0 : Int) (A0_1 : Option Addr) (c0_1 : Nat) (l0_1 : List Int) (r : Bool) (w : World) (hr0_1 : Kd.C (Kd.int .u8) w A0_1 l0_1.length l0_1) (hc0_1 : l0_1.length ≤ c0_1) (h : impl_NearOk_1.f a0_0 l0_1 = some r) :
  Calls Try.prog 62 #[.agg #[.int .i64 a0_0, .slice A0_1 l0_1.length c0_1]] w fun e w' => e = .returned (.bool r) ∧ Below w.heap.size w w' := by
 have hu65 := Try.underlying65; have HR0_1 := Aside0.mk hr0_1; have HC0_1 := Aside0.mk hc0_1; clear hr0_1 hc0_1
 have HB := Aside0.mk (Below.refl w.heap.size w)
 have H : ((impl_word.f a0_0).bind fun t192 => (if t192 = true then (some (decide ((l0_1.length : Int) > 64))) else (some true))) = some r := h
 clear h
 replace H := Option.bind_eq_some_iff.mp H
 obtain ⟨t192, A20, H⟩ := H
 (try dsimp only at H)
 have A2 := Aside0.mk A20; clear A20
 by_cases c3 : t192 = true
 ·subst c3
  rw [if_pos rfl] at H
  obtain rfl := Option.some.inj H
  go_enter Try.func62, Try.ntmps62
  go_wp2_with (first | ((with_reducible refine gate_dst (N := 1) rfl ?_); (try (refine gate_guard (by rfl) ?_; dsimp only)); refine box_ (N := 1) (cs := #[.int .i64 a0_0, .slice A0_1 l0_1.length c0_1]) (t := 65) (fun gb191 hg w4 hbox hb => ?_); have BK191 := Aside0.mk (hbox); have GW191 := ge_ hg HB; have GE191 := ge_ hg HB; replace HB := (bs_ HB hb); clear hb hbox hg; have Z5 := zz2 BK191) | ((with_reducible refine gate_callee (f := 61) rfl ?_); refine goesL_ (some 5) rfl rfl Try.func61 (by kernel_rfl) rfl #[.int .i64 a0_0] rfl ar_ ?_; (with_reducible refine (impl_word.calls a0_0 true _ A2.out).mono ?_); rintro e w' ⟨rfl, ⟨nd, rfl⟩⟩; refine ⟨_, rfl, ?_⟩))
  go_ret
  exact ⟨by first | rfl | (simp [errW_none, errW_some] <;> rfl) | (simp [*, errW_none, errW_some] <;> rfl), hbA_ HB.out⟩
 ·replace c3 := Bool.eq_false_iff.mpr c3
  subst c3
  rw [if_neg (show ¬ (false = true) by decide)] at H
  obtain rfl := Option.some.inj H
  go_enter Try.func62, Try.ntmps62
  go_wp2_with (first | ((with_reducible refine gate_dst (N := 1) rfl ?_); (try (refine gate_guard (by rfl) ?_; dsimp only)); refine box_ (N := 1) (cs := #[.int .i64 a0_0, .slice A0_1 l0_1.length c0_1]) (t := 65) (fun gb191 hg w6 hbox hb => ?_); have BK191 := Aside0.mk (hbox); have GW191 := ge_ hg HB; have GE191 := ge_ hg HB; replace HB := (bs_ HB hb); clear hb hbox hg; have Z7 := zz2 BK191) | ((with_reducible refine gate_callee (f := 61) rfl ?_); refine goesL_ (some 5) rfl rfl Try.func61 (by kernel_rfl) rfl #[.int .i64 a0_0] rfl ar_ ?_; (with_reducible refine (impl_word.calls a0_0 false _ A2.out).mono ?_); rintro e w' ⟨rfl, ⟨nd, rfl⟩⟩; refine ⟨_, rfl, ?_⟩))
  go_ret
  exact ⟨by first | rfl | (simp [errW_none, errW_some] <;> rfl) | (simp [*, errW_none, errW_some] <;> rfl), hbA_ HB.out⟩
def impl_NearHeld_71.l0 : Nat → List (S65) → Int → Int → Option (Int)
 | 0, _, _, _ => none
 | k + 1, x0, x7, x8 => if x8 < x7 then (if 0 ≤ x8 then (if x8 < (x0.length : Int) then ((impl_NearOk_1.f ((rd_T65 x0 x8).f0) ((rd_T65 x0 x8).f1)).bind fun t194 => (if t194 = true then (some x8) else (impl_NearHeld_71.l0 k x0 x7 (wrap64 (x8 + 1))))) else (none)) else (none)) else (some (-1))
def impl_NearHeld_71.f (k : Nat) (l0 : List (S65)) : Option (Int) := impl_NearHeld_71.l0 k l0 (l0.length : Int) 0
theorem impl_NearHeld_71.mono_l : ∀ k, (∀ y0 y1 y2, LeO (impl_NearHeld_71.l0 k y0 y1 y2) (impl_NearHeld_71.l0 (k + 1) y0 y1 y2))
 | 0 => fun _ _ _ r h => by simp [impl_NearHeld_71.l0] at h
 | k + 1 => by
  have ih0 := impl_NearHeld_71.mono_l k
  ·intro y0 y1 y2
   unfold impl_NearHeld_71.l0
   repeat' first | (with_reducible first | apply ih0 | exact LeO.refl _ | exact LeO.none _ | refine LeO.ite ?_ ?_ | refine LeO.bind ?_ fun _ => ?_) | apply ih0 | exact LeO.none _ | refine LeO.ite ?_ ?_ | refine LeO.bind ?_ fun _ => ?_
theorem impl_NearHeld_71.mono : ∀ a0 k, LeO (impl_NearHeld_71.f k a0) (impl_NearHeld_71.f (k + 1) a0) := by
 intro a0 k
 have ih0 := impl_NearHeld_71.mono_l k
 unfold impl_NearHeld_71.f
 repeat' first | (with_reducible first | apply ih0 | exact LeO.refl _ | exact LeO.none _ | refine LeO.ite ?_ ?_ | refine LeO.bind ?_ fun _ => ?_) | apply ih0 | exact LeO.none _ | refine LeO.ite ?_ ?_ | refine LeO.bind ?_ fun _ => ?_
set_option maxHeartbeats 8000000 in
set_option maxRecDepth 100000 in
theorem impl_NearHeld_71.calls (k : Nat) (A0 : Option Addr) (c0 : Nat) (l0 : List (S65)) (r : Int) (w : World) (hr0 : Kd.C k65 w A0 l0.length l0) (hc0 : l0.length ≤ c0) (h : impl_NearHeld_71.f k l0 = some r) :
  Calls Try.prog 71 #[.slice A0 l0.length c0, .func (.func 62) #[] #[]] w fun e w' => e = .returned (.int .i64 r) ∧ Below w.heap.size w w' := by
 have hu65 := Try.underlying65; have HR0 := Aside0.mk hr0; have HC0 := Aside0.mk hc0; clear hr0 hc0
 have HB := Aside0.mk (Below.refl w.heap.size w)
 have H : (impl_NearHeld_71.l0 k l0 (l0.length : Int) 0) = some r := h
 clear h
 have H' := Aside0.mk H
 clear H
 go_enter Try.func71, Try.ntmps71
 go_wp2
 go_loopg [8] k (fun kq v8 w' => ∃ (x8_1 : Int), v8 = .int .i64 x8_1 ∧ Aside0 (impl_NearHeld_71.l0 kq l0 (l0.length : Int) x8_1 = some r) ∧ Aside0 (kq ≤ k) ∧ Aside0 (Below w.heap.size w w'))
 case atStart => exact ⟨(0), (by first | rfl | (simp; done) | (simp [*]; done)), H', ⟨Nat.le_refl _⟩, ⟨hbA_ HB.out⟩⟩
 case round =>
  clear H'
  obtain ⟨x8_1, rfl, HA, HK1, HB⟩ := hrel
  cases gk with
  | zero => exact absurd HA.out (by simp [impl_NearHeld_71.l0])
  | succ k1 =>
   have H := HA.out; clear HA
   simp only [impl_NearHeld_71.l0] at H
   by_cases c2 : x8_1 < (l0.length : Int)
   ·rw [if_pos c2] at H
    have c2b0 : decide (x8_1 < (l0.length : Int)) = true := decide_eq_true c2
    clear c2
    by_cases c3 : 0 ≤ x8_1
    ·rw [if_pos c3] at H
     have c3b0 : decide (0 ≤ x8_1) = true := decide_eq_true c3
     clear c3
     by_cases c4 : x8_1 < (l0.length : Int)
     ·rw [if_pos c4] at H
      have c4b0 : decide (x8_1 < (l0.length : Int)) = true := decide_eq_true c4
      clear c4
      replace H := Option.bind_eq_some_iff.mp H
      obtain ⟨t194, A50, H⟩ := H
      (try dsimp only at H)
      have A5 := Aside0.mk A50; clear A50
      by_cases c6 : t194 = true
      ·subst c6
       rw [if_pos rfl] at H
       obtain rfl := Option.some.inj H
       have p193 : 0 ≤ (x8_1 : Int) := of_decide_eq_true (by first | (with_reducible assumption) | assumption)
       have q193 : x8_1 < (l0.length : Int) := of_decide_eq_true (by first | (with_reducible assumption) | assumption)
       obtain ⟨ad193, A193_1, c193_1, e193, hx193_0, hx193_1, hl193_1, hi193_1⟩ := at_T65 HR0.out x8_1 p193 q193
       cases e193
       replace hx193_0 := cc_ HB hx193_0
       replace hx193_1 := cc_ HB hx193_1
       have HR193_1 := Aside0.mk hi193_1; have HC193_1 := Aside0.mk hl193_1; clear hi193_1 hl193_1
       replace p193 := eq_true p193
       replace q193 := eq_true q193
       go_wp2_with (first | ((with_reducible refine gateT_ (u := 11) rfl ?_); refine goesT_ (u := 11) (some 16) rfl rfl Try.func62 (by kernel_rfl) rfl #[.agg #[.int .i64 ((rd_T65 l0 x8_1).f0), .slice A193_1 ((rd_T65 l0 x8_1).f1).length c193_1]] rfl rfl ar_ ?_; (with_reducible refine (impl_NearOk_1.calls ((rd_T65 l0 x8_1).f0) _ _ ((rd_T65 l0 x8_1).f1) true _ ?side1 ?side2 A5.out).mono ?_); (case side1 => exact kC_ (Kd.C_below HR193_1.out HB.out)); (case side2 => exact HC193_1.out); rintro e w7 ⟨rfl, hb⟩; refine ⟨_, rfl, ?_⟩; replace HB := (bs_ HB hb); (try clear hb); (try clear hb2); (try clear hk); (try clear hi)))
       go_ret
       exact ⟨by first | rfl | (simp [errW_none, errW_some] <;> rfl) | (simp [*, errW_none, errW_some] <;> rfl), hbA_ HB.out⟩
      ·replace c6 := Bool.eq_false_iff.mpr c6
       subst c6
       rw [if_neg (show ¬ (false = true) by decide)] at H
       have H' := Aside0.mk H
       clear H
       have p193 : 0 ≤ (x8_1 : Int) := of_decide_eq_true (by first | (with_reducible assumption) | assumption)
       have q193 : x8_1 < (l0.length : Int) := of_decide_eq_true (by first | (with_reducible assumption) | assumption)
       obtain ⟨ad193, A193_1, c193_1, e193, hx193_0, hx193_1, hl193_1, hi193_1⟩ := at_T65 HR0.out x8_1 p193 q193
       cases e193
       replace hx193_0 := cc_ HB hx193_0
       replace hx193_1 := cc_ HB hx193_1
       have HR193_1 := Aside0.mk hi193_1; have HC193_1 := Aside0.mk hl193_1; clear hi193_1 hl193_1
       replace p193 := eq_true p193
       replace q193 := eq_true q193
       go_wp2_with (first | ((with_reducible refine gateT_ (u := 11) rfl ?_); refine goesT_ (u := 11) (some 16) rfl rfl Try.func62 (by kernel_rfl) rfl #[.agg #[.int .i64 ((rd_T65 l0 x8_1).f0), .slice A193_1 ((rd_T65 l0 x8_1).f1).length c193_1]] rfl rfl ar_ ?_; (with_reducible refine (impl_NearOk_1.calls ((rd_T65 l0 x8_1).f0) _ _ ((rd_T65 l0 x8_1).f1) false _ ?side1 ?side2 A5.out).mono ?_); (case side1 => exact kC_ (Kd.C_below HR193_1.out HB.out)); (case side2 => exact HC193_1.out); rintro e w8 ⟨rfl, hb⟩; refine ⟨_, rfl, ?_⟩; replace HB := (bs_ HB hb); (try clear hb); (try clear hb2); (try clear hk); (try clear hi)))
       go_roundg k1
       case measure => have := HK1.out; omega
       case rel => exact ⟨(wrap64 (x8_1 + 1)), (by first | rfl | (simp; done) | (simp [*]; done)), H', ⟨by have := HK1.out; omega⟩, ⟨hbA_ HB.out⟩⟩
     ·rw [if_neg c4] at H
      exact absurd H (by simp)
    ·rw [if_neg c3] at H
     exact absurd H (by simp)
   ·rw [if_neg c2] at H
    have c2b0 : decide (x8_1 < (l0.length : Int)) = false := decide_eq_false c2
    clear c2
    obtain rfl := Option.some.inj H
    go_wp2
    go_ret
    exact ⟨by first | rfl | (simp [errW_none, errW_some] <;> rfl) | (simp [*, errW_none, errW_some] <;> rfl), hbA_ HB.out⟩
def impl_NearHeld_40.f (k : Nat) (l0 : List (S65)) : Option (Bool) := (impl_NearHeld_71.f k l0).bind fun t195 => (some (decide (t195 ≥ 0)))
theorem impl_NearHeld_40.mono : ∀ a0 k, LeO (impl_NearHeld_40.f k a0) (impl_NearHeld_40.f (k + 1) a0) := by
 intro a0 k
 unfold impl_NearHeld_40.f
 repeat' first | (with_reducible first | apply impl_NearHeld_71.mono | exact LeO.refl _ | exact LeO.none _ | refine LeO.ite ?_ ?_ | refine LeO.bind ?_ fun _ => ?_) | apply impl_NearHeld_71.mono | exact LeO.none _ | refine LeO.ite ?_ ?_ | refine LeO.bind ?_ fun _ => ?_
set_option maxHeartbeats 8000000 in
set_option maxRecDepth 100000 in
theorem impl_NearHeld_40.calls (k : Nat) (A0 : Option Addr) (c0 : Nat) (l0 : List (S65)) (r : Bool) (w : World) (hr0 : Kd.C k65 w A0 l0.length l0) (hc0 : l0.length ≤ c0) (h : impl_NearHeld_40.f k l0 = some r) :
  Calls Try.prog 40 #[.slice A0 l0.length c0, .func (.func 62) #[] #[]] w fun e w' => e = .returned (.bool r) ∧ Below w.heap.size w w' := by
 have HR0 := Aside0.mk hr0; have HC0 := Aside0.mk hc0; clear hr0 hc0
 have HB := Aside0.mk (Below.refl w.heap.size w)
 have H : ((impl_NearHeld_71.f k l0).bind fun t195 => (some (decide (t195 ≥ 0)))) = some r := h
 clear h
 replace H := Option.bind_eq_some_iff.mp H
 obtain ⟨t195, A20, H⟩ := H
 (try dsimp only at H)
 have A2 := Aside0.mk A20; clear A20
 obtain rfl := Option.some.inj H
 go_enter Try.func40, Try.ntmps40
 go_wp2_with (first | ((with_reducible refine gate_callee (f := 71) rfl ?_); refine goesL_ (some 7) rfl rfl Try.func71 (by kernel_rfl) rfl #[.slice A0 l0.length c0, .func (.func 62) #[] #[]] rfl ar_ ?_; (with_reducible refine (impl_NearHeld_71.calls k _ _ l0 t195 _ ?side1 ?side2 A2.out).mono ?_); (case side1 => exact kC_ HR0.out); (case side2 => exact HC0.out); rintro e w3 ⟨rfl, hb⟩; refine ⟨_, rfl, ?_⟩; replace HB := (bs_ HB hb); (try clear hb); (try clear hb2); (try clear hk); (try clear hi)))
 go_ret
 exact ⟨by first | rfl | (simp [errW_none, errW_some] <;> rfl) | (simp [*, errW_none, errW_some] <;> rfl), hbA_ HB.out⟩
end Go.Proofs.Ytdoohdbfpnmndaa.PFnNearHear
