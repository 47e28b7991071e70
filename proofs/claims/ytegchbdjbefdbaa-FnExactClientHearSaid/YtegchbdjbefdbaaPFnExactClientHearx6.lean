/- Printed by wip/xp/xprint.sh out of the translation, for this claim: what each function answers, as a plain function, and that the machine does just that. No condition. -/
import Derived.Test.YtegchbdjbefdbaaPFnExactClientHearx0
import Derived.Test.YtegchbdjbefdbaaPFnExactClientHearx4
import Derived.Test.YtegchbdjbefdbaaPFnExactClientHearx5
namespace Go.Proofs.Ytegchbdjbefdbaa.PFnExactClientHear
open Go.RowKit Go.Proofs.YtegchbdjbefdbaaW.PrintWords Go.Proofs.YtegchbdjbefdbaaW.PrintLast Go.Proofs.YtegchbdjbefdbaaW.PrintMore
attribute [local go_sem] max2_int min2_int max_two min_two max_three min_three max_four min_four   -- for this text's walks alone
set_option linter.unusedVariables false
set_option linter.unusedSimpArgs false
def spec_ClientHear.l0 : Nat → List Int → Bool → Int → Int → List Int → List (S41) → List Int → Int → List Int → Int → List Int → List (S41) → List Int → Option (Int × List Int × (List (S41)) × List Int × Bool)
 | 0, _, _, _, _, _, _, _, _, _, _, _, _, _ => none
 | k + 1, x7, x8, x9, x292000, x292001, x292002, x292003, x293000, x293001, x306000, x306001, x306002, x306003 => if x9 < (x292001.length : Int) then (if 0 ≤ x9 then (if (rd x292001 x9) = x293000 then (spec_ClientHear.l0 k x7 true (wrap64 (x9 + 1)) x292000 x292001 x292002 x292003 x293000 x293001 x306000 x306001 x306002 x306003) else (if x7.length < 17592186044416 then (spec_ClientHear.l0 k (x7 ++ [rd x292001 x9]) x8 (wrap64 (x9 + 1)) x292000 x292001 x292002 x292003 x293000 x293001 x306000 x306001 x306002 x306003) else (none))) else (none)) else (if x8 = true then (if (x293001.length : Int) > 9 then (some (x306000, x306001, x306002, x306003, false)) else ((some (([] : List Int) : List Int)).bind fun y314 => (if y314.length + x293001.length < 140737488355328 then (if x306002.length < 4398046511104 then (some (x306000, x7, (x306002 ++ [(⟨x293000, (y314 ++ x293001)⟩ : S41)]), x306003, true)) else (none)) else (none)))) else (some (x306000, x306001, x306002, x306003, false)))
def spec_ClientHear.f (k : Nat) (a0_0 : Int) (l0_1 : List Int) (l0_2 : List (S41)) (l0_3 : List Int) (a1_0 : Int) (l1_1 : List Int) : Option (Int × List Int × (List (S41)) × List Int × Bool) := (spec_ClientOk.f k a0_0 l0_1 l0_2 l0_3).bind fun t294 => (if t294 = true then ((spec_l20Client.f k a0_0 l0_1 l0_2 l0_3).bind fun bt295 => (spec_ClientHear.l0 k (([] : List Int)) false 0 a0_0 l0_1 l0_2 l0_3 a1_0 l1_1 bt295.1 bt295.2.1 bt295.2.2.1 bt295.2.2.2)) else (some (0, ([] : List Int), ([] : List (S41)), ([] : List Int), false)))
theorem spec_ClientHear.mono_l : ∀ k, (∀ y0 y1 y2 y3 y4 y5 y6 y7 y8 y9 y10 y11 y12, LeO (spec_ClientHear.l0 k y0 y1 y2 y3 y4 y5 y6 y7 y8 y9 y10 y11 y12) (spec_ClientHear.l0 (k + 1) y0 y1 y2 y3 y4 y5 y6 y7 y8 y9 y10 y11 y12))
 | 0 => fun _ _ _ _ _ _ _ _ _ _ _ _ _ r h => by simp [spec_ClientHear.l0] at h
 | k + 1 => by
  have ih0 := spec_ClientHear.mono_l k
  ·intro y0 y1 y2 y3 y4 y5 y6 y7 y8 y9 y10 y11 y12
   unfold spec_ClientHear.l0
   repeat' first | (with_reducible first | apply ih0 | apply spec_ClientOk.mono | apply spec_l20Client.mono | exact LeO.refl _ | exact LeO.none _ | refine LeO.ite ?_ ?_ | refine LeO.bind ?_ fun _ => ?_) | apply ih0 | apply spec_ClientOk.mono | apply spec_l20Client.mono | exact LeO.none _ | refine LeO.ite ?_ ?_ | refine LeO.bind ?_ fun _ => ?_
theorem spec_ClientHear.mono : ∀ a0 a1 a2 a3 a4 a5 k, LeO (spec_ClientHear.f k a0 a1 a2 a3 a4 a5) (spec_ClientHear.f (k + 1) a0 a1 a2 a3 a4 a5) := by
 intro a0 a1 a2 a3 a4 a5 k
 have ih0 := spec_ClientHear.mono_l k
 unfold spec_ClientHear.f
 repeat' first | (with_reducible first | apply ih0 | apply spec_ClientOk.mono | apply spec_l20Client.mono | exact LeO.refl _ | exact LeO.none _ | refine LeO.ite ?_ ?_ | refine LeO.bind ?_ fun _ => ?_) | apply ih0 | apply spec_ClientOk.mono | apply spec_l20Client.mono | exact LeO.none _ | refine LeO.ite ?_ ?_ | refine LeO.bind ?_ fun _ => ?_
def spec_ClientHear.T9 : Bool × List (List Nat × List Nat) := (true, [([], []), ([0], [0]), ([], []), ([1, 2], [1, 2]), ([3], [3]), ([], []), ([5], [5]), ([4, 6], [4, 6])])
def spec_ClientHear.B9 : List Nat := [0, 1, 0, 7, 15, 0, 32, 127]
theorem spec_ClientHear.tab9 : rtab .any (opsOf Try.f24 9) = spec_ClientHear.T9 := by kernel_rfl
theorem spec_ClientHear.bits9 : waitsOk spec_ClientHear.T9.2 spec_ClientHear.B9 = true := by kernel_rfl
def spec_ClientHear.T15 : Bool × List (List Nat × List Nat) := (true, [([], []), ([0], [0]), ([], []), ([2], [2]), ([], []), ([], []), ([5], [5]), ([4, 6], [4, 6]), ([3, 7], [3, 7]), ([8], [8]), ([1, 9, 7], [1, 9]), ([0, 1, 2, 3, 4, 5, 6, 7, 8, 9, 10], []), ([11, 10, 10, 0, 1, 2, 3, 4, 5, 6, 7, 8, 9, 10], [10, 11])])
def spec_ClientHear.B15 : List Nat := [0, 1, 0, 4, 0, 0, 32, 112, 252, 508, 1023, 2047, 4095]
theorem spec_ClientHear.tab15 : rtab .any (opsOf Try.f24 15) = spec_ClientHear.T15 := by kernel_rfl
theorem spec_ClientHear.bits15 : waitsOk spec_ClientHear.T15.2 spec_ClientHear.B15 = true := by kernel_rfl
set_option maxHeartbeats 8000000 in
set_option maxRecDepth 100000 in
theorem spec_ClientHear.calls (k : Nat) (a0_0 : Int) (A0_1 : Option Addr) (c0_1 : Nat) (l0_1 : List Int) (A0_2 : Option Addr) (c0_2 : Nat) (l0_2 : List (S41)) (A0_3 : Option Addr) (c0_3 : Nat) (l0_3 : List Int) (a1_0 : Int) (A1_1 : Option Addr) (c1_1 : Nat) (l1_1 : List Int) (r1 : Int) (r2 : List Int) (r3 : List (S41)) (r4 : List Int) (r5 : Bool) (w : World) (hr0_1 : Kd.C (Kd.int .i64) w A0_1 l0_1.length l0_1) (hc0_1 : l0_1.length ≤ c0_1) (hr0_2 : Kd.C k41 w A0_2 l0_2.length l0_2) (hc0_2 : l0_2.length ≤ c0_2) (hr0_3 : Kd.C (Kd.int .i64) w A0_3 l0_3.length l0_3) (hc0_3 : l0_3.length ≤ c0_3) (hr1_1 : Kd.C (Kd.int .u8) w A1_1 l1_1.length l1_1) (hc1_1 : l1_1.length ≤ c1_1) (h : spec_ClientHear.f k a0_0 l0_1 l0_2 l0_3 a1_0 l1_1 = some (r1, r2, r3, r4, r5)) :
  Calls Try.prog 24 #[.agg #[.int .i64 a0_0, .slice A0_1 l0_1.length c0_1, .slice A0_2 l0_2.length c0_2, .slice A0_3 l0_3.length c0_3], .agg #[.int .i64 a1_0, .slice A1_1 l1_1.length c1_1]] w fun e w' => ∃ v1_ v2_ v3_ : Value, e = .returned (.tuple #[.agg #[.int .i64 r1, v1_, v2_, v3_], .bool r5]) ∧ Kd.R (Kd.int .i64) 3 w' w.heap.size (fun k_ => some k_ ≠ (v3_ : Value).ownBlock) v1_ r2 ∧ Kd.S k41 41 w' w.heap.size (fun _ => True) v2_ r3 ∧ Kd.R (Kd.int .i64) 3 w' w.heap.size (fun k_ => some k_ ≠ (v1_ : Value).ownBlock) v3_ r4 ∧ Below w.heap.size w w' := by
 have hu30 := Try.underlying30; have hu41 := Try.underlying41; have HR0_1 := Aside0.mk hr0_1; have HC0_1 := Aside0.mk hc0_1; clear hr0_1 hc0_1; have HR0_2 := Aside0.mk hr0_2; have HC0_2 := Aside0.mk hc0_2; clear hr0_2 hc0_2; have HR0_3 := Aside0.mk hr0_3; have HC0_3 := Aside0.mk hc0_3; clear hr0_3 hc0_3; have HR1_1 := Aside0.mk hr1_1; have HC1_1 := Aside0.mk hc1_1; clear hr1_1 hc1_1
 have HB := Aside0.mk (Below.refl w.heap.size w)
 have H : ((spec_ClientOk.f k a0_0 l0_1 l0_2 l0_3).bind fun t294 => (if t294 = true then ((spec_l20Client.f k a0_0 l0_1 l0_2 l0_3).bind fun bt295 => (spec_ClientHear.l0 k (([] : List Int)) false 0 a0_0 l0_1 l0_2 l0_3 a1_0 l1_1 bt295.1 bt295.2.1 bt295.2.2.1 bt295.2.2.2)) else (some (0, ([] : List Int), ([] : List (S41)), ([] : List Int), false)))) = some (r1, r2, r3, r4, r5) := h
 clear h
 replace H := Option.bind_eq_some_iff.mp H
 obtain ⟨t294, A30, H⟩ := H
 (try dsimp only at H)
 have A3 := Aside0.mk A30; clear A30
 by_cases c4 : t294 = true
 ·subst c4
  rw [if_pos rfl] at H
  replace H := Option.bind_eq_some_iff.mp H
  obtain ⟨⟨t295, t296, t299, t302⟩, A50, H⟩ := H
  (try dsimp only at H)
  have A5 := Aside0.mk A50; clear A50
  obtain ⟨y306, hy306⟩ : ∃ y_ : List Int, y_ = (([] : List Int)) := ⟨_, rfl⟩
  (first | replace H := sb_ hy306 H | rw [← hy306] at H)
  have Ny306 := Aside0.mk hy306; clear hy306
  have H' := Aside0.mk H
  clear H
  go_enter Try.func24, Try.ntmps24
  go_wp2_with (first | ((with_reducible refine gate_dst (N := 2) rfl ?_); (try (refine gate_guard (by rfl) ?_; dsimp only)); refine box_ (N := 2) (cs := #[.int .i64 a0_0, .slice A0_1 l0_1.length c0_1, .slice A0_2 l0_2.length c0_2, .slice A0_3 l0_3.length c0_3]) (t := 30) (fun gb291 hg w6 hbox hb => ?_); have BK291 := Aside0.mk (hbox); have GW291 := ge_ hg HB; have GE291 := ge_ hg HB; replace HB := (bs_ HB hb); clear hb hbox hg) | ((with_reducible refine gate_dst (N := 3) rfl ?_); (try (refine gate_guard (by rfl) ?_; dsimp only)); refine box_ (N := 3) (cs := #[.int .i64 a1_0, .slice A1_1 l1_1.length c1_1]) (t := 41) (fun gb292 hg w7 hbox hb => ?_); have BK292 := Aside0.mk (hbox); have GW292 := ge_ hg HB; have GE292 := ge_ hg HB; replace HB := (bs_ HB hb); have NB291_292 := nl_ hg BK291; have NB292_291 := ng_ hg BK291; replace BK291 := (bbA_ BK291 hb); clear hb hbox hg) | ((with_reducible refine gate_dst (N := 4) rfl ?_); (try (refine gate_guard (by rfl) ?_; dsimp only)); refine box_ (N := 4) (cs := #[.int .i64 0, .slice none 0 0, .slice none 0 0, .slice none 0 0]) (t := 30) (fun gb293 hg w8 hbox hb => ?_); have BK293 := Aside0.mk (hbox); have GW293 := ge_ hg HB; have GE293 := ge_ hg HB; replace HB := (bs_ HB hb); have NB291_293 := nl_ hg BK291; have NB293_291 := ng_ hg BK291; replace BK291 := (bbA_ BK291 hb); have NB292_293 := nl_ hg BK292; have NB293_292 := ng_ hg BK292; replace BK292 := (bbA_ BK292 hb); clear hb hbox hg; have hnb9 := NB291_292.out; have hnc9 := NB292_291.out; have hnb10 := NB291_293.out; have hnc10 := NB293_291.out; have Z11 := zz4 BK291) | ((with_reducible refine gate_callee (f := 12) rfl ?_); refine goesL_ (some 11) rfl rfl Try.func12 (by kernel_rfl) rfl #[.agg #[.int .i64 a0_0, .slice A0_1 l0_1.length c0_1, .slice A0_2 l0_2.length c0_2, .slice A0_3 l0_3.length c0_3]] rfl ar_ ?_; (with_reducible refine (spec_ClientOk.calls k a0_0 _ _ l0_1 _ _ l0_2 _ _ l0_3 true _ ?side1 ?side2 ?side3 ?side4 ?side5 ?side6 A3.out).mono ?_); (case side1 => exact kC_ (Kd.C_below HR0_1.out HB.out)); (case side2 => exact HC0_1.out); (case side3 => exact kC_ (Kd.C_below HR0_2.out HB.out)); (case side4 => exact HC0_2.out); (case side5 => exact kC_ (Kd.C_below HR0_3.out HB.out)); (case side6 => exact HC0_3.out); rintro e w12 ⟨rfl, hb⟩; refine ⟨_, rfl, ?_⟩; replace BK291 := (bbA_ BK291 hb); replace BK292 := (bbA_ BK292 hb); replace BK293 := (bbA_ BK293 hb); replace HB := (bs_ HB hb); (try clear hb); (try clear hb2); (try clear hk); (try clear hi); have Z13 := zz4 BK291) | ((with_reducible refine gate_callee (f := 56) rfl ?_); refine goesL_ (some 15) rfl rfl Try.func56 (by kernel_rfl) rfl #[.agg #[.int .i64 a0_0, .slice A0_1 l0_1.length c0_1, .slice A0_2 l0_2.length c0_2, .slice A0_3 l0_3.length c0_3]] rfl ar_ ?_; (with_reducible refine (spec_l20Client.calls k a0_0 _ _ l0_1 _ _ l0_2 _ _ l0_3 t295 t296 t299 t302 _ ?side1 ?side2 ?side3 ?side4 ?side5 ?side6 A5.out).mono ?_); (case side1 => exact kC_ (Kd.C_below HR0_1.out HB.out)); (case side2 => exact HC0_1.out); (case side3 => exact kC_ (Kd.C_below HR0_2.out HB.out)); (case side4 => exact HC0_2.out); (case side5 => exact kC_ (Kd.C_below HR0_3.out HB.out)); (case side6 => exact HC0_3.out); rintro e w14 ⟨v297, v300, v303, rfl, ho0, ho1, ho2, hb⟩; refine ⟨_, rfl, ?_⟩; have HO298 := Aside0.mk (Kd.R_lower ho0 (below_size (hbA_ HB.out))); have HO301 := Aside0.mk (Kd.S_lower (nbS_ ho1 BK292) (below_size (hbA_ HB.out))); have HO304 := Aside0.mk (Kd.R_lower ho2 (below_size (hbA_ HB.out))); replace BK291 := (bbA_ BK291 hb); replace BK292 := (bbA_ BK292 hb); replace BK293 := (bbA_ BK293 hb); replace HB := (bs_ HB hb); (try clear hb); (try clear hb2); (try clear hk); (try clear hi); (try clear ho0); (try clear ho1); (try clear ho2)) | ((with_reducible refine gate_dst (N := 6) rfl ?_); (try (refine gate_guard (by rfl) ?_; dsimp only)); refine box_ (N := 6) (cs := #[.int .i64 0, .slice none 0 0, .slice none 0 0, .slice none 0 0]) (t := 30) (fun gb305 hg w15 hbox hb => ?_); replace HO298 := Aside0.mk (Kd.R_below (kR_ HO298.out) hb); replace HO301 := Aside0.mk (Kd.S_below (kS_ HO301.out) hb); replace HO304 := Aside0.mk (Kd.R_below (kR_ HO304.out) hb); have BK305 := Aside0.mk (hbox); have GW305 := ge_ hg HB; have GE305 := ge_ hg HB; replace HB := (bs_ HB hb); have NB291_305 := nl_ hg BK291; have NB305_291 := ng_ hg BK291; replace BK291 := (bbA_ BK291 hb); have NB292_305 := nl_ hg BK292; have NB305_292 := ng_ hg BK292; replace BK292 := (bbA_ BK292 hb); have NB293_305 := nl_ hg BK293; have NB305_293 := ng_ hg BK293; replace BK293 := (bbA_ BK293 hb); clear hb hbox hg; have hnb16 := NB305_291.out; have hnc16 := NB291_305.out; have hnb17 := NB305_292.out; have hnc17 := NB292_305.out; have hnb18 := NB305_293.out; have hnc18 := NB293_305.out; have Z19 := zz4 BK305; obtain ⟨Ao20, co20, eo20⟩ := Kd.R_slice HO298.out; subst eo20; obtain ⟨Ao21, co21, eo21⟩ := Kd.S_slice HO301.out; subst eo21; obtain ⟨Ao22, co22, eo22⟩ := Kd.R_slice HO304.out; subst eo22) | ((with_reducible refine gate_dst (N := 16) rfl ?_); (try (refine gate_guard (by rfl) ?_; dsimp only)); refine Kd.R_lit (Kd.int .i64) _ 3 ?hg (N := 16) ?hd (xs := ([] : List Int)) (inner := []) (ok := fun _ => True) (okp := fun _ => True) ?hr ?hp (fun _ hk => hk) trivial (Below.refl _ _) (Nat.le_refl _) (by simp) ?_; (case hd => rfl); (case hg => rfl); (case hr => first | (go_simp; done) | (go_simp; rfl)); (case hp => exact (Reps.none _ _)); intro v307 w23 ho24 hb hg_ hnew_; clear hg_ hnew_; (first | rw [← Ny306.out] at ho24 | (simp only [Int.reduceToNat] at ho24; rw [← Ny306.out] at ho24)); replace HO301 := Aside0.mk (Kd.S_below (by refine kS_ ?_; exact (Kd.S_mono (Kd.S_far (p := ⟨gb305, 3, none⟩) (Kd.S_far (p := ⟨gb305, 2, none⟩) (Kd.S_far (p := ⟨gb305, 1, none⟩) (Kd.S_far (p := ⟨gb305, 0, none⟩) (Kd.S_types HO301.out BK305.out (by decide)) (fun _ hk => hk.2) (.int .i64 t295)) (fun _ hk => hk.2) (.slice Ao20 t296.length co20)) (fun _ hk => hk.2) (.slice Ao21 t299.length co21)) (fun _ hk => hk.2) (.slice Ao22 t302.length co22)) (fun _ h_ => op1_ h_))) hb); have HO308 := Aside0.mk (Kd.R_lower (Kd.R_new' (Kd.R_new' ho24 (Kd.R_lt (by refine kR_ ?_; exact (rfm_ ((Kd.R_types HO298.out BK305.out (by decide))) (fun _ h_ => op1_ h_))))) (Kd.R_lt (by refine kR_ ?_; exact (rfm_ ((Kd.R_types HO304.out BK305.out (by decide))) (fun _ h_ => op1_ h_))))) (below_size (hbA_ HB.out))); replace HO298 := Aside0.mk (Kd.R_elder' (by refine kR_ ?_; exact (rfm_ ((Kd.R_types HO298.out BK305.out (by decide))) (fun _ h_ => op1_ h_))) (Kd.R_base ho24) hb); replace HO304 := Aside0.mk (Kd.R_elder' (by refine kR_ ?_; exact (rfm_ ((Kd.R_types HO304.out BK305.out (by decide))) (fun _ h_ => op1_ h_))) (Kd.R_base ho24) hb); replace BK291 := Aside0.mk (blk_below (g := gb291) (o := .cells #[.int .i64 a0_0, .slice A0_1 l0_1.length c0_1, .slice A0_2 l0_2.length c0_2, .slice A0_3 l0_3.length c0_3] 30 (0, 0)) (by exact kf_ BK291.out) hb); replace BK292 := Aside0.mk (blk_below (g := gb292) (o := .cells #[.int .i64 a1_0, .slice A1_1 l1_1.length c1_1] 41 (0, 0)) (by exact kf_ BK292.out) hb); replace BK293 := Aside0.mk (blk_below (g := gb293) (o := .cells #[.int .i64 0, .slice none 0 0, .slice none 0 0, .slice none 0 0] 30 (0, 0)) (by exact kf_ BK293.out) hb); replace BK305 := Aside0.mk (blk_below (g := gb305) (o := .cells #[.int .i64 t295, .slice Ao20 t296.length co20, .slice Ao21 t299.length co21, .slice Ao22 t302.length co22] 30 (0, 0)) (by refine kb_ ?_; refine pz4 (cs := #[.int .i64 0, .slice none 0 0, .slice none 0 0, .slice none 0 0]) ?_; refine kb_ ?_; exact BK305.out) hb); replace HB := (bs_ HB hb); clear hb ho24))
  go_loopg [7, 8, 9] k (fun kq v7 v8 v9 w' => ∃ (x7_1 : List Int) (x8_1 : Bool) (x9_1 : Int), v8 = .bool x8_1 ∧ v9 = .int .i64 x9_1 ∧ Aside0 (spec_ClientHear.l0 kq x7_1 x8_1 x9_1 a0_0 l0_1 l0_2 l0_3 a1_0 l1_1 t295 t296 t299 t302 = some (r1, r2, r3, r4, r5)) ∧ Aside0 (kq ≤ k) ∧ Aside0 (Kd.R (Kd.int .i64) 3 w' w.heap.size (fun k_ => some k_ ≠ ((.slice Ao20 t296.length co20) : Value).ownBlock ∧ some k_ ≠ ((.slice Ao22 t302.length co22) : Value).ownBlock) v7 x7_1) ∧ Aside0 (Kd.R (Kd.int .i64) 3 w' w.heap.size (fun k_ => some k_ ≠ (v7 : Value).ownBlock ∧ some k_ ≠ ((.slice Ao22 t302.length co22) : Value).ownBlock) (.slice Ao20 t296.length co20) t296) ∧ Aside0 (Kd.S k41 41 w' w.heap.size (fun k_ => k_ ≠ gb292) (.slice Ao21 t299.length co21) t299) ∧ Aside0 (Kd.R (Kd.int .i64) 3 w' w.heap.size (fun k_ => some k_ ≠ (v7 : Value).ownBlock ∧ some k_ ≠ ((.slice Ao20 t296.length co20) : Value).ownBlock) (.slice Ao22 t302.length co22) t302) ∧ Aside0 (w'.heap[gb291]? = some (.cells #[.int .i64 a0_0, (.slice A0_1 l0_1.length c0_1), (.slice A0_2 l0_2.length c0_2), (.slice A0_3 l0_3.length c0_3)] 30 (0, 0))) ∧ Aside0 (w'.heap[gb292]? = some (.cells #[.int .i64 a1_0, (.slice A1_1 l1_1.length c1_1)] 41 (0, 0))) ∧ Aside0 (w'.heap[gb293]? = some (.cells #[.int .i64 0, (.slice none 0 0), (.slice none 0 0), (.slice none 0 0)] 30 (0, 0))) ∧ Aside0 (w'.heap[gb305]? = some (.cells #[.int .i64 t295, (.slice Ao20 t296.length co20), (.slice Ao21 t299.length co21), (.slice Ao22 t302.length co22)] 30 (0, 0))) ∧ Aside0 (Below w.heap.size w w'))
  case atStart => exact ⟨(y306), (false), (0), (by first | rfl | (simp; done) | (simp [*]; done)), (by first | rfl | (simp; done) | (simp [*]; done)), H', ⟨Nat.le_refl _⟩, ⟨by refine kR_ ?_; exact Kd.R_mono HO308.out (fun _ hk => op2_ hk)⟩, ⟨by refine kR_ ?_; exact Kd.R_mono HO298.out (fun _ hk => op2_ hk)⟩, ⟨by refine kS_ ?_; exact Kd.S_mono HO301.out (fun _ hk => hk.2)⟩, ⟨by refine kR_ ?_; exact Kd.R_mono HO304.out (fun _ hk => op2_ hk)⟩, ⟨by refine kb_ ?_; exact BK291.out⟩, ⟨by refine kb_ ?_; exact BK292.out⟩, ⟨by refine kb_ ?_; exact BK293.out⟩, ⟨by refine kb_ ?_; exact BK305.out⟩, ⟨hbA_ HB.out⟩⟩
  case round =>
   clear H'; (try clear c1); (try clear c2); (try clear p2); (try clear c4); (try clear c5); (try clear c9); (try clear c10); (try clear c12); (try clear c16); (try clear c17); (try clear c18); (try clear c24); (try clear Z11); (try clear Z13); (try clear Z19)
   obtain ⟨x7_1, x8_1, x9_1, rfl, rfl, HA, HK1, HO_7, HO_306001, HO_306002, HO_306003, BK291, BK292, BK293, BK305, HB⟩ := hrel
   cases gk with
   | zero => exact absurd HA.out (by simp [spec_ClientHear.l0])
   | succ k1 =>
    have H := HA.out; clear HA
    simp only [spec_ClientHear.l0] at H
    by_cases c25 : x9_1 < (l0_1.length : Int)
    ·rw [if_pos c25] at H
     have c25b0 : decide (x9_1 < (l0_1.length : Int)) = true := decide_eq_true c25
     clear c25
     by_cases c26 : 0 ≤ x9_1
     ·rw [if_pos c26] at H
      have c26b0 : decide (0 ≤ x9_1) = true := decide_eq_true c26
      clear c26
      by_cases c27 : (rd l0_1 x9_1) = a1_0
      ·rw [if_pos c27] at H
       have c27b0 : ((rd l0_1 x9_1) == a1_0) = true := beq_iff_eq.mpr c27
       have c27b1 : ((rd l0_1 x9_1) != a1_0) = false := bne_eq_false_iff_eq.mpr c27
       clear c27
       have H' := Aside0.mk H
       clear H; have hnb28 := NB291_292.out; have hnc28 := NB292_291.out; have hnb29 := NB291_293.out; have hnc29 := NB293_291.out; have hnb30 := NB291_305.out; have hnc30 := NB305_291.out; have Z31 := zz4 BK291
       try go_wp2
       replace HO_7 := Aside0.mk (Kd.R_drew HO_7.out); replace HO_306001 := Aside0.mk (Kd.R_drew HO_306001.out); replace HO_306002 := Aside0.mk (Kd.S_drew HO_306002.out); replace HO_306003 := Aside0.mk (Kd.R_drew HO_306003.out); replace BK291 := Aside0.mk (blk_drew BK291.out); replace BK292 := Aside0.mk (blk_drew BK292.out); replace BK293 := Aside0.mk (blk_drew BK293.out); replace BK305 := Aside0.mk (blk_drew BK305.out); replace HB := (bd_ HB)
       have p309 : 0 ≤ (x9_1 : Int) := of_decide_eq_true (by first | (with_reducible assumption) | assumption)
       have q309 : x9_1 < (l0_1.length : Int) := of_decide_eq_true (by first | (with_reducible assumption) | assumption)
       obtain ⟨ad309, e309, hx309_0⟩ := Kd.at_int HR0_1.out x9_1 p309 q309
       have hw309_0 := hx309_0
       cases e309
       replace hx309_0 := cc_ HB hx309_0
       replace p309 := eq_true p309
       replace q309 := eq_true q309
       refine start_ (n := 8) (S := fun w' => w'.cell? ⟨gb291, 0, none⟩ = some (.int .i64 a0_0) ∧ w'.cell? ⟨gb291, 1, none⟩ = some (.slice (some ad309) l0_1.length c0_1) ∧ w'.cell? ⟨gb291, 2, none⟩ = some (.slice A0_2 l0_2.length c0_2) ∧ w'.cell? ⟨gb291, 3, none⟩ = some (.slice A0_3 l0_3.length c0_3) ∧ w'.cell? ⟨gb292, 0, none⟩ = some (.int .i64 a1_0) ∧ w'.cell? ⟨gb292, 1, none⟩ = some (.slice A1_1 l1_1.length c1_1) ∧ w'.cell? (ad309.add (x9_1).toNat) = some (.int .i64 (rd l0_1 x9_1))) (ds := []) #[false, false, false, false, false, false, false, false] (by kernel_rfl) rfl rfl ⟨bc_ BK291 0, bc_ BK291 1, bc_ BK291 2, bc_ BK291 3, bc_ BK292 0, bc_ BK292 1, (cc_ HB hw309_0)⟩ (fun hHeld => ?_); refine with_tabW spec_ClientHear.tab9 spec_ClientHear.bits9 (fun HT_ HW_ => ?_)
       generalize wr.drew = w32 at HO_7 HO_306001 HO_306002 HO_306003 BK291 BK292 BK293 BK305 HB hx309_0 hHeld ⊢
       refine pu_ (i := 0) (N := some 24) HT_ ?_; refine pu_ (i := 2) (N := some 26) HT_ ?_; refine pu_ (i := 5) (N := some 29) HT_ ?_; refine tk_ (i := 1) (N := some 25) HT_ HW_ hHeld ?_; refine pu_ (i := 3) (N := some 27) HT_ ?_; refine tk_ (i := 4) (N := some 28) HT_ HW_ hHeld ?_; refine tk_ (i := 6) (N := some 30) HT_ HW_ hHeld ?_; refine pu_ (i := 7) (N := some 31) HT_ ?_
       refine done_ (done_of HT_.out (by kernel_rfl)) ?_
       try go_wp2
       go_roundg k1
       case measure => have := HK1.out; omega
       case rel => exact ⟨(x7_1), (true), (wrap64 (x9_1 + 1)), (by first | rfl | (simp; done) | (simp [*]; done)), (by first | rfl | (simp; done) | (simp [*]; done)), H', ⟨by have := HK1.out; omega⟩, ⟨kR_ HO_7.out⟩, ⟨kR_ HO_306001.out⟩, ⟨by refine kS_ ?_; exact HO_306002.out⟩, ⟨kR_ HO_306003.out⟩, ⟨by refine kb_ ?_; exact BK291.out⟩, ⟨by refine kb_ ?_; exact BK292.out⟩, ⟨by refine kb_ ?_; exact BK293.out⟩, ⟨by refine kb_ ?_; exact BK305.out⟩, ⟨hbA_ HB.out⟩⟩
      ·rw [if_neg c27] at H
       have c27b0 : ((rd l0_1 x9_1) == a1_0) = false := beq_eq_false_iff_ne.mpr c27
       have c27b1 : ((rd l0_1 x9_1) != a1_0) = true := bne_iff_ne.mpr c27
       by_cases c33 : x7_1.length < 17592186044416
       ·rw [if_pos c33] at H
        have LMc33 := Aside0.mk c33; clear c33
        obtain ⟨y311, hy311⟩ : ∃ y_ : List Int, y_ = (x7_1 ++ [rd l0_1 x9_1]) := ⟨_, rfl⟩
        (first | replace H := sb_ hy311 H | rw [← hy311] at H)
        have Ny311 := Aside0.mk hy311; clear hy311
        have H' := Aside0.mk H
        clear H; have hnb34 := NB291_292.out; have hnc34 := NB292_291.out; have hnb35 := NB291_293.out; have hnc35 := NB293_291.out; have hnb36 := NB291_305.out; have hnc36 := NB305_291.out; have Z37 := zz4 BK291
        try go_wp2
        replace HO_7 := Aside0.mk (Kd.R_drew HO_7.out); replace HO_306001 := Aside0.mk (Kd.R_drew HO_306001.out); replace HO_306002 := Aside0.mk (Kd.S_drew HO_306002.out); replace HO_306003 := Aside0.mk (Kd.R_drew HO_306003.out); replace BK291 := Aside0.mk (blk_drew BK291.out); replace BK292 := Aside0.mk (blk_drew BK292.out); replace BK293 := Aside0.mk (blk_drew BK293.out); replace BK305 := Aside0.mk (blk_drew BK305.out); replace HB := (bd_ HB)
        have p309 : 0 ≤ (x9_1 : Int) := of_decide_eq_true (by first | (with_reducible assumption) | assumption)
        have q309 : x9_1 < (l0_1.length : Int) := of_decide_eq_true (by first | (with_reducible assumption) | assumption)
        obtain ⟨ad309, e309, hx309_0⟩ := Kd.at_int HR0_1.out x9_1 p309 q309
        have hw309_0 := hx309_0
        cases e309
        replace hx309_0 := cc_ HB hx309_0
        replace p309 := eq_true p309
        replace q309 := eq_true q309
        refine start_ (n := 8) (S := fun w' => w'.cell? ⟨gb291, 0, none⟩ = some (.int .i64 a0_0) ∧ w'.cell? ⟨gb291, 1, none⟩ = some (.slice (some ad309) l0_1.length c0_1) ∧ w'.cell? ⟨gb291, 2, none⟩ = some (.slice A0_2 l0_2.length c0_2) ∧ w'.cell? ⟨gb291, 3, none⟩ = some (.slice A0_3 l0_3.length c0_3) ∧ w'.cell? ⟨gb292, 0, none⟩ = some (.int .i64 a1_0) ∧ w'.cell? ⟨gb292, 1, none⟩ = some (.slice A1_1 l1_1.length c1_1) ∧ w'.cell? (ad309.add (x9_1).toNat) = some (.int .i64 (rd l0_1 x9_1))) (ds := []) #[false, false, false, false, false, false, false, false] (by kernel_rfl) rfl rfl ⟨bc_ BK291 0, bc_ BK291 1, bc_ BK291 2, bc_ BK291 3, bc_ BK292 0, bc_ BK292 1, (cc_ HB hw309_0)⟩ (fun hHeld => ?_); refine with_tabW spec_ClientHear.tab9 spec_ClientHear.bits9 (fun HT_ HW_ => ?_)
        generalize wr.drew = w38 at HO_7 HO_306001 HO_306002 HO_306003 BK291 BK292 BK293 BK305 HB hx309_0 hHeld ⊢
        refine pu_ (i := 0) (N := some 24) HT_ ?_; refine pu_ (i := 2) (N := some 26) HT_ ?_; refine pu_ (i := 5) (N := some 29) HT_ ?_; refine tk_ (i := 1) (N := some 25) HT_ HW_ hHeld ?_; refine pu_ (i := 3) (N := some 27) HT_ ?_; refine tk_ (i := 4) (N := some 28) HT_ HW_ hHeld ?_; refine tk_ (i := 6) (N := some 30) HT_ HW_ hHeld ?_; refine pu_ (i := 7) (N := some 31) HT_ ?_
        refine done_ (done_of HT_.out (by kernel_rfl)) ?_
        have Z39 := zz4 BK291
        have p310 : 0 ≤ (x9_1 : Int) := of_decide_eq_true (by first | (with_reducible assumption) | assumption)
        have q310 : x9_1 < (l0_1.length : Int) := of_decide_eq_true (by first | (with_reducible assumption) | assumption)
        obtain ⟨ad310, e310, hx310_0⟩ := Kd.at_int HR0_1.out x9_1 p310 q310
        obtain rfl : ad309 = ad310 := (by injection e310)
        replace hx310_0 := cc_ HB hx310_0
        replace p310 := eq_true p310
        replace q310 := eq_true q310
        try go_wp2_with (first | ((with_reducible refine gate_builtin (b := .append) (xs := #[.tmp 32, .tmp 38]) rfl ?_); (try (refine gate_guard (by rfl) ?_; dsimp only)); at_builtin; refine Kd.R_append (Kd.int .i64) (w0 := w) w.heap.size rfl (.tmp 32) (.tmp 38) 22 3 (.int .i64 0) 8 rfl Try.underlying22 info3 rfl (by decide) (by omega) u7 x7_1 (rd l0_1 x9_1) [.int .i64 (rd l0_1 x9_1)] (fun k_ => some k_ ≠ (.slice Ao20 t296.length co20 : Value).ownBlock ∧ some k_ ≠ (.slice Ao22 t302.length co22 : Value).ownBlock) (fun _ => False) rfl rfl ?aP (fun _ hk => hk.elim) ?aF ?aO ?aB ?aS ?aL ?_; (case aP => exact rfl); (case aB => exact (hbA_ HB.out)); (case aF => exact (fun k_ hk => ⟨Kd.fresh' (Kd.R_lt (kR_ HO_306001.out)) k_ hk, Kd.fresh' (Kd.R_lt (kR_ HO_306003.out)) k_ hk⟩)); (case aO => exact (kR_ HO_7.out)); (case aS => exact (below_size (hbA_ HB.out))); (case aL => have := LMc33.out; omega); intro v312 w40 ho hb hg hat; rw [← Ny311.out] at ho; replace HO_306001 := Aside0.mk (Kd.R_after (ok := (fun k_ => some k_ ≠ (.slice Ao22 t302.length co22 : Value).ownBlock)) (by refine kR_ ?_; exact Kd.R_mono HO_306001.out (fun _ hk => op2_ hk)) hg hat); replace HO_306002 := Aside0.mk (Kd.S_over' (kS_ HO_306002.out) (Kd.R_typed (kR_ HO_7.out)) (by decide) hg); replace HO_306003 := Aside0.mk (Kd.R_after (ok := (fun k_ => some k_ ≠ (.slice Ao20 t296.length co20 : Value).ownBlock)) (by refine kR_ ?_; exact Kd.R_mono HO_306003.out (fun _ hk => op2_ hk)) hg hat); replace BK291 := (bgA_ BK291 hg (Kd.R_ne HO_7.out BK291.out (by decide))); replace BK292 := (bgA_ BK292 hg (Kd.R_ne HO_7.out BK292.out (by decide))); replace BK293 := (bgA_ BK293 hg (Kd.R_ne HO_7.out BK293.out (by decide))); replace BK305 := (bgA_ BK305 hg (Kd.R_ne HO_7.out BK305.out (by decide))); replace HB := Aside0.mk (hb); have HO313 := Aside0.mk (ho); clear HO_7; clear ho hb hg hat))
        go_roundg k1
        case measure => have := HK1.out; omega
        case rel => exact ⟨(y311), (x8_1), (wrap64 (x9_1 + 1)), (by first | rfl | (simp; done) | (simp [*]; done)), (by first | rfl | (simp; done) | (simp [*]; done)), H', ⟨by have := HK1.out; omega⟩, ⟨kR_ HO313.out⟩, ⟨by refine kR_ ?_; exact Kd.R_mono HO_306001.out (fun _ hk => op2_ hk)⟩, ⟨by refine kS_ ?_; exact HO_306002.out⟩, ⟨by refine kR_ ?_; exact Kd.R_mono HO_306003.out (fun _ hk => op2_ hk)⟩, ⟨by refine kb_ ?_; exact BK291.out⟩, ⟨by refine kb_ ?_; exact BK292.out⟩, ⟨by refine kb_ ?_; exact BK293.out⟩, ⟨by refine kb_ ?_; exact BK305.out⟩, ⟨hbA_ HB.out⟩⟩
       ·rw [if_neg c33] at H
        exact absurd H (by simp)
     ·rw [if_neg c26] at H
      exact absurd H (by simp)
    ·rw [if_neg c25] at H
     have c25b0 : decide (x9_1 < (l0_1.length : Int)) = false := decide_eq_false c25
     clear c25
     by_cases c41 : x8_1 = true
     ·subst c41
      rw [if_pos rfl] at H
      by_cases c42 : (l1_1.length : Int) > 9
      ·rw [if_pos c42] at H
       have c42b0 : decide (9 < (l1_1.length : Int)) = true := decide_eq_true c42
       have c42b1 : decide (9 < l1_1.length) = true := decide_eq_true (by omega)
       clear c42
       simp only [Option.some.injEq, Prod.mk.injEq] at H
       obtain ⟨rfl, rfl, rfl, rfl, rfl⟩ := H
       have hnb43 := NB291_292.out; have hnc43 := NB292_291.out; have hnb44 := NB291_293.out; have hnc44 := NB293_291.out; have hnb45 := NB291_305.out; have hnc45 := NB305_291.out; have Z46 := zz4 BK291; have hnb47 := NB292_293.out; have hnc47 := NB293_292.out; have hnb48 := NB292_305.out; have hnc48 := NB305_292.out; have Z49 := zz2 BK292; have hnb50 := NB305_293.out; have hnc50 := NB293_305.out; have Z51 := zz4 BK305; have Z52 := zz4 BK293
       go_wp2
       refine bodyPost_ret (results_ct rfl _ _ gb293 30 #[.int .i64 t295, .slice Ao20 t296.length co20, .slice Ao21 t299.length co21, .slice Ao22 t302.length co22] (0, 0) _ rfl (by refine kb_ ?_; refine pz4 (cs := #[.int .i64 0, .slice none 0 0, .slice none 0 0, .slice none 0 0]) ?_; refine kb_ ?_; exact BK293.out) Try.underlying30 rfl (by kernel_rfl)) rfl ?_
       exact ⟨_, _, _, by first | rfl | (simp [errW_none, errW_some] <;> rfl) | (simp [*, errW_none, errW_some] <;> rfl), by refine kR_ ?_; exact rfm_ ((Kd.R_types HO_306001.out BK293.out (by decide))) (fun _ hk => hk.1.2), by refine kS_ ?_; exact Kd.S_mono (Kd.S_far (p := ⟨gb293, 3, none⟩) (Kd.S_far (p := ⟨gb293, 2, none⟩) (Kd.S_far (p := ⟨gb293, 1, none⟩) (Kd.S_far (p := ⟨gb293, 0, none⟩) (Kd.S_types HO_306002.out BK293.out (by decide)) (fun _ hk => hk.2) (.int .i64 t295)) (fun _ hk => hk.2) (.slice Ao20 t296.length co20)) (fun _ hk => hk.2) (.slice Ao21 t299.length co21)) (fun _ hk => hk.2) (.slice Ao22 t302.length co22)) (fun _ hk => trivial), by refine kR_ ?_; exact rfm_ ((Kd.R_types HO_306003.out BK293.out (by decide))) (fun _ hk => hk.1.2), hbA_ HB.out⟩
      ·rw [if_neg c42] at H
       have c42b0 : decide (9 < (l1_1.length : Int)) = false := decide_eq_false c42
       have c42b1 : decide (9 < l1_1.length) = false := decide_eq_false (by omega)
       clear c42
       obtain ⟨y314, hy314⟩ : ∃ y_ : List Int, y_ = (([] : List Int)) := ⟨_, rfl⟩
       (first | replace H := sb_ hy314 H | rw [← hy314] at H)
       have Ny314 := Aside0.mk hy314; clear hy314
       by_cases c53 : y314.length + l1_1.length < 140737488355328
       ·rw [if_pos c53] at H
        have LMc53 := Aside0.mk c53; clear c53
        obtain ⟨y317, hy317⟩ : ∃ y_ : List Int, y_ = (y314 ++ l1_1) := ⟨_, rfl⟩
        (first | replace H := sb_ hy317 H | rw [← hy317] at H)
        have Ny317 := Aside0.mk hy317; clear hy317
        by_cases c54 : t299.length < 4398046511104
        ·rw [if_pos c54] at H
         have LMc54 := Aside0.mk c54; clear c54
         obtain ⟨y320, hy320⟩ : ∃ y_ : List (S41), y_ = (t299 ++ [(⟨a1_0, y317⟩ : S41)]) := ⟨_, rfl⟩
         (first | replace H := sb_ hy320 H | rw [← hy320] at H)
         have Ny320 := Aside0.mk hy320; clear hy320
         simp only [Option.some.injEq, Prod.mk.injEq] at H
         obtain ⟨rfl, rfl, rfl, rfl, rfl⟩ := H
         have hnb55 := NB291_292.out; have hnc55 := NB292_291.out; have hnb56 := NB291_293.out; have hnc56 := NB293_291.out; have hnb57 := NB291_305.out; have hnc57 := NB305_291.out; have Z58 := zz4 BK291; have hnb59 := NB292_293.out; have hnc59 := NB293_292.out; have hnb60 := NB292_305.out; have hnc60 := NB305_292.out; have Z61 := zz2 BK292
         obtain ⟨Ao62, co62, eo62⟩ := Kd.R_slice HO_7.out
         subst eo62; have hnb63 := NB305_293.out; have hnc63 := NB293_305.out; have Z64 := zz4 BK305
         try go_wp2
         obtain ⟨w65, h_w65⟩ : ∃ w_, (wr.setCell ⟨gb305, 1, none⟩ (.slice Ao62 x7_1.length co62)) = w_ := ⟨_, rfl⟩
         have n0_ : Aside0 (Kd.R (Kd.int .i64) 3 w65 w.heap.size (fun k_ => some k_ ≠ (.slice Ao20 t296.length co20 : Value).ownBlock ∧ some k_ ≠ (.slice Ao22 t302.length co22 : Value).ownBlock) (.slice Ao62 x7_1.length co62) x7_1) := ⟨by subst h_w65; refine kR_ ?_; exact Kd.R_mono (Kd.R_f gb305 1 (.slice Ao62 x7_1.length co62) (Kd.R_types HO_7.out BK305.out (by decide))) (fun _ hk => ⟨hk.1.1, hk.1.2⟩)⟩
         have n1_ : Aside0 (Kd.R (Kd.int .i64) 3 w65 w.heap.size (fun k_ => some k_ ≠ (.slice Ao62 x7_1.length co62 : Value).ownBlock ∧ some k_ ≠ (.slice Ao22 t302.length co22 : Value).ownBlock) (.slice Ao20 t296.length co20) t296) := ⟨by subst h_w65; refine kR_ ?_; exact Kd.R_mono (Kd.R_f gb305 1 (.slice Ao62 x7_1.length co62) (Kd.R_types HO_306001.out BK305.out (by decide))) (fun _ hk => ⟨hk.1.1, hk.1.2⟩)⟩
         have n2_ : Aside0 (Kd.S k41 41 w65 w.heap.size (fun k_ => k_ ≠ gb292) (.slice Ao21 t299.length co21) t299) := ⟨by subst h_w65; refine kS_ ?_; exact Kd.S_mono (Kd.S_far (p := ⟨gb305, 1, none⟩) (Kd.S_types HO_306002.out BK305.out (by decide)) (fun _ hk => hk.2) (.slice Ao62 x7_1.length co62)) (fun _ hk => hk.1)⟩
         have n3_ : Aside0 (Kd.R (Kd.int .i64) 3 w65 w.heap.size (fun k_ => some k_ ≠ (.slice Ao62 x7_1.length co62 : Value).ownBlock ∧ some k_ ≠ (.slice Ao20 t296.length co20 : Value).ownBlock) (.slice Ao22 t302.length co22) t302) := ⟨by subst h_w65; refine kR_ ?_; exact Kd.R_mono (Kd.R_f gb305 1 (.slice Ao62 x7_1.length co62) (Kd.R_types HO_306003.out BK305.out (by decide))) (fun _ hk => ⟨hk.1.1, hk.1.2⟩)⟩
         have n4_ : Aside0 (w65.heap[gb291]? = some (.cells #[.int .i64 a0_0, .slice A0_1 l0_1.length c0_1, .slice A0_2 l0_2.length c0_2, .slice A0_3 l0_3.length c0_3] 30 (0, 0))) := ⟨by subst h_w65; exact kf_ BK291.out⟩
         have n5_ : Aside0 (w65.heap[gb292]? = some (.cells #[.int .i64 a1_0, .slice A1_1 l1_1.length c1_1] 41 (0, 0))) := ⟨by subst h_w65; exact kf_ BK292.out⟩
         have n6_ : Aside0 (w65.heap[gb293]? = some (.cells #[.int .i64 0, .slice none 0 0, .slice none 0 0, .slice none 0 0] 30 (0, 0))) := ⟨by subst h_w65; exact kf_ BK293.out⟩
         have n7_ : Aside0 (w65.heap[gb305]? = some (.cells #[.int .i64 t295, .slice Ao62 x7_1.length co62, .slice Ao21 t299.length co21, .slice Ao22 t302.length co22] 30 (0, 0))) := ⟨by subst h_w65; refine kb_ ?_; refine blk_put (cs := #[.int .i64 t295, .slice Ao20 t296.length co20, .slice Ao21 t299.length co21, .slice Ao22 t302.length co22]) ?_ 1 _ rfl; refine kb_ ?_; exact BK305.out⟩
         have n8_ : Aside0 (Below w.heap.size w w65) := ⟨by subst h_w65; exact hbA_ HB.out⟩
         (try clear HO_7); (try clear HO_306001); (try clear HO_306002); (try clear HO_306003); (try clear BK291); (try clear BK292); (try clear BK293); (try clear BK305); (try clear HB)
         (try rw [h_w65]); clear h_w65
         have HO_7 := n0_; have HO_306001 := n1_; have HO_306002 := n2_; have HO_306003 := n3_; have BK291 := n4_; have BK292 := n5_; have BK293 := n6_; have BK305 := n7_; have HB := n8_; clear n0_ n1_ n2_ n3_ n4_ n5_ n6_ n7_ n8_; replace HO_7 := Aside0.mk (Kd.R_drew HO_7.out); replace HO_306001 := Aside0.mk (Kd.R_drew HO_306001.out); replace HO_306002 := Aside0.mk (Kd.S_drew HO_306002.out); replace HO_306003 := Aside0.mk (Kd.R_drew HO_306003.out); replace BK291 := Aside0.mk (blk_drew BK291.out); replace BK292 := Aside0.mk (blk_drew BK292.out); replace BK293 := Aside0.mk (blk_drew BK293.out); replace BK305 := Aside0.mk (blk_drew BK305.out); replace HB := (bd_ HB)
         refine start_ (n := 13) (S := fun w' => w'.cell? ⟨gb305, 0, none⟩ = some (.int .i64 t295) ∧ w'.cell? ⟨gb305, 1, none⟩ = some (.slice Ao62 x7_1.length co62) ∧ w'.cell? ⟨gb305, 2, none⟩ = some (.slice Ao21 t299.length co21) ∧ w'.cell? ⟨gb305, 3, none⟩ = some (.slice Ao22 t302.length co22) ∧ w'.cell? ⟨gb292, 0, none⟩ = some (.int .i64 a1_0) ∧ w'.cell? ⟨gb292, 1, none⟩ = some (.slice A1_1 l1_1.length c1_1)) (ds := [12]) #[false, false, false, false, false, false, false, false, false, false, false, false, false] (by kernel_rfl) rfl rfl ⟨bc_ BK305 0, bc_ BK305 1, bc_ BK305 2, bc_ BK305 3, bc_ BK292 0, bc_ BK292 1⟩ (fun hHeld => ?_); refine with_tabW spec_ClientHear.tab15 spec_ClientHear.bits15 (fun HT_ HW_ => ?_)
         generalize w65.drew = w66 at HO_7 HO_306001 HO_306002 HO_306003 BK291 BK292 BK293 BK305 HB hHeld ⊢
         refine pu_ (i := 0) (N := some 51) HT_ ?_; refine pu_ (i := 2) (N := some 53) HT_ ?_; refine pu_ (i := 5) (N := some 56) HT_ ?_; refine tk_ (i := 1) (N := some 52) HT_ HW_ hHeld ?_; refine tk_ (i := 3) (N := some 54) HT_ HW_ hHeld ?_; refine tk_ (i := 6) (N := some 57) HT_ HW_ hHeld ?_
         refine on_ (i := 4) (N := some 55) HT_ (fun K hK => ?_)
         refine Kd.R_lit_step (Kd.int .u8) _ 5 ?hg (N := 55) ?hd (xs := ([] : List Int)) (inner := []) (ok := fun _ => True) (okp := fun _ => True) ?hr ?hp (fun _ hk => hk) trivial (Below.refl _ _) (Nat.le_refl _) (by simp) ?_; (case hd => rfl); (case hg => rfl); (case hr => first | (go_simp; done) | (go_simp; rfl)); (case hp => exact (Reps.none _ _))
         intro v315 w67 ho68 hb hg_ hnew_
         clear hg_ hnew_
         (first | rw [← Ny314.out] at ho68 | (simp only [Int.reduceToNat] at ho68; rw [← Ny314.out] at ho68))
         have n0_ := Aside0.mk (Kd.R_below (kR_ HO_7.out) hb); have n1_ := Aside0.mk (Kd.R_below (kR_ HO_306001.out) hb); have n2_ := Aside0.mk (Kd.S_elder' (kS_ HO_306002.out) (Kd.R_base ho68) hb); have n3_ := Aside0.mk (Kd.R_below (kR_ HO_306003.out) hb); have n4_ := Aside0.mk (Kd.R_lower ho68 (below_size (hbA_ HB.out))); have n5_ := (bbA_ BK291 hb); have n6_ := (bbA_ BK292 hb); have n7_ := (bbA_ BK293 hb); have n8_ := (bbA_ BK305 hb); have n9_ := (bs_ HB hb); clear HO_7 HO_306001 HO_306002 HO_306003 BK291 BK292 BK293 BK305 HB; have HO_7 := n0_; have HO_306001 := n1_; have HO_306002 := n2_; have HO_306003 := n3_; have HO316 := n4_; have BK291 := n5_; have BK292 := n6_; have BK293 := n7_; have BK305 := n8_; have HB := n9_; clear n0_ n1_ n2_ n3_ n4_ n5_ n6_ n7_ n8_ n9_ hb ho68
         refine hK.out _ _ ⟨bc_ BK305 0, bc_ BK305 1, bc_ BK305 2, bc_ BK305 3, bc_ BK292 0, bc_ BK292 1⟩ (fun hHeld => ?_)
         clear hK K; refine nm_ 55 ?_
         refine on_ (i := 7) (N := some 58) HT_ (fun K hK => ?_)
         refine Kd.R_append_rows_step (Kd.int .u8) (w0 := w) w.heap.size (by rfl) (.tmp 55) (.tmp 57) 34 5 (.int .u8 0) 1 rfl Try.underlying34 info5 rfl (by decide) (by omega) v315 y314 l1_1 _ _ _ (fun _ => True) (fun _ => False) rfl rfl ?aO ?aR (fun _ _ h => h) (fun _ h => h.elim) ?aF ?aB ?aS ?aL ?_
         (case aR => exact kC_ (Kd.C_below HR1_1.out HB.out))
         (case aB => exact (hbA_ HB.out))
         (case aF => exact (fun _ _ => trivial))
         (case aO => exact (kR_ HO316.out))
         (case aS => exact (below_size (hbA_ HB.out)))
         (case aL => have := LMc53.out; omega)
         intro v318 w69 ho hb hg hat
         rw [← Ny317.out] at ho
         have n0_ := Aside0.mk (Kd.R_over' (kR_ HO_7.out) (Kd.R_typed (kR_ HO316.out)) (by decide) hg); have n1_ := Aside0.mk (Kd.R_over' (kR_ HO_306001.out) (Kd.R_typed (kR_ HO316.out)) (by decide) hg); have n2_ := Aside0.mk (Kd.S_after (ok := (fun k_ => k_ ≠ gb292)) (kS_ HO_306002.out) hg hat); have n3_ := Aside0.mk (Kd.R_over' (kR_ HO_306003.out) (Kd.R_typed (kR_ HO316.out)) (by decide) hg); have n4_ := (bgA_ BK291 hg (Kd.R_ne HO316.out BK291.out (by decide))); have n5_ := (bgA_ BK292 hg (Kd.R_ne HO316.out BK292.out (by decide))); have n6_ := (bgA_ BK293 hg (Kd.R_ne HO316.out BK293.out (by decide))); have n7_ := (bgA_ BK305 hg (Kd.R_ne HO316.out BK305.out (by decide))); have n8_ := Aside0.mk (hb); have n9_ := Aside0.mk (ho); clear HO_7 HO_306001 HO_306002 HO_306003 BK291 BK292 BK293 BK305 HB HO316; have HO_7 := n0_; have HO_306001 := n1_; have HO_306002 := n2_; have HO_306003 := n3_; have BK291 := n4_; have BK292 := n5_; have BK293 := n6_; have BK305 := n7_; have HB := n8_; have HO319 := n9_; clear n0_ n1_ n2_ n3_ n4_ n5_ n6_ n7_ n8_ n9_ ho hb hg hat
         obtain ⟨Ao70, co70, eo70⟩ := Kd.R_slice HO319.out
         (first | subst eo70 | (injection eo70 with f1_ f2_ f3_; have f4_ := f1_.symm; have f5_ := f3_.symm; clear f1_ f2_ f3_; subst f4_; subst f5_))
         refine hK.out _ _ ⟨bc_ BK305 0, bc_ BK305 1, bc_ BK305 2, bc_ BK305 3, bc_ BK292 0, bc_ BK292 1⟩ (fun hHeld => ?_)
         clear hK K; refine nm_ 58 ?_; refine pu_ (i := 8) (N := some 59) HT_ ?_
         refine on_ (i := 9) (N := some 60) HT_ (fun K hK => ?_)
         refine value_ (w1 := ?_) (v := ?_) (by rfl) rfl ?_ ?_
         rotate_left 2
         ·go_simp
          constructor
          ·rfl
          ·rfl
         refine hK.out _ _ ⟨(blk_cell (blk_alloc BK305.out _) 0).trans rfl, (blk_cell (blk_alloc BK305.out _) 1).trans rfl, (blk_cell (blk_alloc BK305.out _) 2).trans rfl, (blk_cell (blk_alloc BK305.out _) 3).trans rfl, (blk_cell (blk_alloc BK292.out _) 0).trans rfl, (blk_cell (blk_alloc BK292.out _) 1).trans rfl⟩ (fun hHeld => ?_)
         clear hK K; refine nm_ 60 ?_
         refine on_ (i := 10) (N := some 61) HT_ (fun K hK => ?_)
         refine Kd.S_append_step k41 (w0 := w) w.heap.size (by rfl) (.tmp 52) (.tmp 60) 28 41 (.agg #[(.int .i64 0), (.slice none 0 0)]) 32 rfl Try.underlying28 info41 rfl (by decide) (by omega) (.slice Ao21 t299.length co21) t299 (⟨a1_0, y317⟩ : S41) [.int .i64 a1_0, .slice Ao70 y317.length co70] (fun k_ => k_ ≠ gb292) (fun k_ => some k_ = (.slice Ao70 y317.length co70 : Value).ownBlock) rfl rfl ?aP (fun k_ hk_ => ((Kd.R_mono (ok' := fun k_ => ((fun k_ => k_ ≠ gb292)) k_ ∧ some k_ ≠ (.slice Ao21 t299.length co21 : Value).ownBlock) (Kd.R_types (Kd.R_apart' (HO319.out) (Kd.S_typed HO_306002.out) (by decide)) BK292.out (by decide)) (fun k_ hk => ⟨hk.2, hk.1.2⟩))).1 k_ hk_.symm) ?aF ?aO ?aB ?aS ?aL ?_
         (case aP => exact k41_mkM _ _ _ (⟨a1_0, y317⟩ : S41) (Kd.R_mono (Kd.R_tight rfl (Kd.R_mono (ok' := fun k_ => ((fun k_ => k_ ≠ gb292)) k_ ∧ some k_ ≠ (.slice Ao21 t299.length co21 : Value).ownBlock) (Kd.R_types (Kd.R_apart' (HO319.out) (Kd.S_typed HO_306002.out) (by decide)) BK292.out (by decide)) (fun k_ hk => ⟨hk.2, hk.1.2⟩))) (fun _ h_ => h_)))
         (case aB => exact (hbA_ HB.out))
         (case aF => exact (fun k_ hk => fb_ BK292 k_ hk))
         (case aO => exact (by refine kS_ ?_; exact Kd.S_mono HO_306002.out (fun k_ hk => ⟨hk.1, fun e_ => hk.2 e_⟩)))
         (case aS => exact (below_size (hbA_ HB.out)))
         (case aL => have := LMc54.out; omega)
         intro v321 w71 ho hb hg hat
         rw [← Ny320.out] at ho
         have n0_ := Aside0.mk (Kd.R_over' (kR_ HO_7.out) (Kd.S_typed (kS_ HO_306002.out)) (by decide) hg); have n1_ := Aside0.mk (Kd.R_over' (kR_ HO_306001.out) (Kd.S_typed (kS_ HO_306002.out)) (by decide) hg); have n2_ := Aside0.mk (Kd.R_over' (kR_ HO_306003.out) (Kd.S_typed (kS_ HO_306002.out)) (by decide) hg); have n3_ := (bgA_ BK291 hg (Kd.S_ne HO_306002.out BK291.out (by decide))); have n4_ := (bgA_ BK292 hg (Kd.S_away HO_306002.out (fun _ hk => hk.1))); have n5_ := (bgA_ BK293 hg (Kd.S_ne HO_306002.out BK293.out (by decide))); have n6_ := (bgA_ BK305 hg (Kd.S_ne HO_306002.out BK305.out (by decide))); have n7_ := Aside0.mk (hb); have n8_ := Aside0.mk (ho); clear HO_7 HO_306001 HO_306003 BK291 BK292 BK293 BK305 HB HO_306002 HO319; have HO_7 := n0_; have HO_306001 := n1_; have HO_306003 := n2_; have BK291 := n3_; have BK292 := n4_; have BK293 := n5_; have BK305 := n6_; have HB := n7_; have HO322 := n8_; clear n0_ n1_ n2_ n3_ n4_ n5_ n6_ n7_ n8_ ho hb hg hat
         obtain ⟨Ao72, co72, eo72⟩ := Kd.S_slice HO322.out
         (first | subst eo72 | (injection eo72 with f1_ f2_ f3_; have f4_ := f1_.symm; have f5_ := f3_.symm; clear f1_ f2_ f3_; subst f4_; subst f5_))
         refine hK.out _ _ ⟨bc_ BK305 0, bc_ BK305 1, bc_ BK305 2, bc_ BK305 3, bc_ BK292 0, bc_ BK292 1⟩ (fun hHeld => ?_)
         clear hK K; refine nm_ 61 ?_; refine pu_ (i := 11) (N := some 62) HT_ ?_
         refine last_ (i := 12) (N := none) #[true, true, true, true, true, true, true, true, true, true, true, true, true] rfl rfl (one_of HT_.out (by kernel_rfl)) (by decide) (fun K hK => ?_)
         have hs73 : w71.cell? ⟨gb305, 2, none⟩ = some (.slice Ao21 t299.length co21) := bc_ BK305 2
         have hfs73 := blk_frozen BK305.out 2
         have hns73_0 := NB291_305.out; have hns73_1 := NB292_305.out; have hns73_2 := NB293_305.out; have hms73_0 := NB305_291.out; have hms73_1 := NB305_292.out; have hms73_2 := NB305_293.out
         refine skip_ (w1 := ?_) (by rfl) rfl ?_ ?_
         rotate_left
         ·go_simp
          rfl
         refine hK.out _ _ ?_
         clear hK K
         refine done_ (done_of HT_.out (by kernel_rfl)) ?_
         have Z74 := zz4 BK305; have Z75 := zz4 BK293
         try go_wp2
         refine bodyPost_ret (results_ct rfl _ _ gb293 30 #[.int .i64 t295, .slice Ao62 x7_1.length co62, .slice Ao72 y320.length co72, .slice Ao22 t302.length co22] (0, 0) _ rfl (by refine kb_ ?_; refine pz4 (cs := #[.int .i64 0, .slice none 0 0, .slice none 0 0, .slice none 0 0]) ?_; exact kf_ BK293.out) Try.underlying30 rfl (by kernel_rfl)) rfl ?_
         exact ⟨_, _, _, by first | rfl | (simp [errW_none, errW_some] <;> rfl) | (simp [*, errW_none, errW_some] <;> rfl), by refine kR_ ?_; exact rfm_ ((Kd.R_far (p := ⟨gb305, 2, none⟩) (Kd.R_types (Kd.R_types HO_7.out BK305.out (by decide)) BK293.out (by decide)) (fun _ hk => hk.1.2) (.slice Ao72 y320.length co72))) (fun _ hk => hk.1.1.2), by refine kS_ ?_; exact Kd.S_mono (Kd.S_far (p := ⟨gb293, 3, none⟩) (Kd.S_far (p := ⟨gb293, 2, none⟩) (Kd.S_far (p := ⟨gb293, 1, none⟩) (Kd.S_far (p := ⟨gb293, 0, none⟩) (Kd.S_far (p := ⟨gb305, 2, none⟩) (Kd.S_types (Kd.S_types HO322.out BK305.out (by decide)) BK293.out (by decide)) (fun _ hk => hk.1.2) (.slice Ao72 y320.length co72)) (fun _ hk => hk.2) (.int .i64 t295)) (fun _ hk => hk.2) (.slice Ao62 x7_1.length co62)) (fun _ hk => hk.2) (.slice Ao72 y320.length co72)) (fun _ hk => hk.2) (.slice Ao22 t302.length co22)) (fun _ hk => trivial), by refine kR_ ?_; exact rfm_ ((Kd.R_far (p := ⟨gb305, 2, none⟩) (Kd.R_types (Kd.R_types HO_306003.out BK305.out (by decide)) BK293.out (by decide)) (fun _ hk => hk.1.2) (.slice Ao72 y320.length co72))) (fun _ hk => hk.1.1.1), hbA_ HB.out⟩
        ·rw [if_neg c54] at H
         exact absurd H (by simp)
       ·rw [if_neg c53] at H
        exact absurd H (by simp)
     ·replace c41 := Bool.eq_false_iff.mpr c41
      subst c41
      rw [if_neg (show ¬ (false = true) by decide)] at H
      simp only [Option.some.injEq, Prod.mk.injEq] at H
      obtain ⟨rfl, rfl, rfl, rfl, rfl⟩ := H
      have hnb76 := NB291_292.out; have hnc76 := NB292_291.out; have hnb77 := NB291_293.out; have hnc77 := NB293_291.out; have hnb78 := NB291_305.out; have hnc78 := NB305_291.out; have Z79 := zz4 BK291; have hnb80 := NB305_292.out; have hnc80 := NB292_305.out; have hnb81 := NB305_293.out; have hnc81 := NB293_305.out; have Z82 := zz4 BK305; have hnb83 := NB293_292.out; have hnc83 := NB292_293.out; have Z84 := zz4 BK293
      go_wp2
      refine bodyPost_ret (results_ct rfl _ _ gb293 30 #[.int .i64 t295, .slice Ao20 t296.length co20, .slice Ao21 t299.length co21, .slice Ao22 t302.length co22] (0, 0) _ rfl (by refine kb_ ?_; refine pz4 (cs := #[.int .i64 0, .slice none 0 0, .slice none 0 0, .slice none 0 0]) ?_; refine kb_ ?_; exact BK293.out) Try.underlying30 rfl (by kernel_rfl)) rfl ?_
      exact ⟨_, _, _, by first | rfl | (simp [errW_none, errW_some] <;> rfl) | (simp [*, errW_none, errW_some] <;> rfl), by refine kR_ ?_; exact rfm_ ((Kd.R_types HO_306001.out BK293.out (by decide))) (fun _ hk => hk.1.2), by refine kS_ ?_; exact Kd.S_mono (Kd.S_far (p := ⟨gb293, 3, none⟩) (Kd.S_far (p := ⟨gb293, 2, none⟩) (Kd.S_far (p := ⟨gb293, 1, none⟩) (Kd.S_far (p := ⟨gb293, 0, none⟩) (Kd.S_types HO_306002.out BK293.out (by decide)) (fun _ hk => hk.2) (.int .i64 t295)) (fun _ hk => hk.2) (.slice Ao20 t296.length co20)) (fun _ hk => hk.2) (.slice Ao21 t299.length co21)) (fun _ hk => hk.2) (.slice Ao22 t302.length co22)) (fun _ hk => trivial), by refine kR_ ?_; exact rfm_ ((Kd.R_types HO_306003.out BK293.out (by decide))) (fun _ hk => hk.1.2), hbA_ HB.out⟩
 ·replace c4 := Bool.eq_false_iff.mpr c4
  subst c4
  rw [if_neg (show ¬ (false = true) by decide)] at H
  simp only [Option.some.injEq, Prod.mk.injEq] at H
  obtain ⟨rfl, rfl, rfl, rfl, rfl⟩ := H
  go_enter Try.func24, Try.ntmps24
  go_wp2_with (first | ((with_reducible refine gate_dst (N := 2) rfl ?_); (try (refine gate_guard (by rfl) ?_; dsimp only)); refine box_ (N := 2) (cs := #[.int .i64 a0_0, .slice A0_1 l0_1.length c0_1, .slice A0_2 l0_2.length c0_2, .slice A0_3 l0_3.length c0_3]) (t := 30) (fun gb291 hg w85 hbox hb => ?_); have BK291 := Aside0.mk (hbox); have GW291 := ge_ hg HB; have GE291 := ge_ hg HB; replace HB := (bs_ HB hb); clear hb hbox hg) | ((with_reducible refine gate_dst (N := 3) rfl ?_); (try (refine gate_guard (by rfl) ?_; dsimp only)); refine box_ (N := 3) (cs := #[.int .i64 a1_0, .slice A1_1 l1_1.length c1_1]) (t := 41) (fun gb292 hg w86 hbox hb => ?_); have BK292 := Aside0.mk (hbox); have GW292 := ge_ hg HB; have GE292 := ge_ hg HB; replace HB := (bs_ HB hb); have NB291_292 := nl_ hg BK291; have NB292_291 := ng_ hg BK291; replace BK291 := (bbA_ BK291 hb); clear hb hbox hg) | ((with_reducible refine gate_dst (N := 4) rfl ?_); (try (refine gate_guard (by rfl) ?_; dsimp only)); refine box_ (N := 4) (cs := #[.int .i64 0, .slice none 0 0, .slice none 0 0, .slice none 0 0]) (t := 30) (fun gb293 hg w87 hbox hb => ?_); have BK293 := Aside0.mk (hbox); have GW293 := ge_ hg HB; have GE293 := ge_ hg HB; replace HB := (bs_ HB hb); have NB291_293 := nl_ hg BK291; have NB293_291 := ng_ hg BK291; replace BK291 := (bbA_ BK291 hb); have NB292_293 := nl_ hg BK292; have NB293_292 := ng_ hg BK292; replace BK292 := (bbA_ BK292 hb); clear hb hbox hg; have hnb88 := NB291_292.out; have hnc88 := NB292_291.out; have hnb89 := NB291_293.out; have hnc89 := NB293_291.out; have Z90 := zz4 BK291) | ((with_reducible refine gate_callee (f := 12) rfl ?_); refine goesL_ (some 11) rfl rfl Try.func12 (by kernel_rfl) rfl #[.agg #[.int .i64 a0_0, .slice A0_1 l0_1.length c0_1, .slice A0_2 l0_2.length c0_2, .slice A0_3 l0_3.length c0_3]] rfl ar_ ?_; (with_reducible refine (spec_ClientOk.calls k a0_0 _ _ l0_1 _ _ l0_2 _ _ l0_3 false _ ?side1 ?side2 ?side3 ?side4 ?side5 ?side6 A3.out).mono ?_); (case side1 => exact kC_ (Kd.C_below HR0_1.out HB.out)); (case side2 => exact HC0_1.out); (case side3 => exact kC_ (Kd.C_below HR0_2.out HB.out)); (case side4 => exact HC0_2.out); (case side5 => exact kC_ (Kd.C_below HR0_3.out HB.out)); (case side6 => exact HC0_3.out); rintro e w91 ⟨rfl, hb⟩; refine ⟨_, rfl, ?_⟩; replace BK291 := (bbA_ BK291 hb); replace BK292 := (bbA_ BK292 hb); replace BK293 := (bbA_ BK293 hb); replace HB := (bs_ HB hb); (try clear hb); (try clear hb2); (try clear hk); (try clear hi); have hnb92 := NB293_292.out; have hnc92 := NB292_293.out; have Z93 := zz4 BK293))
  refine bodyPost_ret (results_ct rfl _ _ gb293 30 #[.int .i64 0, .slice none 0 0, .slice none 0 0, .slice none 0 0] (0, 0) _ rfl (by refine kb_ ?_; refine pz4 (cs := #[.int .i64 0, .slice none 0 0, .slice none 0 0, .slice none 0 0]) ?_; refine kb_ ?_; exact BK293.out) Try.underlying30 rfl (by kernel_rfl)) rfl ?_
  exact ⟨_, _, _, by first | rfl | (simp [errW_none, errW_some] <;> rfl) | (simp [*, errW_none, errW_some] <;> rfl), by first | exact Kd.R_nil _ _ _ _ _ | exact Kd.N_nil _ _ _ _ _ | exact Kd.V_nil _ _ _ _ _ | exact Kd.Q_nil _ _ _ _ _ | exact Kd.S_nil _ _ _ _ _, by first | exact Kd.S_nil _ _ _ _ _ | exact Kd.N_nil _ _ _ _ _ | exact Kd.V_nil _ _ _ _ _ | exact Kd.Q_nil _ _ _ _ _ | exact Kd.R_nil _ _ _ _ _, by first | exact Kd.R_nil _ _ _ _ _ | exact Kd.N_nil _ _ _ _ _ | exact Kd.V_nil _ _ _ _ _ | exact Kd.Q_nil _ _ _ _ _ | exact Kd.S_nil _ _ _ _ _, hbA_ HB.out⟩
def laws_markByteS.l0 : Nat → List Int → Int → Int → Option (Int × List Int)
 | 0, _, _, _ => none
 | k + 1, x0, x1, x5 => if x5 < (x0.length : Int) then (if 0 ≤ x5 then (laws_markByteS.l0 k (x0.set (x5 : Int).toNat ((x1) % 256)) (wrap64 (x1 + 1)) (wrap64 (x5 + 1))) else (none)) else (some (x1, x0))
def laws_markByteS.f (k : Nat) (l0 : List Int) (a1 : Int) : Option (Int × List Int) := laws_markByteS.l0 k l0 a1 0
theorem laws_markByteS.mono_l : ∀ k, (∀ y0 y1 y2, LeO (laws_markByteS.l0 k y0 y1 y2) (laws_markByteS.l0 (k + 1) y0 y1 y2))
 | 0 => fun _ _ _ r h => by simp [laws_markByteS.l0] at h
 | k + 1 => by
  have ih0 := laws_markByteS.mono_l k
  ·intro y0 y1 y2
   unfold laws_markByteS.l0
   repeat' first | (with_reducible first | apply ih0 | exact LeO.refl _ | exact LeO.none _ | refine LeO.ite ?_ ?_ | refine LeO.bind ?_ fun _ => ?_) | apply ih0 | exact LeO.none _ | refine LeO.ite ?_ ?_ | refine LeO.bind ?_ fun _ => ?_
theorem laws_markByteS.mono : ∀ a0 a1 k, LeO (laws_markByteS.f k a0 a1) (laws_markByteS.f (k + 1) a0 a1) := by
 intro a0 a1 k
 have ih0 := laws_markByteS.mono_l k
 unfold laws_markByteS.f
 repeat' first | (with_reducible first | apply ih0 | exact LeO.refl _ | exact LeO.none _ | refine LeO.ite ?_ ?_ | refine LeO.bind ?_ fun _ => ?_) | apply ih0 | exact LeO.none _ | refine LeO.ite ?_ ?_ | refine LeO.bind ?_ fun _ => ?_
set_option maxHeartbeats 8000000 in
set_option maxRecDepth 100000 in
theorem laws_markByteS.calls (k : Nat) (P0_ : Nat → Prop) (u9000_ : Value) (l0 : List Int) (a1 : Int) (r1 : Int) (r2 : List Int) (w0 w : World) (hB : Below w0.heap.size w0 w) (ho0 : Kd.R (Kd.int .u8) 5 w w0.heap.size P0_ u9000_ l0) (h : laws_markByteS.f k l0 a1 = some (r1, r2)) :
  Calls Try.prog 34 #[u9000_, .int .i64 a1] w fun e w' => e = .returned (.int .i64 r1) ∧ Kd.R (Kd.int .u8) 5 w' w0.heap.size (fun k_ => (P0_ k_ ∨ w.heap.size ≤ k_)) u9000_ r2 ∧ Below w0.heap.size w0 w' ∧ Kept w w' (fun k_ => P0_ k_) := by
 have HO0 := Aside0.mk (show Kd.R (Kd.int .u8) 5 w w0.heap.size (fun k_ => (P0_ k_ ∨ w.heap.size ≤ k_)) u9000_ l0 from Kd.R_mono ho0 (fun k_ hk => (.inl hk)))
 have HK := Aside0.mk (Kept.refl w (fun k_ => P0_ k_))
 have HW0 := Aside0.mk hB.size; have HB := Aside0.mk hB; clear hB
 have H : (laws_markByteS.l0 k l0 a1 0) = some (r1, r2) := h
 clear h
 have H' := Aside0.mk H
 clear H
 go_enter Try.func34, Try.ntmps34
 go_wp2
 go_loopg [1, 5] k (fun kq v1 v5 w' => ∃ (x0_1 : List Int) (x1_1 : Int) (x5_1 : Int), v1 = .int .i64 x1_1 ∧ v5 = .int .i64 x5_1 ∧ Aside0 (laws_markByteS.l0 kq x0_1 x1_1 x5_1 = some (r1, r2)) ∧ Aside0 (kq ≤ k) ∧ Aside0 (Kd.R (Kd.int .u8) 5 w' w0.heap.size (fun k_ => (P0_ k_ ∨ w.heap.size ≤ k_)) u9000_ x0_1) ∧ Aside0 (Kept w w' (fun k_ => P0_ k_)) ∧ Aside0 (Below w0.heap.size w0 w'))
 case atStart => exact ⟨(l0), (a1), (0), (by first | rfl | (simp; done) | (simp [*]; done)), (by first | rfl | (simp; done) | (simp [*]; done)), H', ⟨Nat.le_refl _⟩, ⟨kR_ HO0.out⟩, ⟨by repeat (first | (with_reducible first | exact HK.out | apply Kept.alloc | apply Kept.drewN | apply Kept.drew) | exact HK.out)⟩, ⟨hbA_ HB.out⟩⟩
 case round =>
  clear H'; (try clear p2)
  obtain ⟨x0_1, x1_1, x5_1, rfl, rfl, HA, HK1, HO_0, HK, HB⟩ := hrel
  cases gk with
  | zero => exact absurd HA.out (by simp [laws_markByteS.l0])
  | succ k1 =>
   have H := HA.out; clear HA
   simp only [laws_markByteS.l0] at H
   by_cases c3 : x5_1 < (x0_1.length : Int)
   ·rw [if_pos c3] at H
    have c3b0 : decide (x5_1 < (x0_1.length : Int)) = true := decide_eq_true c3
    clear c3
    by_cases c4 : 0 ≤ x5_1
    ·rw [if_pos c4] at H
     have c4b0 : decide (0 ≤ x5_1) = true := decide_eq_true c4
     clear c4
     obtain ⟨y323, hy323⟩ : ∃ y_ : List Int, y_ = (x0_1.set (x5_1 : Int).toNat ((x1_1) % 256)) := ⟨_, rfl⟩
     (first | replace H := sb_ hy323 H | rw [← hy323] at H)
     have Ny323 := Aside0.mk hy323; clear hy323
     have H' := Aside0.mk H
     clear H
     obtain ⟨Ao6, co6, eo6⟩ := Kd.R_slice HO_0.out
     subst eo6
     have p5 : 0 ≤ (x5_1 : Int) := of_decide_eq_true (by first | (with_reducible assumption) | assumption)
     have q5 : (x5_1 : Int) < ((x0_1.length : Int) : Int) := of_decide_eq_true (by first | (with_reducible assumption) | assumption)
     obtain ⟨go5, co5, eo5, gb5, gl5, cl5, HG5⟩ := Kd.R_form HO_0.out (by omega)
     (first | cases eo5 | (injection eo5 with ea_ en_ ec_; (first | subst ea_ | (injection ea_ with ea_; subst ea_)); subst ec_; clear en_))
     have GB5 := Aside0.mk gb5; have GG5 := Aside0.mk HG5; clear gb5 gl5 HG5
     have HMgo5 := Aside0.mk (show (P0_ go5 ∨ w.heap.size ≤ go5) from (HO_0.out.1 _ rfl))
     obtain ⟨hx5_0, hf5_0⟩ := Kd.R_celln 0 HO_0.out (x5_1 : Int) p5 q5
     replace p5 := eq_true p5
     replace q5 := eq_true q5
     have HP7 := Kd.R_putg HO_0.out (x5_1 : Int) ((x1_1) % 256)
     go_wp2_with (first | ((with_reducible refine gate_store (t := 5) (p := 16) rfl ?_); refine store_event (t := 5) (p := 16) (v := ?vo_w8) (w1 := (wr.setCell ⟨go5, (x5_1 : Int).toNat, none⟩ (.int .u8 ((x1_1) % 256)))) ?hg ?ho ?hn ?hr ?_; (case ho => rfl); (case hg => rfl); (case hn => rfl); (case hr => first | (go_simp; done) | (go_simp; rfl)); intro w8 hw; have hg : wr.grownBy w8 (some go5) := (by rw [hw]; exact HP7.2); have hp_ : Kd.R (Kd.int .u8) 5 w8 w0.heap.size (fun k_ => (P0_ k_ ∨ w.heap.size ≤ k_)) (.slice (some ⟨go5, 0, none⟩) x0_1.length co6) y323 := (by rw [hw, Ny323.out]; exact HP7.1); clear HP7; replace HB := Aside0.mk ((by rw [hw]; exact below_set (HB.out) GB5.out : Below w0.heap.size w0 w8)); replace HK := Aside0.mk (Kept.of_grown (S := (fun k_ => P0_ k_)) hg (by repeat (first | (with_reducible first | exact HK.out | apply Kept.alloc | apply Kept.drewN | apply Kept.drew) | exact HK.out)) (fun k_ e_ => (HO_0.out.1 k_ e_))); replace HO_0 := Aside0.mk (hp_); clear hg hw hp_))
     go_roundg k1
     case measure => have := HK1.out; omega
     case rel => exact ⟨(y323), (wrap64 (x1_1 + 1)), (wrap64 (x5_1 + 1)), (by first | rfl | (simp; done) | (simp [*]; done)), (by first | rfl | (simp; done) | (simp [*]; done)), H', ⟨by have := HK1.out; omega⟩, ⟨kR_ HO_0.out⟩, ⟨by repeat (first | (with_reducible first | exact HK.out | apply Kept.alloc | apply Kept.drewN | apply Kept.drew) | exact HK.out)⟩, ⟨hbA_ HB.out⟩⟩
    ·rw [if_neg c4] at H
     exact absurd H (by simp)
   ·rw [if_neg c3] at H
    have c3b0 : decide (x5_1 < (x0_1.length : Int)) = false := decide_eq_false c3
    clear c3
    simp only [Option.some.injEq, Prod.mk.injEq] at H
    obtain ⟨rfl, rfl⟩ := H
    obtain ⟨Ao9, co9, eo9⟩ := Kd.R_slice HO_0.out
    subst eo9
    go_wp2
    go_ret
    exact ⟨by first | rfl | (simp [errW_none, errW_some] <;> rfl) | (simp [*, errW_none, errW_some] <;> rfl), kR_ HO_0.out, hbA_ HB.out, by repeat (first | (with_reducible first | exact HK.out | apply Kept.alloc | apply Kept.drewN | apply Kept.drew) | exact HK.out)⟩
def laws_markWordsS.l0 : Nat → List S41 → Int → Int → Option (Int × List S41)
  | 0, _, _, _ => none
  | k + 1, x0, x1, x5 => if x5 < (x0.length : Int) then (if 0 ≤ x5 then ((laws_markByteS.f k (rd_T41 x0 x5).f1 (wrap64 (x1 + 1))).bind fun t => laws_markWordsS.l0 k (x0.set x5.toNat (⟨(x1), t.2⟩ : S41)) t.1 (wrap64 (x5 + 1))) else none) else (some (x1, x0))
def laws_markWordsS.f (k : Nat) (l0 : List S41) (a1 : Int) : Option (Int × List S41) := laws_markWordsS.l0 k l0 a1 0
theorem laws_markWordsS.mono_l : ∀ k, (∀ y0 y1 y2, LeO (laws_markWordsS.l0 k y0 y1 y2) (laws_markWordsS.l0 (k + 1) y0 y1 y2))
  | 0 => fun _ _ _ r h => by simp [laws_markWordsS.l0] at h
  | k + 1 => by
    have ih0 := laws_markWordsS.mono_l k
    · intro y0 y1 y2
      unfold laws_markWordsS.l0
      repeat' first
      | (with_reducible exact ih0 _ _ _)
      | (with_reducible exact laws_markByteS.mono _ _ _)
      | (with_reducible exact LeO.refl _)
      | (with_reducible exact LeO.none _)
      | (with_reducible refine LeO.ite ?_ ?_)
      | (with_reducible refine LeO.bind ?_ (fun _ => ?_))
      | exact ih0 _ _ _
      | exact laws_markByteS.mono _ _ _
      | exact LeO.none _
      | refine LeO.ite ?_ ?_
      | refine LeO.bind ?_ (fun _ => ?_)
theorem laws_markWordsS.mono : ∀ a0 a1 k, LeO (laws_markWordsS.f k a0 a1) (laws_markWordsS.f (k + 1) a0 a1) := by
  intro a0 a1 k
  have ih0 := laws_markWordsS.mono_l k
  unfold laws_markWordsS.f
  repeat' first
      | (with_reducible exact ih0 _ _ _)
      | (with_reducible exact laws_markByteS.mono _ _ _)
      | (with_reducible exact LeO.refl _)
      | (with_reducible exact LeO.none _)
      | (with_reducible refine LeO.ite ?_ ?_)
      | (with_reducible refine LeO.bind ?_ (fun _ => ?_))
      | exact ih0 _ _ _
      | exact laws_markByteS.mono _ _ _
      | exact LeO.none _
      | refine LeO.ite ?_ ?_
      | refine LeO.bind ?_ (fun _ => ?_)
set_option maxHeartbeats 8000000 in
set_option maxRecDepth 100000 in
theorem laws_markWordsS.calls (k : Nat) (P0_ : Nat → Prop) (u9000_ : Value) (l0 : List S41) (a1 : Int) (r1 : Int) (r2 : List S41) (w0 w : World) (hB : Below w0.heap.size w0 w) (ho0 : Kd.S k41 41 w w0.heap.size P0_ u9000_ l0) (h : laws_markWordsS.f k l0 a1 = some (r1, r2)) :
    Calls Try.prog 42 #[u9000_, .int .i64 a1] w fun e w' => e = .returned (.int .i64 r1) ∧ Kd.S k41 41 w' w0.heap.size P0_ u9000_ r2 ∧ Below w0.heap.size w0 w' ∧ Kept w w' (fun k_ => P0_ k_) := by
  have HO0 := Aside0.mk ho0; clear ho0
  have HK := Aside0.mk (Kept.refl w (fun k_ => P0_ k_))
  have HB := Aside0.mk hB; clear hB
  have H' := Aside0.mk (show laws_markWordsS.l0 k l0 a1 0 = some (r1, r2) from h)
  clear h
  go_enter Try.func42, Try.ntmps42
  go_wp2
  go_loopg [1, 5] k (fun kq v1 v5 w' => ∃ (x0_1 : List S41) (x1_1 : Int) (x5_1 : Int), v1 = .int .i64 x1_1 ∧ v5 = .int .i64 x5_1 ∧ Aside0 (laws_markWordsS.l0 kq x0_1 x1_1 x5_1 = some (r1, r2)) ∧ Aside0 (kq ≤ k) ∧ Aside0 (Kd.S k41 41 w' w0.heap.size P0_ u9000_ x0_1) ∧ Aside0 (Kept w w' (fun k_ => P0_ k_)) ∧ Aside0 (Below w0.heap.size w0 w'))
  case atStart => exact ⟨l0, a1, 0, (by first | rfl | (simp; done) | (simp [*]; done)), (by first | rfl | (simp; done) | (simp [*]; done)), H', ⟨Nat.le_refl _⟩, ⟨kS_ HO0.out⟩, ⟨by repeat (first | (with_reducible first | exact HK.out | apply Kept.alloc | apply Kept.drewN | apply Kept.drew) | exact HK.out)⟩, ⟨hbA_ HB.out⟩⟩
  case round =>
    clear H'; (try clear p2)
    obtain ⟨x0_1, x1_1, x5_1, rfl, rfl, HA, HK1, HO_0, HK, HB⟩ := hrel
    cases gk with
    | zero => exact absurd HA.out (by simp [laws_markWordsS.l0])
    | succ k1 =>
      have H := HA.out; clear HA
      simp only [laws_markWordsS.l0] at H
      by_cases c3 : x5_1 < (x0_1.length : Int)
      · rw [if_pos c3] at H
        have c3b0 : decide (x5_1 < (x0_1.length : Int)) = true := decide_eq_true c3
        by_cases c4 : 0 ≤ x5_1
        · rw [if_pos c4] at H
          have c4b0 : decide (0 ≤ x5_1) = true := decide_eq_true c4
          replace H := Option.bind_eq_some_iff.mp H
          obtain ⟨⟨t1, t2⟩, A20, H⟩ := H
          have A2 := Aside0.mk A20; clear A20
          have H' := Aside0.mk H
          clear H
          obtain ⟨Ao6, co6, eo6⟩ := Kd.S_slice HO_0.out
          subst eo6
          have p5 : 0 ≤ (x5_1 : Int) := c4
          have q5 : (x5_1 : Int) < ((x0_1.length : Nat) : Int) := c3
          have P5 := Aside0.mk p5
          have Q5 := Aside0.mk q5
          clear c3 c4
          obtain ⟨go5, co5, eo5, gb5, gl5, cl5, HG5⟩ := Kd.S_form HO_0.out (by omega)
          (first | cases eo5 | (injection eo5 with ea_ en_ ec_; (first | subst ea_ | (injection ea_ with ea_; subst ea_)); subst ec_; clear en_))
          have GB5 := Aside0.mk gb5; clear gb5 gl5 HG5
          have HMgo5 := Aside0.mk (show P0_ go5 from (Kd.S_R HO_0.out).1 _ rfl)
          have HS0 := Aside0.mk (show Kd.S k41 41 wr w0.heap.size P0_ (.slice (some ⟨go5, 0, none⟩) x0_1.length co6) (x0_1.set x5_1.toNat (rd_T41 x0_1 x5_1)) from Kd.S_start HO_0.out z41 x5_1)
          clear HO_0
          obtain ⟨ok0_, c0_, hM0_, hc0_, hf0_, hk0_, hb0_⟩ := Kd.S_cells HS0.out P5.out Q5.out
          obtain ⟨ve0_, rfl, ge0_⟩ := k41_openM hM0_
          have hx0 := hc0_ 0 _ rfl
          have hf0 := hf0_ 0
          (try simp only [show k41.sz = 2 from rfl, Nat.add_zero] at hx0 hf0)
          clear hM0_ hc0_ hf0_ hk0_ hb0_ ge0_
          replace p5 := eq_true p5
          replace q5 := eq_true q5
          have HP0 := Kd.S_put1 HS0.out P5.out Q5.out 0 (.int .i64 x1_1) (by decide) (⟨(x1_1), (rd_T41 x0_1 x5_1).f1⟩ : S41) (fun hM_ => by obtain ⟨v1, rfl, g1⟩ := k41_openM hM_; exact k41_mkM _ _ _ (⟨(x1_1), (rd_T41 x0_1 x5_1).f1⟩ : S41) g1)
          (try simp only [show k41.sz = 2 from rfl, Nat.add_zero] at HP0)
          go_wp2_with (first | ((with_reducible refine gate_store (t := 3) (p := 16) rfl ?_); refine store_event (t := 3) (p := 16) (v := ?vo_w8) (w1 := (wr.setCell ⟨go5, (x5_1 : Int).toNat * 2, none⟩ (.int .i64 x1_1))) ?hg ?ho ?hn ?hr ?_; (case ho => rfl); (case hg => rfl); (case hn => rfl); (case hr => first | (go_simp; done) | (go_simp; rfl)); intro w8 hw; have hg : wr.grownBy w8 (some go5) := (by rw [hw]; exact HP0.2); have HS1 : Aside0 (Kd.S k41 41 w8 w0.heap.size P0_ (.slice (some ⟨go5, 0, none⟩) x0_1.length co6) (x0_1.set x5_1.toNat (⟨(x1_1), (rd_T41 x0_1 x5_1).f1⟩ : S41))) := ⟨by rw [hw]; exact HP0.1⟩; clear HP0; replace HB := Aside0.mk ((by rw [hw]; exact below_set (HB.out) GB5.out : Below w0.heap.size w0 w8)); replace HK := Aside0.mk (Kept.of_grown (S := (fun k_ => P0_ k_)) hg (by repeat (first | (with_reducible first | exact HK.out | apply Kept.alloc | apply Kept.drewN | apply Kept.drew) | exact HK.out)) (fun k_ e_ => .inl (by injection e_ with e_; subst e_; exact HMgo5.out))); clear hg hw HS0 hx0 hf0; obtain ⟨ok1_, c1_, hM1_, hc1_, hf1_, hk1_, hb1_⟩ := Kd.S_cells HS1.out P5.out Q5.out; obtain ⟨ve1_, rfl, ge1_⟩ := k41_openM hM1_; obtain ⟨Ae1_, ce1_, ee1_⟩ := Kd.R_slice ge1_; subst ee1_; have hx1 := hc1_ 1 _ rfl; (try simp only [show k41.sz = 2 from rfl, Nat.add_zero] at hx1); have HG1 := Aside0.mk ge1_; have HK1_ := Aside0.mk hk1_; have HW1 := Aside0.mk @hb1_; clear hM1_ hc1_ hf1_ ge1_ hk1_ hb1_) | ((with_reducible refine gate_callee (f := 34) rfl ?_); refine goesL_ (some 25) rfl rfl Try.func34 (by kernel_rfl) rfl #[.slice Ae1_ (rd_T41 x0_1 x5_1).f1.length ce1_, .int .i64 (wrap64 (x1_1 + 1))] rfl ar_ ?_; refine (laws_markByteS.calls k1 (fun k_ => some k_ = (.slice Ae1_ (rd_T41 x0_1 x5_1).f1.length ce1_ : Value).ownBlock) _ _ _ t1 t2 w0 _ HB.out (Kd.R_tight rfl HG1.out) A2.out).mono ?_; rintro e w30 ⟨rfl, hy, hb, hkp⟩; refine ⟨_, rfl, ?_⟩; have HSe : Aside0 (Kd.S k41 41 w30 w0.heap.size P0_ (.slice (some ⟨go5, 0, none⟩) x0_1.length co6) (x0_1.set x5_1.toNat (⟨(x1_1), t2⟩ : S41))) := ⟨HW1.out hkp (fun k_ e_ => HG1.out.1 k_ e_.symm) (k41_mkM _ _ _ (⟨(x1_1), t2⟩ : S41) (Kd.R_reok rfl hy (fun k_ e_ => HG1.out.1 k_ e_)))⟩; replace HB := Aside0.mk hb; replace HK := Aside0.mk (Kept.then_ (S := (fun k_ => P0_ k_)) (by repeat (first | (with_reducible first | exact HK.out | apply Kept.alloc | apply Kept.drewN | apply Kept.drew) | exact HK.out)) hkp (fun k_ e_ => .inl (HK1_.out k_ (HG1.out.1 k_ e_.symm)).1)); clear hy hb hkp HW1 HS1 hx1 HG1 HK1_))
          go_roundg k1
          case measure => have := HK1.out; omega
          case rel => exact ⟨(x0_1.set x5_1.toNat (⟨(x1_1), t2⟩ : S41)), t1, (wrap64 (x5_1 + 1)), (by first | rfl | (simp; done) | (simp [*]; done)), (by first | rfl | (simp; done) | (simp [*]; done)), H', ⟨by have := HK1.out; omega⟩, ⟨kS_ HSe.out⟩, ⟨by repeat (first | (with_reducible first | exact HK.out | apply Kept.alloc | apply Kept.drewN | apply Kept.drew) | exact HK.out)⟩, ⟨hbA_ HB.out⟩⟩
        · rw [if_neg c4] at H
          exact absurd H (by simp)
      · rw [if_neg c3] at H
        have c3b0 : decide (x5_1 < (x0_1.length : Int)) = false := decide_eq_false c3
        clear c3
        simp only [Option.some.injEq, Prod.mk.injEq] at H
        obtain ⟨rfl, rfl⟩ := H
        obtain ⟨Ao9, co9, eo9⟩ := Kd.S_slice HO_0.out
        subst eo9
        go_wp2
        go_ret
        exact ⟨by first | rfl | (simp [*]; done), kS_ HO_0.out, hbA_ HB.out, by repeat (first | (with_reducible first | exact HK.out | apply Kept.alloc | apply Kept.drewN | apply Kept.drew) | exact HK.out)⟩
def laws_markIntS.l0 : Nat → List Int → Int → Int → Option (Int × List Int)
 | 0, _, _, _ => none
 | k + 1, x0, x1, x5 => if x5 < (x0.length : Int) then (if 0 ≤ x5 then (laws_markIntS.l0 k (x0.set (x5 : Int).toNat x1) (wrap64 (x1 + 1)) (wrap64 (x5 + 1))) else (none)) else (some (x1, x0))
def laws_markIntS.f (k : Nat) (l0 : List Int) (a1 : Int) : Option (Int × List Int) := laws_markIntS.l0 k l0 a1 0
theorem laws_markIntS.mono_l : ∀ k, (∀ y0 y1 y2, LeO (laws_markIntS.l0 k y0 y1 y2) (laws_markIntS.l0 (k + 1) y0 y1 y2))
 | 0 => fun _ _ _ r h => by simp [laws_markIntS.l0] at h
 | k + 1 => by
  have ih0 := laws_markIntS.mono_l k
  ·intro y0 y1 y2
   unfold laws_markIntS.l0
   repeat' first | (with_reducible first | apply ih0 | exact LeO.refl _ | exact LeO.none _ | refine LeO.ite ?_ ?_ | refine LeO.bind ?_ fun _ => ?_) | apply ih0 | exact LeO.none _ | refine LeO.ite ?_ ?_ | refine LeO.bind ?_ fun _ => ?_
theorem laws_markIntS.mono : ∀ a0 a1 k, LeO (laws_markIntS.f k a0 a1) (laws_markIntS.f (k + 1) a0 a1) := by
 intro a0 a1 k
 have ih0 := laws_markIntS.mono_l k
 unfold laws_markIntS.f
 repeat' first | (with_reducible first | apply ih0 | exact LeO.refl _ | exact LeO.none _ | refine LeO.ite ?_ ?_ | refine LeO.bind ?_ fun _ => ?_) | apply ih0 | exact LeO.none _ | refine LeO.ite ?_ ?_ | refine LeO.bind ?_ fun _ => ?_
set_option maxHeartbeats 8000000 in
set_option maxRecDepth 100000 in
theorem laws_markIntS.calls (k : Nat) (P0_ : Nat → Prop) (u9000_ : Value) (l0 : List Int) (a1 : Int) (r1 : Int) (r2 : List Int) (w0 w : World) (hB : Below w0.heap.size w0 w) (ho0 : Kd.R (Kd.int .i64) 3 w w0.heap.size P0_ u9000_ l0) (h : laws_markIntS.f k l0 a1 = some (r1, r2)) :
  Calls Try.prog 67 #[u9000_, .int .i64 a1] w fun e w' => e = .returned (.int .i64 r1) ∧ Kd.R (Kd.int .i64) 3 w' w0.heap.size (fun k_ => (P0_ k_ ∨ w.heap.size ≤ k_)) u9000_ r2 ∧ Below w0.heap.size w0 w' ∧ Kept w w' (fun k_ => P0_ k_) := by
 have HO0 := Aside0.mk (show Kd.R (Kd.int .i64) 3 w w0.heap.size (fun k_ => (P0_ k_ ∨ w.heap.size ≤ k_)) u9000_ l0 from Kd.R_mono ho0 (fun k_ hk => (.inl hk)))
 have HK := Aside0.mk (Kept.refl w (fun k_ => P0_ k_))
 have HW0 := Aside0.mk hB.size; have HB := Aside0.mk hB; clear hB
 have H : (laws_markIntS.l0 k l0 a1 0) = some (r1, r2) := h
 clear h
 have H' := Aside0.mk H
 clear H
 go_enter Try.func67, Try.ntmps67
 go_wp2
 go_loopg [1, 5] k (fun kq v1 v5 w' => ∃ (x0_1 : List Int) (x1_1 : Int) (x5_1 : Int), v1 = .int .i64 x1_1 ∧ v5 = .int .i64 x5_1 ∧ Aside0 (laws_markIntS.l0 kq x0_1 x1_1 x5_1 = some (r1, r2)) ∧ Aside0 (kq ≤ k) ∧ Aside0 (Kd.R (Kd.int .i64) 3 w' w0.heap.size (fun k_ => (P0_ k_ ∨ w.heap.size ≤ k_)) u9000_ x0_1) ∧ Aside0 (Kept w w' (fun k_ => P0_ k_)) ∧ Aside0 (Below w0.heap.size w0 w'))
 case atStart => exact ⟨(l0), (a1), (0), (by first | rfl | (simp; done) | (simp [*]; done)), (by first | rfl | (simp; done) | (simp [*]; done)), H', ⟨Nat.le_refl _⟩, ⟨kR_ HO0.out⟩, ⟨by repeat (first | (with_reducible first | exact HK.out | apply Kept.alloc | apply Kept.drewN | apply Kept.drew) | exact HK.out)⟩, ⟨hbA_ HB.out⟩⟩
 case round =>
  clear H'; (try clear p2)
  obtain ⟨x0_1, x1_1, x5_1, rfl, rfl, HA, HK1, HO_0, HK, HB⟩ := hrel
  cases gk with
  | zero => exact absurd HA.out (by simp [laws_markIntS.l0])
  | succ k1 =>
   have H := HA.out; clear HA
   simp only [laws_markIntS.l0] at H
   by_cases c3 : x5_1 < (x0_1.length : Int)
   ·rw [if_pos c3] at H
    have c3b0 : decide (x5_1 < (x0_1.length : Int)) = true := decide_eq_true c3
    clear c3
    by_cases c4 : 0 ≤ x5_1
    ·rw [if_pos c4] at H
     have c4b0 : decide (0 ≤ x5_1) = true := decide_eq_true c4
     clear c4
     obtain ⟨y324, hy324⟩ : ∃ y_ : List Int, y_ = (x0_1.set (x5_1 : Int).toNat x1_1) := ⟨_, rfl⟩
     (first | replace H := sb_ hy324 H | rw [← hy324] at H)
     have Ny324 := Aside0.mk hy324; clear hy324
     have H' := Aside0.mk H
     clear H
     obtain ⟨Ao6, co6, eo6⟩ := Kd.R_slice HO_0.out
     subst eo6
     have p5 : 0 ≤ (x5_1 : Int) := of_decide_eq_true (by first | (with_reducible assumption) | assumption)
     have q5 : (x5_1 : Int) < ((x0_1.length : Int) : Int) := of_decide_eq_true (by first | (with_reducible assumption) | assumption)
     obtain ⟨go5, co5, eo5, gb5, gl5, cl5, HG5⟩ := Kd.R_form HO_0.out (by omega)
     (first | cases eo5 | (injection eo5 with ea_ en_ ec_; (first | subst ea_ | (injection ea_ with ea_; subst ea_)); subst ec_; clear en_))
     have GB5 := Aside0.mk gb5; have GG5 := Aside0.mk HG5; clear gb5 gl5 HG5
     have HMgo5 := Aside0.mk (show (P0_ go5 ∨ w.heap.size ≤ go5) from (HO_0.out.1 _ rfl))
     obtain ⟨hx5_0, hf5_0⟩ := Kd.R_celln 0 HO_0.out (x5_1 : Int) p5 q5
     replace p5 := eq_true p5
     replace q5 := eq_true q5
     have HP7 := Kd.R_putg HO_0.out (x5_1 : Int) x1_1
     go_wp2_with (first | ((with_reducible refine gate_store (t := 3) (p := 15) rfl ?_); refine store_event (t := 3) (p := 15) (v := ?vo_w8) (w1 := (wr.setCell ⟨go5, (x5_1 : Int).toNat, none⟩ (.int .i64 x1_1))) ?hg ?ho ?hn ?hr ?_; (case ho => rfl); (case hg => rfl); (case hn => rfl); (case hr => first | (go_simp; done) | (go_simp; rfl)); intro w8 hw; have hg : wr.grownBy w8 (some go5) := (by rw [hw]; exact HP7.2); have hp_ : Kd.R (Kd.int .i64) 3 w8 w0.heap.size (fun k_ => (P0_ k_ ∨ w.heap.size ≤ k_)) (.slice (some ⟨go5, 0, none⟩) x0_1.length co6) y324 := (by rw [hw, Ny324.out]; exact HP7.1); clear HP7; replace HB := Aside0.mk ((by rw [hw]; exact below_set (HB.out) GB5.out : Below w0.heap.size w0 w8)); replace HK := Aside0.mk (Kept.of_grown (S := (fun k_ => P0_ k_)) hg (by repeat (first | (with_reducible first | exact HK.out | apply Kept.alloc | apply Kept.drewN | apply Kept.drew) | exact HK.out)) (fun k_ e_ => (HO_0.out.1 k_ e_))); replace HO_0 := Aside0.mk (hp_); clear hg hw hp_))
     go_roundg k1
     case measure => have := HK1.out; omega
     case rel => exact ⟨(y324), (wrap64 (x1_1 + 1)), (wrap64 (x5_1 + 1)), (by first | rfl | (simp; done) | (simp [*]; done)), (by first | rfl | (simp; done) | (simp [*]; done)), H', ⟨by have := HK1.out; omega⟩, ⟨kR_ HO_0.out⟩, ⟨by repeat (first | (with_reducible first | exact HK.out | apply Kept.alloc | apply Kept.drewN | apply Kept.drew) | exact HK.out)⟩, ⟨hbA_ HB.out⟩⟩
    ·rw [if_neg c4] at H
     exact absurd H (by simp)
   ·rw [if_neg c3] at H
    have c3b0 : decide (x5_1 < (x0_1.length : Int)) = false := decide_eq_false c3
    clear c3
    simp only [Option.some.injEq, Prod.mk.injEq] at H
    obtain ⟨rfl, rfl⟩ := H
    obtain ⟨Ao9, co9, eo9⟩ := Kd.R_slice HO_0.out
    subst eo9
    go_wp2
    go_ret
    exact ⟨by first | rfl | (simp [errW_none, errW_some] <;> rfl) | (simp [*, errW_none, errW_some] <;> rfl), kR_ HO_0.out, hbA_ HB.out, by repeat (first | (with_reducible first | exact HK.out | apply Kept.alloc | apply Kept.drewN | apply Kept.drew) | exact HK.out)⟩
def laws_markClient.f (k : Nat) (a0_0 : Int) (l0_1 : List Int) (l0_2 : List (S41)) (l0_3 : List Int) (a1 : Int) : Option (Int × (List Int) × (List (S41)) × (List Int)) := (laws_markIntS.f k l0_1 a1).bind fun b1 => (laws_markWordsS.f k l0_2 b1.1).bind fun b2 => (laws_markIntS.f k l0_3 b2.1).bind fun b3 => some (b3.1, b1.2, b2.2, b3.2)
theorem laws_markClient.mono : ∀ a0 a1 a2 a3 a4 k, LeO (laws_markClient.f k a0 a1 a2 a3 a4) (laws_markClient.f (k + 1) a0 a1 a2 a3 a4) := by
  intro a0 a1 a2 a3 a4 k
  unfold laws_markClient.f
  repeat' first
      | (with_reducible exact laws_markIntS.mono _ _ _)
      | (with_reducible exact laws_markWordsS.mono _ _ _)
      | (with_reducible exact LeO.refl _)
      | (with_reducible exact LeO.none _)
      | (with_reducible refine LeO.ite ?_ ?_)
      | (with_reducible refine LeO.bind ?_ (fun _ => ?_))
      | exact laws_markIntS.mono _ _ _
      | exact laws_markWordsS.mono _ _ _
      | exact LeO.none _
      | refine LeO.ite ?_ ?_
      | refine LeO.bind ?_ (fun _ => ?_)
set_option maxHeartbeats 8000000 in
set_option maxRecDepth 100000 in
theorem laws_markClient.calls (k : Nat) (a0_0 : Int) (P0_1_ : Nat → Prop) (u9000_ : Value) (l0_1 : List Int) (P0_2_ : Nat → Prop) (u9001_ : Value) (l0_2 : List (S41)) (P0_3_ : Nat → Prop) (u9002_ : Value) (l0_3 : List Int) (a1 : Int) (r1 : Int) (r2 : List Int) (r3 : List (S41)) (r4 : List Int) (w0 w : World) (hB : Below w0.heap.size w0 w) (ho0_1 : Kd.R (Kd.int .i64) 3 w w0.heap.size P0_1_ u9000_ l0_1) (hp0_1_0_3 : ∀ k_, P0_1_ k_ → ¬ P0_3_ k_) (ho0_2 : Kd.S k41 41 w w0.heap.size P0_2_ u9001_ l0_2) (ho0_3 : Kd.R (Kd.int .i64) 3 w w0.heap.size P0_3_ u9002_ l0_3) (hp0_3_0_1 : ∀ k_, P0_3_ k_ → ¬ P0_1_ k_) (h : laws_markClient.f k a0_0 l0_1 l0_2 l0_3 a1 = some (r1, r2, r3, r4)) :
    Calls Try.prog 30 #[.agg #[.int .i64 a0_0, u9000_, u9001_, u9002_], .int .i64 a1] w fun e w' => e = .returned (.int .i64 r1) ∧ Kd.R (Kd.int .i64) 3 w' w0.heap.size P0_1_ u9000_ r2 ∧ Kd.S k41 41 w' w0.heap.size P0_2_ u9001_ r3 ∧ Kd.R (Kd.int .i64) 3 w' w0.heap.size P0_3_ u9002_ r4 ∧ Below w0.heap.size w0 w' ∧ Kept w w' (fun k_ => P0_1_ k_ ∨ P0_2_ k_ ∨ P0_3_ k_) := by
  unfold laws_markClient.f at h
  obtain ⟨⟨t1, s1⟩, A10, h⟩ := Option.bind_eq_some_iff.mp h
  (try dsimp only at A10 h)
  have A1 := Aside0.mk A10; clear A10
  obtain ⟨⟨t2, s2⟩, A20, h⟩ := Option.bind_eq_some_iff.mp h
  (try dsimp only at A20 h)
  have A2 := Aside0.mk A20; clear A20
  obtain ⟨⟨t3, s3⟩, A30, h⟩ := Option.bind_eq_some_iff.mp h
  (try dsimp only at A30 h)
  have A3 := Aside0.mk A30; clear A30
  simp only [Option.some.injEq, Prod.mk.injEq] at h
  obtain ⟨rfl, rfl, rfl, rfl⟩ := h
  have HK := Aside0.mk (Kept.refl w (fun k_ => P0_1_ k_ ∨ P0_2_ k_ ∨ P0_3_ k_))
  have HB := Aside0.mk hB; clear hB
  have HO1 := Aside0.mk ho0_1; clear ho0_1
  have Hhp0_1_0_3 := Aside0.mk hp0_1_0_3; clear hp0_1_0_3
  obtain ⟨Av1, cv1, ev1⟩ := Kd.R_slice HO1.out
  subst ev1
  have HO2 := Aside0.mk ho0_2; clear ho0_2
  obtain ⟨Av2, cv2, ev2⟩ := Kd.S_slice HO2.out
  subst ev2
  have HO3 := Aside0.mk ho0_3; clear ho0_3
  have Hhp0_3_0_1 := Aside0.mk hp0_3_0_1; clear hp0_3_0_1
  obtain ⟨Av3, cv3, ev3⟩ := Kd.R_slice HO3.out
  subst ev3
  go_enter Try.func30, Try.ntmps30
  go_wp2_with (first | ((with_reducible refine gate_dst (N := 2) rfl ?_); refine box_ (N := 2) (cs := #[.int .i64 a0_0, .slice Av1 l0_1.length cv1, .slice Av2 l0_2.length cv2, .slice Av3 l0_3.length cv3]) (t := 30) (fun gb hg w1 hbox hb => ?_); replace HO1 := Aside0.mk (Kd.R_below (kR_ HO1.out) hb); replace HO2 := Aside0.mk (Kd.S_below (kS_ HO2.out) hb); replace HO3 := Aside0.mk (Kd.R_below (kR_ HO3.out) hb); replace HK := Aside0.mk (Kept.below HK.out hb); replace HB := (bs_ HB hb); have BK := Aside0.mk hbox; clear hb hbox hg; have hc1 := bc_ BK 1) | ((with_reducible refine gate_callee (f := 67) rfl ?_); refine goesL_ (some 8) rfl rfl Try.func67 (by kernel_rfl) rfl #[.slice Av1 l0_1.length cv1, .int .i64 a1] rfl ar_ ?_; refine (laws_markIntS.calls k (fun k_ => P0_1_ k_ ∧ w0.heap.size ≤ k_ ∧ k_ < w1.heap.size ∧ ∃ q, q ∈ 3 :: (Kd.int .i64).E ∧ ∃ cells, w1.heap[k_]? = some (.cells cells q (0, 0))) _ _ _ t1 s1 w0 w1 HB.out (Kd.R_bound HO1.out) A1.out).mono ?_; rintro e w2 ⟨rfl, hy, hb, hkp⟩; refine ⟨_, rfl, ?_⟩; have n1_ : Aside0 (Kd.R (Kd.int .i64) 3 w2 w0.heap.size P0_1_ (.slice Av1 l0_1.length cv1) s1) := ⟨Kd.R_reok rfl hy (fun k_ e_ => HO1.out.1 k_ e_)⟩; have n2_ := Aside0.mk (Kd.S_keptT HO2.out hkp (by decide)); have n3_ := Aside0.mk (Kd.R_keptP HO3.out hkp Hhp0_3_0_1.out); replace BK := Aside0.mk (blk_keptT BK.out hkp (by decide)); replace HB := Aside0.mk hb; replace HK := Aside0.mk (Kept.then_ (S := (fun k_ => P0_1_ k_ ∨ P0_2_ k_ ∨ P0_3_ k_)) HK.out hkp (fun k_ h_ => .inl (Or.inl h_.1))); clear hy hb hkp hc1; replace HO1 := n1_; replace HO2 := n2_; replace HO3 := n3_; clear n1_ n2_ n3_; have hc2 := bc_ BK 2) | ((with_reducible refine gate_callee (f := 42) rfl ?_); refine goesL_ (some 12) rfl rfl Try.func42 (by kernel_rfl) rfl #[.slice Av2 l0_2.length cv2, .int .i64 t1] rfl ar_ ?_; refine (laws_markWordsS.calls k (fun k_ => P0_2_ k_ ∧ w0.heap.size ≤ k_ ∧ k_ < w2.heap.size ∧ ∃ q, q ∈ 41 :: k41.E ∧ ∃ cells, w2.heap[k_]? = some (.cells cells q (0, 0))) _ _ _ t2 s2 w0 w2 HB.out (Kd.S_bound HO2.out) A2.out).mono ?_; rintro e w3 ⟨rfl, hy, hb, hkp⟩; refine ⟨_, rfl, ?_⟩; have n1_ := Aside0.mk (Kd.R_keptT HO1.out hkp (by decide)); have n2_ : Aside0 (Kd.S k41 41 w3 w0.heap.size P0_2_ (.slice Av2 l0_2.length cv2) s2) := ⟨Kd.S_mono hy (fun _ h_ => h_.1)⟩; have n3_ := Aside0.mk (Kd.R_keptT HO3.out hkp (by decide)); replace BK := Aside0.mk (blk_keptT BK.out hkp (by decide)); replace HB := Aside0.mk hb; replace HK := Aside0.mk (Kept.then_ (S := (fun k_ => P0_1_ k_ ∨ P0_2_ k_ ∨ P0_3_ k_)) HK.out hkp (fun k_ h_ => .inl (Or.inr (Or.inl h_.1)))); clear hy hb hkp hc2; replace HO1 := n1_; replace HO2 := n2_; replace HO3 := n3_; clear n1_ n2_ n3_; have hc3 := bc_ BK 3) | ((with_reducible refine gate_callee (f := 67) rfl ?_); refine goesL_ (some 16) rfl rfl Try.func67 (by kernel_rfl) rfl #[.slice Av3 l0_3.length cv3, .int .i64 t2] rfl ar_ ?_; refine (laws_markIntS.calls k (fun k_ => P0_3_ k_ ∧ w0.heap.size ≤ k_ ∧ k_ < w3.heap.size ∧ ∃ q, q ∈ 3 :: (Kd.int .i64).E ∧ ∃ cells, w3.heap[k_]? = some (.cells cells q (0, 0))) _ _ _ t3 s3 w0 w3 HB.out (Kd.R_bound HO3.out) A3.out).mono ?_; rintro e w4 ⟨rfl, hy, hb, hkp⟩; refine ⟨_, rfl, ?_⟩; have n1_ := Aside0.mk (Kd.R_keptP HO1.out hkp Hhp0_1_0_3.out); have n2_ := Aside0.mk (Kd.S_keptT HO2.out hkp (by decide)); have n3_ : Aside0 (Kd.R (Kd.int .i64) 3 w4 w0.heap.size P0_3_ (.slice Av3 l0_3.length cv3) s3) := ⟨Kd.R_reok rfl hy (fun k_ e_ => HO3.out.1 k_ e_)⟩; replace BK := Aside0.mk (blk_keptT BK.out hkp (by decide)); replace HB := Aside0.mk hb; replace HK := Aside0.mk (Kept.then_ (S := (fun k_ => P0_1_ k_ ∨ P0_2_ k_ ∨ P0_3_ k_)) HK.out hkp (fun k_ h_ => .inl (Or.inr (Or.inr (h_.1))))); clear hy hb hkp hc3; replace HO1 := n1_; replace HO2 := n2_; replace HO3 := n3_; clear n1_ n2_ n3_))
  go_ret
  exact ⟨rfl, kR_ HO1.out, kS_ HO2.out, kR_ HO3.out, hbA_ HB.out, by repeat (first | (with_reducible first | exact HK.out | apply Kept.alloc | apply Kept.drewN | apply Kept.drew) | exact HK.out)⟩
def laws_heldByteS.l0 : Nat → List Int → Int → Int → Option (Int)
 | 0, _, _, _ => none
 | k + 1, x0, x1, x5 => if x5 < (x0.length : Int) then (if 0 ≤ x5 then (if (rd x0 x5) = ((x1) % 256) then (laws_heldByteS.l0 k x0 (wrap64 (x1 + 1)) (wrap64 (x5 + 1))) else (some (-1))) else (none)) else (some x1)
def laws_heldByteS.f (k : Nat) (l0 : List Int) (a1 : Int) : Option (Int) := laws_heldByteS.l0 k l0 a1 0
theorem laws_heldByteS.mono_l : ∀ k, (∀ y0 y1 y2, LeO (laws_heldByteS.l0 k y0 y1 y2) (laws_heldByteS.l0 (k + 1) y0 y1 y2))
 | 0 => fun _ _ _ r h => by simp [laws_heldByteS.l0] at h
 | k + 1 => by
  have ih0 := laws_heldByteS.mono_l k
  ·intro y0 y1 y2
   unfold laws_heldByteS.l0
   repeat' first | (with_reducible first | apply ih0 | exact LeO.refl _ | exact LeO.none _ | refine LeO.ite ?_ ?_ | refine LeO.bind ?_ fun _ => ?_) | apply ih0 | exact LeO.none _ | refine LeO.ite ?_ ?_ | refine LeO.bind ?_ fun _ => ?_
theorem laws_heldByteS.mono : ∀ a0 a1 k, LeO (laws_heldByteS.f k a0 a1) (laws_heldByteS.f (k + 1) a0 a1) := by
 intro a0 a1 k
 have ih0 := laws_heldByteS.mono_l k
 unfold laws_heldByteS.f
 repeat' first | (with_reducible first | apply ih0 | exact LeO.refl _ | exact LeO.none _ | refine LeO.ite ?_ ?_ | refine LeO.bind ?_ fun _ => ?_) | apply ih0 | exact LeO.none _ | refine LeO.ite ?_ ?_ | refine LeO.bind ?_ fun _ => ?_
set_option maxHeartbeats 8000000 in
set_option maxRecDepth 100000 in
theorem laws_heldByteS.calls (k : Nat) (A0 : Option Addr) (c0 : Nat) (l0 : List Int) (a1 : Int) (r : Int) (w : World) (hr0 : Kd.C (Kd.int .u8) w A0 l0.length l0) (hc0 : l0.length ≤ c0) (h : laws_heldByteS.f k l0 a1 = some r) :
  Calls Try.prog 35 #[.slice A0 l0.length c0, .int .i64 a1] w fun e w' => e = .returned (.int .i64 r) ∧ Drawn0 w w' := by
 have HR0 := Aside0.mk hr0; have HC0 := Aside0.mk hc0; clear hr0 hc0
 have H : (laws_heldByteS.l0 k l0 a1 0) = some r := h
 clear h
 have H' := Aside0.mk H
 clear H
 go_enter Try.func35, Try.ntmps35
 go_wp2
 go_loopg [1, 5] k (fun kq v1 v5 w' => ∃ (x1_1 : Int) (x5_1 : Int), v1 = .int .i64 x1_1 ∧ v5 = .int .i64 x5_1 ∧ Aside0 (laws_heldByteS.l0 kq l0 x1_1 x5_1 = some r) ∧ Aside0 (kq ≤ k) ∧ Drawn0 w w')
 case atStart => exact ⟨(a1), (0), (by first | rfl | (simp; done) | (simp [*]; done)), (by first | rfl | (simp; done) | (simp [*]; done)), H', ⟨Nat.le_refl _⟩, by repeat (first | exact Drawn0.refl _ | apply Drawn0.step)⟩
 case round =>
  clear H'; (try clear p2)
  obtain ⟨x1_1, x5_1, rfl, rfl, HA, HK1, ⟨m1, rfl⟩⟩ := hrel
  cases gk with
  | zero => exact absurd HA.out (by simp [laws_heldByteS.l0])
  | succ k1 =>
   have H := HA.out; clear HA
   simp only [laws_heldByteS.l0] at H
   by_cases c3 : x5_1 < (l0.length : Int)
   ·rw [if_pos c3] at H
    have c3b0 : decide (x5_1 < (l0.length : Int)) = true := decide_eq_true c3
    clear c3
    by_cases c4 : 0 ≤ x5_1
    ·rw [if_pos c4] at H
     have c4b0 : decide (0 ≤ x5_1) = true := decide_eq_true c4
     clear c4
     by_cases c5 : (rd l0 x5_1) = ((x1_1) % 256)
     ·rw [if_pos c5] at H
      have c5b0 : ((rd l0 x5_1) == ((x1_1) % 256)) = true := beq_iff_eq.mpr c5
      have c5b1 : ((rd l0 x5_1) != ((x1_1) % 256)) = false := bne_eq_false_iff_eq.mpr c5
      clear c5
      have H' := Aside0.mk H
      clear H
      have p325 : 0 ≤ (x5_1 : Int) := of_decide_eq_true (by first | (with_reducible assumption) | assumption)
      have q325 : x5_1 < (l0.length : Int) := of_decide_eq_true (by first | (with_reducible assumption) | assumption)
      obtain ⟨ad325, e325, hx325_0⟩ := Kd.at_int HR0.out x5_1 p325 q325
      cases e325
      replace p325 := eq_true p325
      replace q325 := eq_true q325
      go_wp2
      go_roundg k1
      case measure => have := HK1.out; omega
      case rel => exact ⟨(wrap64 (x1_1 + 1)), (wrap64 (x5_1 + 1)), (by first | rfl | (simp; done) | (simp [*]; done)), (by first | rfl | (simp; done) | (simp [*]; done)), H', ⟨by have := HK1.out; omega⟩, by repeat (first | exact Drawn0.refl _ | apply Drawn0.step)⟩
     ·rw [if_neg c5] at H
      have c5b0 : ((rd l0 x5_1) == ((x1_1) % 256)) = false := beq_eq_false_iff_ne.mpr c5
      have c5b1 : ((rd l0 x5_1) != ((x1_1) % 256)) = true := bne_iff_ne.mpr c5
      obtain rfl := Option.some.inj H
      have p325 : 0 ≤ (x5_1 : Int) := of_decide_eq_true (by first | (with_reducible assumption) | assumption)
      have q325 : x5_1 < (l0.length : Int) := of_decide_eq_true (by first | (with_reducible assumption) | assumption)
      obtain ⟨ad325, e325, hx325_0⟩ := Kd.at_int HR0.out x5_1 p325 q325
      cases e325
      replace p325 := eq_true p325
      replace q325 := eq_true q325
      go_wp2
      go_ret
      exact ⟨by first | rfl | (simp; done) | (simp [*]; done), by repeat (first | exact Drawn0.refl _ | apply Drawn0.step)⟩
    ·rw [if_neg c4] at H
     exact absurd H (by simp)
   ·rw [if_neg c3] at H
    have c3b0 : decide (x5_1 < (l0.length : Int)) = false := decide_eq_false c3
    clear c3
    obtain rfl := Option.some.inj H
    go_wp2
    go_ret
    exact ⟨by first | rfl | (simp; done) | (simp [*]; done), by repeat (first | exact Drawn0.refl _ | apply Drawn0.step)⟩
def laws_heldWordsS.l0 : Nat → List (S41) → Int → Int → Option (Int)
 | 0, _, _, _ => none
 | k + 1, x0, x1, x5 => if x5 < (x0.length : Int) then (if 0 ≤ x5 then (if ((rd_T41 x0 x5).f0) = x1 then ((laws_heldByteS.f k ((rd_T41 x0 x5).f1) (wrap64 (x1 + 1))).bind fun t328 => (if t328 < 0 then (some (-1)) else (laws_heldWordsS.l0 k x0 t328 (wrap64 (x5 + 1))))) else (some (-1))) else (none)) else (some x1)
def laws_heldWordsS.f (k : Nat) (l0 : List (S41)) (a1 : Int) : Option (Int) := laws_heldWordsS.l0 k l0 a1 0
theorem laws_heldWordsS.mono_l : ∀ k, (∀ y0 y1 y2, LeO (laws_heldWordsS.l0 k y0 y1 y2) (laws_heldWordsS.l0 (k + 1) y0 y1 y2))
 | 0 => fun _ _ _ r h => by simp [laws_heldWordsS.l0] at h
 | k + 1 => by
  have ih0 := laws_heldWordsS.mono_l k
  ·intro y0 y1 y2
   unfold laws_heldWordsS.l0
   repeat' first | (with_reducible first | apply ih0 | apply laws_heldByteS.mono | exact LeO.refl _ | exact LeO.none _ | refine LeO.ite ?_ ?_ | refine LeO.bind ?_ fun _ => ?_) | apply ih0 | apply laws_heldByteS.mono | exact LeO.none _ | refine LeO.ite ?_ ?_ | refine LeO.bind ?_ fun _ => ?_
theorem laws_heldWordsS.mono : ∀ a0 a1 k, LeO (laws_heldWordsS.f k a0 a1) (laws_heldWordsS.f (k + 1) a0 a1) := by
 intro a0 a1 k
 have ih0 := laws_heldWordsS.mono_l k
 unfold laws_heldWordsS.f
 repeat' first | (with_reducible first | apply ih0 | apply laws_heldByteS.mono | exact LeO.refl _ | exact LeO.none _ | refine LeO.ite ?_ ?_ | refine LeO.bind ?_ fun _ => ?_) | apply ih0 | apply laws_heldByteS.mono | exact LeO.none _ | refine LeO.ite ?_ ?_ | refine LeO.bind ?_ fun _ => ?_
set_option maxHeartbeats 8000000 in
set_option maxRecDepth 100000 in
theorem laws_heldWordsS.calls (k : Nat) (A0 : Option Addr) (c0 : Nat) (l0 : List (S41)) (a1 : Int) (r : Int) (w : World) (hr0 : Kd.C k41 w A0 l0.length l0) (hc0 : l0.length ≤ c0) (h : laws_heldWordsS.f k l0 a1 = some r) :
  Calls Try.prog 43 #[.slice A0 l0.length c0, .int .i64 a1] w fun e w' => e = .returned (.int .i64 r) ∧ Drawn0 w w' := by
 have HR0 := Aside0.mk hr0; have HC0 := Aside0.mk hc0; clear hr0 hc0
 have H : (laws_heldWordsS.l0 k l0 a1 0) = some r := h
 clear h
 have H' := Aside0.mk H
 clear H
 go_enter Try.func43, Try.ntmps43
 go_wp2
 go_loopg [1, 5] k (fun kq v1 v5 w' => ∃ (x1_1 : Int) (x5_1 : Int), v1 = .int .i64 x1_1 ∧ v5 = .int .i64 x5_1 ∧ Aside0 (laws_heldWordsS.l0 kq l0 x1_1 x5_1 = some r) ∧ Aside0 (kq ≤ k) ∧ Drawn0 w w')
 case atStart => exact ⟨(a1), (0), (by first | rfl | (simp; done) | (simp [*]; done)), (by first | rfl | (simp; done) | (simp [*]; done)), H', ⟨Nat.le_refl _⟩, by repeat (first | exact Drawn0.refl _ | apply Drawn0.step)⟩
 case round =>
  clear H'; (try clear p2)
  obtain ⟨x1_1, x5_1, rfl, rfl, HA, HK1, ⟨m1, rfl⟩⟩ := hrel
  cases gk with
  | zero => exact absurd HA.out (by simp [laws_heldWordsS.l0])
  | succ k1 =>
   have H := HA.out; clear HA
   simp only [laws_heldWordsS.l0] at H
   by_cases c3 : x5_1 < (l0.length : Int)
   ·rw [if_pos c3] at H
    have c3b0 : decide (x5_1 < (l0.length : Int)) = true := decide_eq_true c3
    clear c3
    by_cases c4 : 0 ≤ x5_1
    ·rw [if_pos c4] at H
     have c4b0 : decide (0 ≤ x5_1) = true := decide_eq_true c4
     clear c4
     by_cases c5 : ((rd_T41 l0 x5_1).f0) = x1_1
     ·rw [if_pos c5] at H
      have c5b0 : (((rd_T41 l0 x5_1).f0) == x1_1) = true := beq_iff_eq.mpr c5
      have c5b1 : (((rd_T41 l0 x5_1).f0) != x1_1) = false := bne_eq_false_iff_eq.mpr c5
      clear c5
      replace H := Option.bind_eq_some_iff.mp H
      obtain ⟨t328, A60, H⟩ := H
      (try dsimp only at H)
      have A6 := Aside0.mk A60; clear A60
      by_cases c7 : t328 < 0
      ·rw [if_pos c7] at H
       have c7b0 : decide (t328 < 0) = true := decide_eq_true c7
       clear c7
       obtain rfl := Option.some.inj H
       have p326 : 0 ≤ (x5_1 : Int) := of_decide_eq_true (by first | (with_reducible assumption) | assumption)
       have q326 : x5_1 < (l0.length : Int) := of_decide_eq_true (by first | (with_reducible assumption) | assumption)
       obtain ⟨ad326, A326_1, c326_1, e326, hx326_0, hx326_1, hl326_1, hi326_1⟩ := at_T41 HR0.out x5_1 p326 q326
       cases e326
       have HR326_1 := Aside0.mk hi326_1; have HC326_1 := Aside0.mk hl326_1; clear hi326_1 hl326_1
       replace p326 := eq_true p326
       replace q326 := eq_true q326
       have p327 : 0 ≤ (x5_1 : Int) := of_decide_eq_true (by first | (with_reducible assumption) | assumption)
       have q327 : x5_1 < (l0.length : Int) := of_decide_eq_true (by first | (with_reducible assumption) | assumption)
       obtain ⟨ad327, A327_1, c327_1, e327, hx327_0, hx327_1, hl327_1, hi327_1⟩ := at_T41 HR0.out x5_1 p327 q327
       obtain rfl : ad326 = ad327 := (by injection e327)
       have HR327_1 := Aside0.mk hi327_1; have HC327_1 := Aside0.mk hl327_1; clear hi327_1 hl327_1
       replace p327 := eq_true p327
       replace q327 := eq_true q327
       have ea_ := Option.some.inj (hx326_1.symm.trans hx327_1)
       injection ea_ with ea_ en_ ec_
       subst ea_; subst ec_; clear en_
       go_wp2_with (first | ((with_reducible refine gate_callee (f := 35) rfl ?_); refine goesL_ (some 27) rfl rfl Try.func35 (by kernel_rfl) rfl #[.slice A326_1 ((rd_T41 l0 x5_1).f1).length c326_1, .int .i64 (wrap64 (x1_1 + 1))] rfl ar_ ?_; (with_reducible refine (laws_heldByteS.calls k1 _ _ ((rd_T41 l0 x5_1).f1) (wrap64 (x1_1 + 1)) t328 _ ?side1 ?side2 A6.out).mono ?_); (case side1 => exact kC_ HR327_1.out); (case side2 => exact HC327_1.out); rintro e w' ⟨rfl, ⟨nd, rfl⟩⟩; refine ⟨_, rfl, ?_⟩))
       go_ret
       exact ⟨by first | rfl | (simp; done) | (simp [*]; done), by repeat (first | exact Drawn0.refl _ | apply Drawn0.step)⟩
      ·rw [if_neg c7] at H
       have c7b0 : decide (t328 < 0) = false := decide_eq_false c7
       clear c7
       have H' := Aside0.mk H
       clear H
       have p326 : 0 ≤ (x5_1 : Int) := of_decide_eq_true (by first | (with_reducible assumption) | assumption)
       have q326 : x5_1 < (l0.length : Int) := of_decide_eq_true (by first | (with_reducible assumption) | assumption)
       obtain ⟨ad326, A326_1, c326_1, e326, hx326_0, hx326_1, hl326_1, hi326_1⟩ := at_T41 HR0.out x5_1 p326 q326
       cases e326
       have HR326_1 := Aside0.mk hi326_1; have HC326_1 := Aside0.mk hl326_1; clear hi326_1 hl326_1
       replace p326 := eq_true p326
       replace q326 := eq_true q326
       have p327 : 0 ≤ (x5_1 : Int) := of_decide_eq_true (by first | (with_reducible assumption) | assumption)
       have q327 : x5_1 < (l0.length : Int) := of_decide_eq_true (by first | (with_reducible assumption) | assumption)
       obtain ⟨ad327, A327_1, c327_1, e327, hx327_0, hx327_1, hl327_1, hi327_1⟩ := at_T41 HR0.out x5_1 p327 q327
       obtain rfl : ad326 = ad327 := (by injection e327)
       have HR327_1 := Aside0.mk hi327_1; have HC327_1 := Aside0.mk hl327_1; clear hi327_1 hl327_1
       replace p327 := eq_true p327
       replace q327 := eq_true q327
       have ea_ := Option.some.inj (hx326_1.symm.trans hx327_1)
       injection ea_ with ea_ en_ ec_
       subst ea_; subst ec_; clear en_
       go_wp2_with (first | ((with_reducible refine gate_callee (f := 35) rfl ?_); refine goesL_ (some 27) rfl rfl Try.func35 (by kernel_rfl) rfl #[.slice A326_1 ((rd_T41 l0 x5_1).f1).length c326_1, .int .i64 (wrap64 (x1_1 + 1))] rfl ar_ ?_; (with_reducible refine (laws_heldByteS.calls k1 _ _ ((rd_T41 l0 x5_1).f1) (wrap64 (x1_1 + 1)) t328 _ ?side1 ?side2 A6.out).mono ?_); (case side1 => exact kC_ HR327_1.out); (case side2 => exact HC327_1.out); rintro e w' ⟨rfl, ⟨nd, rfl⟩⟩; refine ⟨_, rfl, ?_⟩))
       go_roundg k1
       case measure => have := HK1.out; omega
       case rel => exact ⟨(t328), (wrap64 (x5_1 + 1)), (by first | rfl | (simp; done) | (simp [*]; done)), (by first | rfl | (simp; done) | (simp [*]; done)), H', ⟨by have := HK1.out; omega⟩, by repeat (first | exact Drawn0.refl _ | apply Drawn0.step)⟩
     ·rw [if_neg c5] at H
      have c5b0 : (((rd_T41 l0 x5_1).f0) == x1_1) = false := beq_eq_false_iff_ne.mpr c5
      have c5b1 : (((rd_T41 l0 x5_1).f0) != x1_1) = true := bne_iff_ne.mpr c5
      obtain rfl := Option.some.inj H
      have p326 : 0 ≤ (x5_1 : Int) := of_decide_eq_true (by first | (with_reducible assumption) | assumption)
      have q326 : x5_1 < (l0.length : Int) := of_decide_eq_true (by first | (with_reducible assumption) | assumption)
      obtain ⟨ad326, A326_1, c326_1, e326, hx326_0, hx326_1, hl326_1, hi326_1⟩ := at_T41 HR0.out x5_1 p326 q326
      cases e326
      have HR326_1 := Aside0.mk hi326_1; have HC326_1 := Aside0.mk hl326_1; clear hi326_1 hl326_1
      replace p326 := eq_true p326
      replace q326 := eq_true q326
      go_wp2
      go_ret
      exact ⟨by first | rfl | (simp; done) | (simp [*]; done), by repeat (first | exact Drawn0.refl _ | apply Drawn0.step)⟩
    ·rw [if_neg c4] at H
     exact absurd H (by simp)
   ·rw [if_neg c3] at H
    have c3b0 : decide (x5_1 < (l0.length : Int)) = false := decide_eq_false c3
    clear c3
    obtain rfl := Option.some.inj H
    go_wp2
    go_ret
    exact ⟨by first | rfl | (simp; done) | (simp [*]; done), by repeat (first | exact Drawn0.refl _ | apply Drawn0.step)⟩
def laws_heldIntS.l0 : Nat → List Int → Int → Int → Option (Int)
 | 0, _, _, _ => none
 | k + 1, x0, x1, x5 => if x5 < (x0.length : Int) then (if 0 ≤ x5 then (if (rd x0 x5) = x1 then (laws_heldIntS.l0 k x0 (wrap64 (x1 + 1)) (wrap64 (x5 + 1))) else (some (-1))) else (none)) else (some x1)
def laws_heldIntS.f (k : Nat) (l0 : List Int) (a1 : Int) : Option (Int) := laws_heldIntS.l0 k l0 a1 0
theorem laws_heldIntS.mono_l : ∀ k, (∀ y0 y1 y2, LeO (laws_heldIntS.l0 k y0 y1 y2) (laws_heldIntS.l0 (k + 1) y0 y1 y2))
 | 0 => fun _ _ _ r h => by simp [laws_heldIntS.l0] at h
 | k + 1 => by
  have ih0 := laws_heldIntS.mono_l k
  ·intro y0 y1 y2
   unfold laws_heldIntS.l0
   repeat' first | (with_reducible first | apply ih0 | exact LeO.refl _ | exact LeO.none _ | refine LeO.ite ?_ ?_ | refine LeO.bind ?_ fun _ => ?_) | apply ih0 | exact LeO.none _ | refine LeO.ite ?_ ?_ | refine LeO.bind ?_ fun _ => ?_
theorem laws_heldIntS.mono : ∀ a0 a1 k, LeO (laws_heldIntS.f k a0 a1) (laws_heldIntS.f (k + 1) a0 a1) := by
 intro a0 a1 k
 have ih0 := laws_heldIntS.mono_l k
 unfold laws_heldIntS.f
 repeat' first | (with_reducible first | apply ih0 | exact LeO.refl _ | exact LeO.none _ | refine LeO.ite ?_ ?_ | refine LeO.bind ?_ fun _ => ?_) | apply ih0 | exact LeO.none _ | refine LeO.ite ?_ ?_ | refine LeO.bind ?_ fun _ => ?_
set_option maxHeartbeats 8000000 in
set_option maxRecDepth 100000 in
theorem laws_heldIntS.calls (k : Nat) (A0 : Option Addr) (c0 : Nat) (l0 : List Int) (a1 : Int) (r : Int) (w : World) (hr0 : Kd.C (Kd.int .i64) w A0 l0.length l0) (hc0 : l0.length ≤ c0) (h : laws_heldIntS.f k l0 a1 = some r) :
  Calls Try.prog 68 #[.slice A0 l0.length c0, .int .i64 a1] w fun e w' => e = .returned (.int .i64 r) ∧ Drawn0 w w' := by
 have HR0 := Aside0.mk hr0; have HC0 := Aside0.mk hc0; clear hr0 hc0
 have H : (laws_heldIntS.l0 k l0 a1 0) = some r := h
 clear h
 have H' := Aside0.mk H
 clear H
 go_enter Try.func68, Try.ntmps68
 go_wp2
 go_loopg [1, 5] k (fun kq v1 v5 w' => ∃ (x1_1 : Int) (x5_1 : Int), v1 = .int .i64 x1_1 ∧ v5 = .int .i64 x5_1 ∧ Aside0 (laws_heldIntS.l0 kq l0 x1_1 x5_1 = some r) ∧ Aside0 (kq ≤ k) ∧ Drawn0 w w')
 case atStart => exact ⟨(a1), (0), (by first | rfl | (simp; done) | (simp [*]; done)), (by first | rfl | (simp; done) | (simp [*]; done)), H', ⟨Nat.le_refl _⟩, by repeat (first | exact Drawn0.refl _ | apply Drawn0.step)⟩
 case round =>
  clear H'; (try clear p2)
  obtain ⟨x1_1, x5_1, rfl, rfl, HA, HK1, ⟨m1, rfl⟩⟩ := hrel
  cases gk with
  | zero => exact absurd HA.out (by simp [laws_heldIntS.l0])
  | succ k1 =>
   have H := HA.out; clear HA
   simp only [laws_heldIntS.l0] at H
   by_cases c3 : x5_1 < (l0.length : Int)
   ·rw [if_pos c3] at H
    have c3b0 : decide (x5_1 < (l0.length : Int)) = true := decide_eq_true c3
    clear c3
    by_cases c4 : 0 ≤ x5_1
    ·rw [if_pos c4] at H
     have c4b0 : decide (0 ≤ x5_1) = true := decide_eq_true c4
     clear c4
     by_cases c5 : (rd l0 x5_1) = x1_1
     ·rw [if_pos c5] at H
      have c5b0 : ((rd l0 x5_1) == x1_1) = true := beq_iff_eq.mpr c5
      have c5b1 : ((rd l0 x5_1) != x1_1) = false := bne_eq_false_iff_eq.mpr c5
      clear c5
      have H' := Aside0.mk H
      clear H
      have p329 : 0 ≤ (x5_1 : Int) := of_decide_eq_true (by first | (with_reducible assumption) | assumption)
      have q329 : x5_1 < (l0.length : Int) := of_decide_eq_true (by first | (with_reducible assumption) | assumption)
      obtain ⟨ad329, e329, hx329_0⟩ := Kd.at_int HR0.out x5_1 p329 q329
      cases e329
      replace p329 := eq_true p329
      replace q329 := eq_true q329
      go_wp2
      go_roundg k1
      case measure => have := HK1.out; omega
      case rel => exact ⟨(wrap64 (x1_1 + 1)), (wrap64 (x5_1 + 1)), (by first | rfl | (simp; done) | (simp [*]; done)), (by first | rfl | (simp; done) | (simp [*]; done)), H', ⟨by have := HK1.out; omega⟩, by repeat (first | exact Drawn0.refl _ | apply Drawn0.step)⟩
     ·rw [if_neg c5] at H
      have c5b0 : ((rd l0 x5_1) == x1_1) = false := beq_eq_false_iff_ne.mpr c5
      have c5b1 : ((rd l0 x5_1) != x1_1) = true := bne_iff_ne.mpr c5
      obtain rfl := Option.some.inj H
      have p329 : 0 ≤ (x5_1 : Int) := of_decide_eq_true (by first | (with_reducible assumption) | assumption)
      have q329 : x5_1 < (l0.length : Int) := of_decide_eq_true (by first | (with_reducible assumption) | assumption)
      obtain ⟨ad329, e329, hx329_0⟩ := Kd.at_int HR0.out x5_1 p329 q329
      cases e329
      replace p329 := eq_true p329
      replace q329 := eq_true q329
      go_wp2
      go_ret
      exact ⟨by first | rfl | (simp; done) | (simp [*]; done), by repeat (first | exact Drawn0.refl _ | apply Drawn0.step)⟩
    ·rw [if_neg c4] at H
     exact absurd H (by simp)
   ·rw [if_neg c3] at H
    have c3b0 : decide (x5_1 < (l0.length : Int)) = false := decide_eq_false c3
    clear c3
    obtain rfl := Option.some.inj H
    go_wp2
    go_ret
    exact ⟨by first | rfl | (simp; done) | (simp [*]; done), by repeat (first | exact Drawn0.refl _ | apply Drawn0.step)⟩
end Go.Proofs.Ytegchbdjbefdbaa.PFnExactClientHear
