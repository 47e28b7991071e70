/- Printed by wip/xp/xprint.sh out of the translation, for this claim: what each function answers, as a plain function, and that the machine does just that. No condition. -/
import Derived.Test.YtegchbdjbefdbaaPFnClientHearx0
import Derived.Test.YtegchbdjbefdbaaPFnClientHearx2
import Derived.Test.YtegchbdjbefdbaaPFnClientHearx3
import Derived.Test.YtegchbdjbefdbaaPFnClientHearx4
namespace Go.Proofs.Ytegchbdjbefdbaa.PFnClientHear
open Go.RowKit Go.Proofs.YtegchbdjbefdbaaW.PrintWords Go.Proofs.YtegchbdjbefdbaaW.PrintLast Go.Proofs.YtegchbdjbefdbaaW.PrintMore
attribute [local go_sem] max2_int min2_int max_two min_two max_three min_three max_four min_four   -- for this text's walks alone
set_option linter.unusedVariables false
set_option linter.unusedSimpArgs false
def spec_ClientHear.l0 : Nat → List Int → Bool → Int → Int → List Int → List (S41) → List Int → Int → List Int → Int → List Int → List (S41) → List Int → Option (Int × List Int × (List (S41)) × List Int × Bool)
 | 0, _, _, _, _, _, _, _, _, _, _, _, _, _ => none
 | k + 1, x7, x8, x9, x223000, x223001, x223002, x223003, x224000, x224001, x237000, x237001, x237002, x237003 => if x9 < (x223001.length : Int) then (if 0 ≤ x9 then (if (rd x223001 x9) = x224000 then (spec_ClientHear.l0 k x7 true (wrap64 (x9 + 1)) x223000 x223001 x223002 x223003 x224000 x224001 x237000 x237001 x237002 x237003) else (if x7.length < 17592186044416 then (spec_ClientHear.l0 k (x7 ++ [rd x223001 x9]) x8 (wrap64 (x9 + 1)) x223000 x223001 x223002 x223003 x224000 x224001 x237000 x237001 x237002 x237003) else (none))) else (none)) else (if x8 = true then (if (x224001.length : Int) > 9 then (some (x237000, x237001, x237002, x237003, false)) else ((some (([] : List Int) : List Int)).bind fun y245 => (if y245.length + x224001.length < 140737488355328 then (if x237002.length < 4398046511104 then (some (x237000, x7, (x237002 ++ [(⟨x224000, (y245 ++ x224001)⟩ : S41)]), x237003, true)) else (none)) else (none)))) else (some (x237000, x237001, x237002, x237003, false)))
def spec_ClientHear.f (k : Nat) (a0_0 : Int) (l0_1 : List Int) (l0_2 : List (S41)) (l0_3 : List Int) (a1_0 : Int) (l1_1 : List Int) : Option (Int × List Int × (List (S41)) × List Int × Bool) := (spec_ClientOk.f k a0_0 l0_1 l0_2 l0_3).bind fun t225 => (if t225 = true then ((spec_l20Client.f k a0_0 l0_1 l0_2 l0_3).bind fun bt226 => (spec_ClientHear.l0 k (([] : List Int)) false 0 a0_0 l0_1 l0_2 l0_3 a1_0 l1_1 bt226.1 bt226.2.1 bt226.2.2.1 bt226.2.2.2)) else (some (0, ([] : List Int), ([] : List (S41)), ([] : List Int), false)))
theorem spec_ClientHear.mono_l : ∀ k, (∀ y0 y1 y2 y3 y4 y5 y6 y7 y8 y9 y10 y11 y12, LeO (spec_ClientHear.l0 k y0 y1 y2 y3 y4 y5 y6 y7 y8 y9 y10 y11 y12) (spec_ClientHear.l0 (k + 1) y0 y1 y2 y3 y4 y5 y6 y7 y8 y9 y10 y11 y12))
 | 0 => fun _ _ _ _ _ _ _ _ _ _ _ _ _ r h => by simp [spec_ClientHear.l0] at h
 | k + 1 => by
  have ih0 := spec_ClientHear.mono_l k
  ·intro y0 y1 y2 y3 y4 y5 y6 y7 y8 y9 y10 y11 y12
   unfold spec_ClientHear.l0
   repeat' first | (with_reducible first | apply ih0 | apply spec_ClientOk.mono | apply spec_l20Client.mono | exact LeO.refl _ | exact LeO.none _ | refine LeO.ite ?_ ?_ | refine LeO.bind ?_ fun _ => ?_) | apply ih0 | apply spec_ClientOk.mono | apply spec_l20Client.mono | exact LeO.none _ | refine LeO.ite ?_ ?_ | refine LeO.bind ?_ fun _ => ?_
theorem spec_ClientHear.mono : ∀ a0 a1 a2 a3 a4 a5 k, LeO (spec_ClientHear.f k a0 a1 a2 a3 a4 a5) (spec_ClientHear.f (k + 1) a0 a1 a2 a3 a4 a5) := by
 intro a0 a1 a2 a3 a4 a5 k
 have ih0 := spec_ClientHear.mono_l k
 unfold spec_ClientHear.f
 repeat' first | (with_reducible first | apply ih0 | apply spec_ClientOk.mono | apply spec_l20Client.mono | exact LeO.refl _ | exact LeO.none _ | refine LeO.ite ?_ ?_ | refine LeO.bind ?_ fun _ => ?_) | apply ih0 | apply spec_ClientOk.mono | apply spec_l20Client.mono | exact LeO.none _ | refine LeO.ite ?_ ?_ | refine LeO.bind ?_ fun _ => ?_
def spec_ClientHear.T9 : Bool × List (List Nat × List Nat) := (true, [([], []), ([0], [0]), ([], []), ([1, 2], [1, 2]), ([3], [3]), ([], []), ([5], [5]), ([4, 6], [4, 6])])
def spec_ClientHear.B9 : List Nat := [0, 1, 0, 7, 15, 0, 32, 127]
theorem spec_ClientHear.tab9 : rtab .any (opsOf Try.f24 9) = spec_ClientHear.T9 := by kernel_rfl
theorem spec_ClientHear.bits9 : waitsOk spec_ClientHear.T9.2 spec_ClientHear.B9 = true := by kernel_rfl
def spec_ClientHear.T15 : Bool × List (List Nat × List Nat) := (true, [([], []), ([0], [0]), ([], []), ([2], [2]), ([], []), ([], []), ([5], [5]), ([4, 6], [4, 6]), ([3, 7], [3, 7]), ([8], [8]), ([1, 9, 7], [1, 9]), ([0, 1, 2, 3, 4, 5, 6, 7, 8, 9, 10], []), ([11, 10, 10, 0, 1, 2, 3, 4, 5, 6, 7, 8, 9, 10], [10, 11])])
def spec_ClientHear.B15 : List Nat := [0, 1, 0, 4, 0, 0, 32, 112, 252, 508, 1023, 2047, 4095]
theorem spec_ClientHear.tab15 : rtab .any (opsOf Try.f24 15) = spec_ClientHear.T15 := by kernel_rfl
theorem spec_ClientHear.bits15 : waitsOk spec_ClientHear.T15.2 spec_ClientHear.B15 = true := by kernel_rfl
set_option maxHeartbeats 8000000 in
set_option maxRecDepth 100000 in
theorem spec_ClientHear.calls (k : Nat) (a0_0 : Int) (A0_1 : Option Addr) (c0_1 : Nat) (l0_1 : List Int) (A0_2 : Option Addr) (c0_2 : Nat) (l0_2 : List (S41)) (A0_3 : Option Addr) (c0_3 : Nat) (l0_3 : List Int) (a1_0 : Int) (A1_1 : Option Addr) (c1_1 : Nat) (l1_1 : List Int) (r1 : Int) (r2 : List Int) (r3 : List (S41)) (r4 : List Int) (r5 : Bool) (w : World) (hr0_1 : Kd.C (Kd.int .i64) w A0_1 l0_1.length l0_1) (hc0_1 : l0_1.length ≤ c0_1) (hr0_2 : Kd.C k41 w A0_2 l0_2.length l0_2) (hc0_2 : l0_2.length ≤ c0_2) (hr0_3 : Kd.C (Kd.int .i64) w A0_3 l0_3.length l0_3) (hc0_3 : l0_3.length ≤ c0_3) (hr1_1 : Kd.C (Kd.int .u8) w A1_1 l1_1.length l1_1) (hc1_1 : l1_1.length ≤ c1_1) (h : spec_ClientHear.f k a0_0 l0_1 l0_2 l0_3 a1_0 l1_1 = some (r1, r2, r3, r4, r5)) :
  Calls Try.prog 24 #[.agg #[.int .i64 a0_0, .slice A0_1 l0_1.length c0_1, .slice A0_2 l0_2.length c0_2, .slice A0_3 l0_3.length c0_3], .agg #[.int .i64 a1_0, .slice A1_1 l1_1.length c1_1]] w fun e w' => ∃ v1_ v2_ v3_ : Value, e = .returned (.tuple #[.agg #[.int .i64 r1, v1_, v2_, v3_], .bool r5]) ∧ Kd.R (Kd.int .i64) 3 w' w.heap.size (fun k_ => some k_ ≠ (v3_ : Value).ownBlock) v1_ r2 ∧ Kd.S k41 41 w' w.heap.size (fun _ => True) v2_ r3 ∧ Kd.R (Kd.int .i64) 3 w' w.heap.size (fun k_ => some k_ ≠ (v1_ : Value).ownBlock) v3_ r4 ∧ Below w.heap.size w w' := by
 have hu30 := Try.underlying30; have hu41 := Try.underlying41; have HR0_1 := Aside0.mk hr0_1; have HC0_1 := Aside0.mk hc0_1; clear hr0_1 hc0_1; have HR0_2 := Aside0.mk hr0_2; have HC0_2 := Aside0.mk hc0_2; clear hr0_2 hc0_2; have HR0_3 := Aside0.mk hr0_3; have HC0_3 := Aside0.mk hc0_3; clear hr0_3 hc0_3; have HR1_1 := Aside0.mk hr1_1; have HC1_1 := Aside0.mk hc1_1; clear hr1_1 hc1_1
 have HB := Aside0.mk (Below.refl w.heap.size w)
 have H : ((spec_ClientOk.f k a0_0 l0_1 l0_2 l0_3).bind fun t225 => (if t225 = true then ((spec_l20Client.f k a0_0 l0_1 l0_2 l0_3).bind fun bt226 => (spec_ClientHear.l0 k (([] : List Int)) false 0 a0_0 l0_1 l0_2 l0_3 a1_0 l1_1 bt226.1 bt226.2.1 bt226.2.2.1 bt226.2.2.2)) else (some (0, ([] : List Int), ([] : List (S41)), ([] : List Int), false)))) = some (r1, r2, r3, r4, r5) := h
 clear h
 replace H := Option.bind_eq_some_iff.mp H
 obtain ⟨t225, A30, H⟩ := H
 (try dsimp only at H)
 have A3 := Aside0.mk A30; clear A30
 by_cases c4 : t225 = true
 ·subst c4
  rw [if_pos rfl] at H
  replace H := Option.bind_eq_some_iff.mp H
  obtain ⟨⟨t226, t227, t230, t233⟩, A50, H⟩ := H
  (try dsimp only at H)
  have A5 := Aside0.mk A50; clear A50
  obtain ⟨y237, hy237⟩ : ∃ y_ : List Int, y_ = (([] : List Int)) := ⟨_, rfl⟩
  (first | replace H := sb_ hy237 H | rw [← hy237] at H)
  have Ny237 := Aside0.mk hy237; clear hy237
  have H' := Aside0.mk H
  clear H
  go_enter Try.func24, Try.ntmps24
  go_wp2_with (first | ((with_reducible refine gate_dst (N := 2) rfl ?_); (try (refine gate_guard (by rfl) ?_; dsimp only)); refine box_ (N := 2) (cs := #[.int .i64 a0_0, .slice A0_1 l0_1.length c0_1, .slice A0_2 l0_2.length c0_2, .slice A0_3 l0_3.length c0_3]) (t := 30) (fun gb222 hg w6 hbox hb => ?_); have BK222 := Aside0.mk (hbox); have GW222 := ge_ hg HB; have GE222 := ge_ hg HB; replace HB := (bs_ HB hb); clear hb hbox hg) | ((with_reducible refine gate_dst (N := 3) rfl ?_); (try (refine gate_guard (by rfl) ?_; dsimp only)); refine box_ (N := 3) (cs := #[.int .i64 a1_0, .slice A1_1 l1_1.length c1_1]) (t := 41) (fun gb223 hg w7 hbox hb => ?_); have BK223 := Aside0.mk (hbox); have GW223 := ge_ hg HB; have GE223 := ge_ hg HB; replace HB := (bs_ HB hb); have NB222_223 := nl_ hg BK222; have NB223_222 := ng_ hg BK222; replace BK222 := (bbA_ BK222 hb); clear hb hbox hg) | ((with_reducible refine gate_dst (N := 4) rfl ?_); (try (refine gate_guard (by rfl) ?_; dsimp only)); refine box_ (N := 4) (cs := #[.int .i64 0, .slice none 0 0, .slice none 0 0, .slice none 0 0]) (t := 30) (fun gb224 hg w8 hbox hb => ?_); have BK224 := Aside0.mk (hbox); have GW224 := ge_ hg HB; have GE224 := ge_ hg HB; replace HB := (bs_ HB hb); have NB222_224 := nl_ hg BK222; have NB224_222 := ng_ hg BK222; replace BK222 := (bbA_ BK222 hb); have NB223_224 := nl_ hg BK223; have NB224_223 := ng_ hg BK223; replace BK223 := (bbA_ BK223 hb); clear hb hbox hg; have hnb9 := NB222_223.out; have hnc9 := NB223_222.out; have hnb10 := NB222_224.out; have hnc10 := NB224_222.out; have Z11 := zz4 BK222) | ((with_reducible refine gate_callee (f := 12) rfl ?_); refine goesL_ (some 11) rfl rfl Try.func12 (by kernel_rfl) rfl #[.agg #[.int .i64 a0_0, .slice A0_1 l0_1.length c0_1, .slice A0_2 l0_2.length c0_2, .slice A0_3 l0_3.length c0_3]] rfl ar_ ?_; (with_reducible refine (spec_ClientOk.calls k a0_0 _ _ l0_1 _ _ l0_2 _ _ l0_3 true _ ?side1 ?side2 ?side3 ?side4 ?side5 ?side6 A3.out).mono ?_); (case side1 => exact kC_ (Kd.C_below HR0_1.out HB.out)); (case side2 => exact HC0_1.out); (case side3 => exact kC_ (Kd.C_below HR0_2.out HB.out)); (case side4 => exact HC0_2.out); (case side5 => exact kC_ (Kd.C_below HR0_3.out HB.out)); (case side6 => exact HC0_3.out); rintro e w12 ⟨rfl, hb⟩; refine ⟨_, rfl, ?_⟩; replace BK222 := (bbA_ BK222 hb); replace BK223 := (bbA_ BK223 hb); replace BK224 := (bbA_ BK224 hb); replace HB := (bs_ HB hb); (try clear hb); (try clear hb2); (try clear hk); (try clear hi); have Z13 := zz4 BK222) | ((with_reducible refine gate_callee (f := 56) rfl ?_); refine goesL_ (some 15) rfl rfl Try.func56 (by kernel_rfl) rfl #[.agg #[.int .i64 a0_0, .slice A0_1 l0_1.length c0_1, .slice A0_2 l0_2.length c0_2, .slice A0_3 l0_3.length c0_3]] rfl ar_ ?_; (with_reducible refine (spec_l20Client.calls k a0_0 _ _ l0_1 _ _ l0_2 _ _ l0_3 t226 t227 t230 t233 _ ?side1 ?side2 ?side3 ?side4 ?side5 ?side6 A5.out).mono ?_); (case side1 => exact kC_ (Kd.C_below HR0_1.out HB.out)); (case side2 => exact HC0_1.out); (case side3 => exact kC_ (Kd.C_below HR0_2.out HB.out)); (case side4 => exact HC0_2.out); (case side5 => exact kC_ (Kd.C_below HR0_3.out HB.out)); (case side6 => exact HC0_3.out); rintro e w14 ⟨v228, v231, v234, rfl, ho0, ho1, ho2, hb⟩; refine ⟨_, rfl, ?_⟩; have HO229 := Aside0.mk (Kd.R_lower ho0 (below_size (hbA_ HB.out))); have HO232 := Aside0.mk (Kd.S_lower (nbS_ ho1 BK223) (below_size (hbA_ HB.out))); have HO235 := Aside0.mk (Kd.R_lower ho2 (below_size (hbA_ HB.out))); replace BK222 := (bbA_ BK222 hb); replace BK223 := (bbA_ BK223 hb); replace BK224 := (bbA_ BK224 hb); replace HB := (bs_ HB hb); (try clear hb); (try clear hb2); (try clear hk); (try clear hi); (try clear ho0); (try clear ho1); (try clear ho2)) | ((with_reducible refine gate_dst (N := 6) rfl ?_); (try (refine gate_guard (by rfl) ?_; dsimp only)); refine box_ (N := 6) (cs := #[.int .i64 0, .slice none 0 0, .slice none 0 0, .slice none 0 0]) (t := 30) (fun gb236 hg w15 hbox hb => ?_); replace HO229 := Aside0.mk (Kd.R_below (kR_ HO229.out) hb); replace HO232 := Aside0.mk (Kd.S_below (kS_ HO232.out) hb); replace HO235 := Aside0.mk (Kd.R_below (kR_ HO235.out) hb); have BK236 := Aside0.mk (hbox); have GW236 := ge_ hg HB; have GE236 := ge_ hg HB; replace HB := (bs_ HB hb); have NB222_236 := nl_ hg BK222; have NB236_222 := ng_ hg BK222; replace BK222 := (bbA_ BK222 hb); have NB223_236 := nl_ hg BK223; have NB236_223 := ng_ hg BK223; replace BK223 := (bbA_ BK223 hb); have NB224_236 := nl_ hg BK224; have NB236_224 := ng_ hg BK224; replace BK224 := (bbA_ BK224 hb); clear hb hbox hg; have hnb16 := NB236_222.out; have hnc16 := NB222_236.out; have hnb17 := NB236_223.out; have hnc17 := NB223_236.out; have hnb18 := NB236_224.out; have hnc18 := NB224_236.out; have Z19 := zz4 BK236; obtain ⟨Ao20, co20, eo20⟩ := Kd.R_slice HO229.out; subst eo20; obtain ⟨Ao21, co21, eo21⟩ := Kd.S_slice HO232.out; subst eo21; obtain ⟨Ao22, co22, eo22⟩ := Kd.R_slice HO235.out; subst eo22) | ((with_reducible refine gate_dst (N := 16) rfl ?_); (try (refine gate_guard (by rfl) ?_; dsimp only)); refine Kd.R_lit (Kd.int .i64) _ 3 ?hg (N := 16) ?hd (xs := ([] : List Int)) (inner := []) (ok := fun _ => True) (okp := fun _ => True) ?hr ?hp (fun _ hk => hk) trivial (Below.refl _ _) (Nat.le_refl _) (by simp) ?_; (case hd => rfl); (case hg => rfl); (case hr => first | (go_simp; done) | (go_simp; rfl)); (case hp => exact (Reps.none _ _)); intro v238 w23 ho24 hb hg_ hnew_; clear hg_ hnew_; (first | rw [← Ny237.out] at ho24 | (simp only [Int.reduceToNat] at ho24; rw [← Ny237.out] at ho24)); replace HO232 := Aside0.mk (Kd.S_below (by refine kS_ ?_; exact (Kd.S_mono (Kd.S_far (p := ⟨gb236, 3, none⟩) (Kd.S_far (p := ⟨gb236, 2, none⟩) (Kd.S_far (p := ⟨gb236, 1, none⟩) (Kd.S_far (p := ⟨gb236, 0, none⟩) (Kd.S_types HO232.out BK236.out (by decide)) (fun _ hk => hk.2) (.int .i64 t226)) (fun _ hk => hk.2) (.slice Ao20 t227.length co20)) (fun _ hk => hk.2) (.slice Ao21 t230.length co21)) (fun _ hk => hk.2) (.slice Ao22 t233.length co22)) (fun _ h_ => op1_ h_))) hb); have HO239 := Aside0.mk (Kd.R_lower (Kd.R_new' (Kd.R_new' ho24 (Kd.R_lt (by refine kR_ ?_; exact (rfm_ ((Kd.R_types HO229.out BK236.out (by decide))) (fun _ h_ => op1_ h_))))) (Kd.R_lt (by refine kR_ ?_; exact (rfm_ ((Kd.R_types HO235.out BK236.out (by decide))) (fun _ h_ => op1_ h_))))) (below_size (hbA_ HB.out))); replace HO229 := Aside0.mk (Kd.R_elder' (by refine kR_ ?_; exact (rfm_ ((Kd.R_types HO229.out BK236.out (by decide))) (fun _ h_ => op1_ h_))) (Kd.R_base ho24) hb); replace HO235 := Aside0.mk (Kd.R_elder' (by refine kR_ ?_; exact (rfm_ ((Kd.R_types HO235.out BK236.out (by decide))) (fun _ h_ => op1_ h_))) (Kd.R_base ho24) hb); replace BK222 := Aside0.mk (blk_below (g := gb222) (o := .cells #[.int .i64 a0_0, .slice A0_1 l0_1.length c0_1, .slice A0_2 l0_2.length c0_2, .slice A0_3 l0_3.length c0_3] 30 (0, 0)) (by exact kf_ BK222.out) hb); replace BK223 := Aside0.mk (blk_below (g := gb223) (o := .cells #[.int .i64 a1_0, .slice A1_1 l1_1.length c1_1] 41 (0, 0)) (by exact kf_ BK223.out) hb); replace BK224 := Aside0.mk (blk_below (g := gb224) (o := .cells #[.int .i64 0, .slice none 0 0, .slice none 0 0, .slice none 0 0] 30 (0, 0)) (by exact kf_ BK224.out) hb); replace BK236 := Aside0.mk (blk_below (g := gb236) (o := .cells #[.int .i64 t226, .slice Ao20 t227.length co20, .slice Ao21 t230.length co21, .slice Ao22 t233.length co22] 30 (0, 0)) (by refine kb_ ?_; refine pz4 (cs := #[.int .i64 0, .slice none 0 0, .slice none 0 0, .slice none 0 0]) ?_; refine kb_ ?_; exact BK236.out) hb); replace HB := (bs_ HB hb); clear hb ho24))
  go_loopg [7, 8, 9] k (fun kq v7 v8 v9 w' => ∃ (x7_1 : List Int) (x8_1 : Bool) (x9_1 : Int), v8 = .bool x8_1 ∧ v9 = .int .i64 x9_1 ∧ Aside0 (spec_ClientHear.l0 kq x7_1 x8_1 x9_1 a0_0 l0_1 l0_2 l0_3 a1_0 l1_1 t226 t227 t230 t233 = some (r1, r2, r3, r4, r5)) ∧ Aside0 (kq ≤ k) ∧ Aside0 (Kd.R (Kd.int .i64) 3 w' w.heap.size (fun k_ => some k_ ≠ ((.slice Ao20 t227.length co20) : Value).ownBlock ∧ some k_ ≠ ((.slice Ao22 t233.length co22) : Value).ownBlock) v7 x7_1) ∧ Aside0 (Kd.R (Kd.int .i64) 3 w' w.heap.size (fun k_ => some k_ ≠ (v7 : Value).ownBlock ∧ some k_ ≠ ((.slice Ao22 t233.length co22) : Value).ownBlock) (.slice Ao20 t227.length co20) t227) ∧ Aside0 (Kd.S k41 41 w' w.heap.size (fun k_ => k_ ≠ gb223) (.slice Ao21 t230.length co21) t230) ∧ Aside0 (Kd.R (Kd.int .i64) 3 w' w.heap.size (fun k_ => some k_ ≠ (v7 : Value).ownBlock ∧ some k_ ≠ ((.slice Ao20 t227.length co20) : Value).ownBlock) (.slice Ao22 t233.length co22) t233) ∧ Aside0 (w'.heap[gb222]? = some (.cells #[.int .i64 a0_0, (.slice A0_1 l0_1.length c0_1), (.slice A0_2 l0_2.length c0_2), (.slice A0_3 l0_3.length c0_3)] 30 (0, 0))) ∧ Aside0 (w'.heap[gb223]? = some (.cells #[.int .i64 a1_0, (.slice A1_1 l1_1.length c1_1)] 41 (0, 0))) ∧ Aside0 (w'.heap[gb224]? = some (.cells #[.int .i64 0, (.slice none 0 0), (.slice none 0 0), (.slice none 0 0)] 30 (0, 0))) ∧ Aside0 (w'.heap[gb236]? = some (.cells #[.int .i64 t226, (.slice Ao20 t227.length co20), (.slice Ao21 t230.length co21), (.slice Ao22 t233.length co22)] 30 (0, 0))) ∧ Aside0 (Below w.heap.size w w'))
  case atStart => exact ⟨(y237), (false), (0), (by first | rfl | (simp; done) | (simp [*]; done)), (by first | rfl | (simp; done) | (simp [*]; done)), H', ⟨Nat.le_refl _⟩, ⟨by refine kR_ ?_; exact Kd.R_mono HO239.out (fun _ hk => op2_ hk)⟩, ⟨by refine kR_ ?_; exact Kd.R_mono HO229.out (fun _ hk => op2_ hk)⟩, ⟨by refine kS_ ?_; exact Kd.S_mono HO232.out (fun _ hk => hk.2)⟩, ⟨by refine kR_ ?_; exact Kd.R_mono HO235.out (fun _ hk => op2_ hk)⟩, ⟨by refine kb_ ?_; exact BK222.out⟩, ⟨by refine kb_ ?_; exact BK223.out⟩, ⟨by refine kb_ ?_; exact BK224.out⟩, ⟨by refine kb_ ?_; exact BK236.out⟩, ⟨hbA_ HB.out⟩⟩
  case round =>
   clear H'; (try clear c1); (try clear c2); (try clear p2); (try clear c4); (try clear c5); (try clear c9); (try clear c10); (try clear c12); (try clear c16); (try clear c17); (try clear c18); (try clear c24); (try clear Z11); (try clear Z13); (try clear Z19)
   obtain ⟨x7_1, x8_1, x9_1, rfl, rfl, HA, HK1, HO_7, HO_237001, HO_237002, HO_237003, BK222, BK223, BK224, BK236, HB⟩ := hrel
   cases gk with
   | zero => exact absurd HA.out (by simp [spec_ClientHear.l0])
   | succ k1 =>
    have H := HA.out; clear HA
    simp only [spec_ClientHear.l0] at H
    by_cases c25 : x9_1 < (l0_1.length : Int)
    ·rw [if_pos c25] at H
     have c25b0 : decide (x9_1 < (l0_1.length : Int)) = true := decide_eq_true c25
     clear c25
     by_cases c26 : 0 ≤ x9_1
     ·rw [if_pos c26] at H
      have c26b0 : decide (0 ≤ x9_1) = true := decide_eq_true c26
      clear c26
      by_cases c27 : (rd l0_1 x9_1) = a1_0
      ·rw [if_pos c27] at H
       have c27b0 : ((rd l0_1 x9_1) == a1_0) = true := beq_iff_eq.mpr c27
       have c27b1 : ((rd l0_1 x9_1) != a1_0) = false := bne_eq_false_iff_eq.mpr c27
       clear c27
       have H' := Aside0.mk H
       clear H; have hnb28 := NB222_223.out; have hnc28 := NB223_222.out; have hnb29 := NB222_224.out; have hnc29 := NB224_222.out; have hnb30 := NB222_236.out; have hnc30 := NB236_222.out; have Z31 := zz4 BK222
       try go_wp2
       replace HO_7 := Aside0.mk (Kd.R_drew HO_7.out); replace HO_237001 := Aside0.mk (Kd.R_drew HO_237001.out); replace HO_237002 := Aside0.mk (Kd.S_drew HO_237002.out); replace HO_237003 := Aside0.mk (Kd.R_drew HO_237003.out); replace BK222 := Aside0.mk (blk_drew BK222.out); replace BK223 := Aside0.mk (blk_drew BK223.out); replace BK224 := Aside0.mk (blk_drew BK224.out); replace BK236 := Aside0.mk (blk_drew BK236.out); replace HB := (bd_ HB)
       have p240 : 0 ≤ (x9_1 : Int) := of_decide_eq_true (by first | (with_reducible assumption) | assumption)
       have q240 : x9_1 < (l0_1.length : Int) := of_decide_eq_true (by first | (with_reducible assumption) | assumption)
       obtain ⟨ad240, e240, hx240_0⟩ := Kd.at_int HR0_1.out x9_1 p240 q240
       have hw240_0 := hx240_0
       cases e240
       replace hx240_0 := cc_ HB hx240_0
       replace p240 := eq_true p240
       replace q240 := eq_true q240
       refine start_ (n := 8) (S := fun w' => w'.cell? ⟨gb222, 0, none⟩ = some (.int .i64 a0_0) ∧ w'.cell? ⟨gb222, 1, none⟩ = some (.slice (some ad240) l0_1.length c0_1) ∧ w'.cell? ⟨gb222, 2, none⟩ = some (.slice A0_2 l0_2.length c0_2) ∧ w'.cell? ⟨gb222, 3, none⟩ = some (.slice A0_3 l0_3.length c0_3) ∧ w'.cell? ⟨gb223, 0, none⟩ = some (.int .i64 a1_0) ∧ w'.cell? ⟨gb223, 1, none⟩ = some (.slice A1_1 l1_1.length c1_1) ∧ w'.cell? (ad240.add (x9_1).toNat) = some (.int .i64 (rd l0_1 x9_1))) (ds := []) #[false, false, false, false, false, false, false, false] (by kernel_rfl) rfl rfl ⟨bc_ BK222 0, bc_ BK222 1, bc_ BK222 2, bc_ BK222 3, bc_ BK223 0, bc_ BK223 1, (cc_ HB hw240_0)⟩ (fun hHeld => ?_); refine with_tabW spec_ClientHear.tab9 spec_ClientHear.bits9 (fun HT_ HW_ => ?_)
       generalize wr.drew = w32 at HO_7 HO_237001 HO_237002 HO_237003 BK222 BK223 BK224 BK236 HB hx240_0 hHeld ⊢
       refine pu_ (i := 0) (N := some 24) HT_ ?_; refine pu_ (i := 2) (N := some 26) HT_ ?_; refine pu_ (i := 5) (N := some 29) HT_ ?_; refine tk_ (i := 1) (N := some 25) HT_ HW_ hHeld ?_; refine pu_ (i := 3) (N := some 27) HT_ ?_; refine tk_ (i := 4) (N := some 28) HT_ HW_ hHeld ?_; refine tk_ (i := 6) (N := some 30) HT_ HW_ hHeld ?_; refine pu_ (i := 7) (N := some 31) HT_ ?_
       refine done_ (done_of HT_.out (by kernel_rfl)) ?_
       try go_wp2
       go_roundg k1
       case measure => have := HK1.out; omega
       case rel => exact ⟨(x7_1), (true), (wrap64 (x9_1 + 1)), (by first | rfl | (simp; done) | (simp [*]; done)), (by first | rfl | (simp; done) | (simp [*]; done)), H', ⟨by have := HK1.out; omega⟩, ⟨kR_ HO_7.out⟩, ⟨kR_ HO_237001.out⟩, ⟨by refine kS_ ?_; exact HO_237002.out⟩, ⟨kR_ HO_237003.out⟩, ⟨by refine kb_ ?_; exact BK222.out⟩, ⟨by refine kb_ ?_; exact BK223.out⟩, ⟨by refine kb_ ?_; exact BK224.out⟩, ⟨by refine kb_ ?_; exact BK236.out⟩, ⟨hbA_ HB.out⟩⟩
      ·rw [if_neg c27] at H
       have c27b0 : ((rd l0_1 x9_1) == a1_0) = false := beq_eq_false_iff_ne.mpr c27
       have c27b1 : ((rd l0_1 x9_1) != a1_0) = true := bne_iff_ne.mpr c27
       by_cases c33 : x7_1.length < 17592186044416
       ·rw [if_pos c33] at H
        have LMc33 := Aside0.mk c33; clear c33
        obtain ⟨y242, hy242⟩ : ∃ y_ : List Int, y_ = (x7_1 ++ [rd l0_1 x9_1]) := ⟨_, rfl⟩
        (first | replace H := sb_ hy242 H | rw [← hy242] at H)
        have Ny242 := Aside0.mk hy242; clear hy242
        have H' := Aside0.mk H
        clear H; have hnb34 := NB222_223.out; have hnc34 := NB223_222.out; have hnb35 := NB222_224.out; have hnc35 := NB224_222.out; have hnb36 := NB222_236.out; have hnc36 := NB236_222.out; have Z37 := zz4 BK222
        try go_wp2
        replace HO_7 := Aside0.mk (Kd.R_drew HO_7.out); replace HO_237001 := Aside0.mk (Kd.R_drew HO_237001.out); replace HO_237002 := Aside0.mk (Kd.S_drew HO_237002.out); replace HO_237003 := Aside0.mk (Kd.R_drew HO_237003.out); replace BK222 := Aside0.mk (blk_drew BK222.out); replace BK223 := Aside0.mk (blk_drew BK223.out); replace BK224 := Aside0.mk (blk_drew BK224.out); replace BK236 := Aside0.mk (blk_drew BK236.out); replace HB := (bd_ HB)
        have p240 : 0 ≤ (x9_1 : Int) := of_decide_eq_true (by first | (with_reducible assumption) | assumption)
        have q240 : x9_1 < (l0_1.length : Int) := of_decide_eq_true (by first | (with_reducible assumption) | assumption)
        obtain ⟨ad240, e240, hx240_0⟩ := Kd.at_int HR0_1.out x9_1 p240 q240
        have hw240_0 := hx240_0
        cases e240
        replace hx240_0 := cc_ HB hx240_0
        replace p240 := eq_true p240
        replace q240 := eq_true q240
        refine start_ (n := 8) (S := fun w' => w'.cell? ⟨gb222, 0, none⟩ = some (.int .i64 a0_0) ∧ w'.cell? ⟨gb222, 1, none⟩ = some (.slice (some ad240) l0_1.length c0_1) ∧ w'.cell? ⟨gb222, 2, none⟩ = some (.slice A0_2 l0_2.length c0_2) ∧ w'.cell? ⟨gb222, 3, none⟩ = some (.slice A0_3 l0_3.length c0_3) ∧ w'.cell? ⟨gb223, 0, none⟩ = some (.int .i64 a1_0) ∧ w'.cell? ⟨gb223, 1, none⟩ = some (.slice A1_1 l1_1.length c1_1) ∧ w'.cell? (ad240.add (x9_1).toNat) = some (.int .i64 (rd l0_1 x9_1))) (ds := []) #[false, false, false, false, false, false, false, false] (by kernel_rfl) rfl rfl ⟨bc_ BK222 0, bc_ BK222 1, bc_ BK222 2, bc_ BK222 3, bc_ BK223 0, bc_ BK223 1, (cc_ HB hw240_0)⟩ (fun hHeld => ?_); refine with_tabW spec_ClientHear.tab9 spec_ClientHear.bits9 (fun HT_ HW_ => ?_)
        generalize wr.drew = w38 at HO_7 HO_237001 HO_237002 HO_237003 BK222 BK223 BK224 BK236 HB hx240_0 hHeld ⊢
        refine pu_ (i := 0) (N := some 24) HT_ ?_; refine pu_ (i := 2) (N := some 26) HT_ ?_; refine pu_ (i := 5) (N := some 29) HT_ ?_; refine tk_ (i := 1) (N := some 25) HT_ HW_ hHeld ?_; refine pu_ (i := 3) (N := some 27) HT_ ?_; refine tk_ (i := 4) (N := some 28) HT_ HW_ hHeld ?_; refine tk_ (i := 6) (N := some 30) HT_ HW_ hHeld ?_; refine pu_ (i := 7) (N := some 31) HT_ ?_
        refine done_ (done_of HT_.out (by kernel_rfl)) ?_
        have Z39 := zz4 BK222
        have p241 : 0 ≤ (x9_1 : Int) := of_decide_eq_true (by first | (with_reducible assumption) | assumption)
        have q241 : x9_1 < (l0_1.length : Int) := of_decide_eq_true (by first | (with_reducible assumption) | assumption)
        obtain ⟨ad241, e241, hx241_0⟩ := Kd.at_int HR0_1.out x9_1 p241 q241
        obtain rfl : ad240 = ad241 := (by injection e241)
        replace hx241_0 := cc_ HB hx241_0
        replace p241 := eq_true p241
        replace q241 := eq_true q241
        try go_wp2_with (first | ((with_reducible refine gate_builtin (b := .append) (xs := #[.tmp 32, .tmp 38]) rfl ?_); (try (refine gate_guard (by rfl) ?_; dsimp only)); at_builtin; refine Kd.R_append (Kd.int .i64) (w0 := w) w.heap.size rfl (.tmp 32) (.tmp 38) 22 3 (.int .i64 0) 8 rfl Try.underlying22 info3 rfl (by decide) (by omega) u7 x7_1 (rd l0_1 x9_1) [.int .i64 (rd l0_1 x9_1)] (fun k_ => some k_ ≠ (.slice Ao20 t227.length co20 : Value).ownBlock ∧ some k_ ≠ (.slice Ao22 t233.length co22 : Value).ownBlock) (fun _ => False) rfl rfl ?aP (fun _ hk => hk.elim) ?aF ?aO ?aB ?aS ?aL ?_; (case aP => exact rfl); (case aB => exact (hbA_ HB.out)); (case aF => exact (fun k_ hk => ⟨Kd.fresh' (Kd.R_lt (kR_ HO_237001.out)) k_ hk, Kd.fresh' (Kd.R_lt (kR_ HO_237003.out)) k_ hk⟩)); (case aO => exact (kR_ HO_7.out)); (case aS => exact (below_size (hbA_ HB.out))); (case aL => have := LMc33.out; omega); intro v243 w40 ho hb hg hat; rw [← Ny242.out] at ho; replace HO_237001 := Aside0.mk (Kd.R_after (ok := (fun k_ => some k_ ≠ (.slice Ao22 t233.length co22 : Value).ownBlock)) (by refine kR_ ?_; exact Kd.R_mono HO_237001.out (fun _ hk => op2_ hk)) hg hat); replace HO_237002 := Aside0.mk (Kd.S_over' (kS_ HO_237002.out) (Kd.R_typed (kR_ HO_7.out)) (by decide) hg); replace HO_237003 := Aside0.mk (Kd.R_after (ok := (fun k_ => some k_ ≠ (.slice Ao20 t227.length co20 : Value).ownBlock)) (by refine kR_ ?_; exact Kd.R_mono HO_237003.out (fun _ hk => op2_ hk)) hg hat); replace BK222 := (bgA_ BK222 hg (Kd.R_ne HO_7.out BK222.out (by decide))); replace BK223 := (bgA_ BK223 hg (Kd.R_ne HO_7.out BK223.out (by decide))); replace BK224 := (bgA_ BK224 hg (Kd.R_ne HO_7.out BK224.out (by decide))); replace BK236 := (bgA_ BK236 hg (Kd.R_ne HO_7.out BK236.out (by decide))); replace HB := Aside0.mk (hb); have HO244 := Aside0.mk (ho); clear HO_7; clear ho hb hg hat))
        go_roundg k1
        case measure => have := HK1.out; omega
        case rel => exact ⟨(y242), (x8_1), (wrap64 (x9_1 + 1)), (by first | rfl | (simp; done) | (simp [*]; done)), (by first | rfl | (simp; done) | (simp [*]; done)), H', ⟨by have := HK1.out; omega⟩, ⟨kR_ HO244.out⟩, ⟨by refine kR_ ?_; exact Kd.R_mono HO_237001.out (fun _ hk => op2_ hk)⟩, ⟨by refine kS_ ?_; exact HO_237002.out⟩, ⟨by refine kR_ ?_; exact Kd.R_mono HO_237003.out (fun _ hk => op2_ hk)⟩, ⟨by refine kb_ ?_; exact BK222.out⟩, ⟨by refine kb_ ?_; exact BK223.out⟩, ⟨by refine kb_ ?_; exact BK224.out⟩, ⟨by refine kb_ ?_; exact BK236.out⟩, ⟨hbA_ HB.out⟩⟩
       ·rw [if_neg c33] at H
        exact absurd H (by simp)
     ·rw [if_neg c26] at H
      exact absurd H (by simp)
    ·rw [if_neg c25] at H
     have c25b0 : decide (x9_1 < (l0_1.length : Int)) = false := decide_eq_false c25
     clear c25
     by_cases c41 : x8_1 = true
     ·subst c41
      rw [if_pos rfl] at H
      by_cases c42 : (l1_1.length : Int) > 9
      ·rw [if_pos c42] at H
       have c42b0 : decide (9 < (l1_1.length : Int)) = true := decide_eq_true c42
       have c42b1 : decide (9 < l1_1.length) = true := decide_eq_true (by omega)
       clear c42
       simp only [Option.some.injEq, Prod.mk.injEq] at H
       obtain ⟨rfl, rfl, rfl, rfl, rfl⟩ := H
       have hnb43 := NB222_223.out; have hnc43 := NB223_222.out; have hnb44 := NB222_224.out; have hnc44 := NB224_222.out; have hnb45 := NB222_236.out; have hnc45 := NB236_222.out; have Z46 := zz4 BK222; have hnb47 := NB223_224.out; have hnc47 := NB224_223.out; have hnb48 := NB223_236.out; have hnc48 := NB236_223.out; have Z49 := zz2 BK223; have hnb50 := NB236_224.out; have hnc50 := NB224_236.out; have Z51 := zz4 BK236; have Z52 := zz4 BK224
       go_wp2
       refine bodyPost_ret (results_ct rfl _ _ gb224 30 #[.int .i64 t226, .slice Ao20 t227.length co20, .slice Ao21 t230.length co21, .slice Ao22 t233.length co22] (0, 0) _ rfl (by refine kb_ ?_; refine pz4 (cs := #[.int .i64 0, .slice none 0 0, .slice none 0 0, .slice none 0 0]) ?_; refine kb_ ?_; exact BK224.out) Try.underlying30 rfl (by kernel_rfl)) rfl ?_
       exact ⟨_, _, _, by first | rfl | (simp [errW_none, errW_some] <;> rfl) | (simp [*, errW_none, errW_some] <;> rfl), by refine kR_ ?_; exact rfm_ ((Kd.R_types HO_237001.out BK224.out (by decide))) (fun _ hk => hk.1.2), by refine kS_ ?_; exact Kd.S_mono (Kd.S_far (p := ⟨gb224, 3, none⟩) (Kd.S_far (p := ⟨gb224, 2, none⟩) (Kd.S_far (p := ⟨gb224, 1, none⟩) (Kd.S_far (p := ⟨gb224, 0, none⟩) (Kd.S_types HO_237002.out BK224.out (by decide)) (fun _ hk => hk.2) (.int .i64 t226)) (fun _ hk => hk.2) (.slice Ao20 t227.length co20)) (fun _ hk => hk.2) (.slice Ao21 t230.length co21)) (fun _ hk => hk.2) (.slice Ao22 t233.length co22)) (fun _ hk => trivial), by refine kR_ ?_; exact rfm_ ((Kd.R_types HO_237003.out BK224.out (by decide))) (fun _ hk => hk.1.2), hbA_ HB.out⟩
      ·rw [if_neg c42] at H
       have c42b0 : decide (9 < (l1_1.length : Int)) = false := decide_eq_false c42
       have c42b1 : decide (9 < l1_1.length) = false := decide_eq_false (by omega)
       clear c42
       obtain ⟨y245, hy245⟩ : ∃ y_ : List Int, y_ = (([] : List Int)) := ⟨_, rfl⟩
       (first | replace H := sb_ hy245 H | rw [← hy245] at H)
       have Ny245 := Aside0.mk hy245; clear hy245
       by_cases c53 : y245.length + l1_1.length < 140737488355328
       ·rw [if_pos c53] at H
        have LMc53 := Aside0.mk c53; clear c53
        obtain ⟨y248, hy248⟩ : ∃ y_ : List Int, y_ = (y245 ++ l1_1) := ⟨_, rfl⟩
        (first | replace H := sb_ hy248 H | rw [← hy248] at H)
        have Ny248 := Aside0.mk hy248; clear hy248
        by_cases c54 : t230.length < 4398046511104
        ·rw [if_pos c54] at H
         have LMc54 := Aside0.mk c54; clear c54
         obtain ⟨y251, hy251⟩ : ∃ y_ : List (S41), y_ = (t230 ++ [(⟨a1_0, y248⟩ : S41)]) := ⟨_, rfl⟩
         (first | replace H := sb_ hy251 H | rw [← hy251] at H)
         have Ny251 := Aside0.mk hy251; clear hy251
         simp only [Option.some.injEq, Prod.mk.injEq] at H
         obtain ⟨rfl, rfl, rfl, rfl, rfl⟩ := H
         have hnb55 := NB222_223.out; have hnc55 := NB223_222.out; have hnb56 := NB222_224.out; have hnc56 := NB224_222.out; have hnb57 := NB222_236.out; have hnc57 := NB236_222.out; have Z58 := zz4 BK222; have hnb59 := NB223_224.out; have hnc59 := NB224_223.out; have hnb60 := NB223_236.out; have hnc60 := NB236_223.out; have Z61 := zz2 BK223
         obtain ⟨Ao62, co62, eo62⟩ := Kd.R_slice HO_7.out
         subst eo62; have hnb63 := NB236_224.out; have hnc63 := NB224_236.out; have Z64 := zz4 BK236
         try go_wp2
         obtain ⟨w65, h_w65⟩ : ∃ w_, (wr.setCell ⟨gb236, 1, none⟩ (.slice Ao62 x7_1.length co62)) = w_ := ⟨_, rfl⟩
         have n0_ : Aside0 (Kd.R (Kd.int .i64) 3 w65 w.heap.size (fun k_ => some k_ ≠ (.slice Ao20 t227.length co20 : Value).ownBlock ∧ some k_ ≠ (.slice Ao22 t233.length co22 : Value).ownBlock) (.slice Ao62 x7_1.length co62) x7_1) := ⟨by subst h_w65; refine kR_ ?_; exact Kd.R_mono (Kd.R_f gb236 1 (.slice Ao62 x7_1.length co62) (Kd.R_types HO_7.out BK236.out (by decide))) (fun _ hk => ⟨hk.1.1, hk.1.2⟩)⟩
         have n1_ : Aside0 (Kd.R (Kd.int .i64) 3 w65 w.heap.size (fun k_ => some k_ ≠ (.slice Ao62 x7_1.length co62 : Value).ownBlock ∧ some k_ ≠ (.slice Ao22 t233.length co22 : Value).ownBlock) (.slice Ao20 t227.length co20) t227) := ⟨by subst h_w65; refine kR_ ?_; exact Kd.R_mono (Kd.R_f gb236 1 (.slice Ao62 x7_1.length co62) (Kd.R_types HO_237001.out BK236.out (by decide))) (fun _ hk => ⟨hk.1.1, hk.1.2⟩)⟩
         have n2_ : Aside0 (Kd.S k41 41 w65 w.heap.size (fun k_ => k_ ≠ gb223) (.slice Ao21 t230.length co21) t230) := ⟨by subst h_w65; refine kS_ ?_; exact Kd.S_mono (Kd.S_far (p := ⟨gb236, 1, none⟩) (Kd.S_types HO_237002.out BK236.out (by decide)) (fun _ hk => hk.2) (.slice Ao62 x7_1.length co62)) (fun _ hk => hk.1)⟩
         have n3_ : Aside0 (Kd.R (Kd.int .i64) 3 w65 w.heap.size (fun k_ => some k_ ≠ (.slice Ao62 x7_1.length co62 : Value).ownBlock ∧ some k_ ≠ (.slice Ao20 t227.length co20 : Value).ownBlock) (.slice Ao22 t233.length co22) t233) := ⟨by subst h_w65; refine kR_ ?_; exact Kd.R_mono (Kd.R_f gb236 1 (.slice Ao62 x7_1.length co62) (Kd.R_types HO_237003.out BK236.out (by decide))) (fun _ hk => ⟨hk.1.1, hk.1.2⟩)⟩
         have n4_ : Aside0 (w65.heap[gb222]? = some (.cells #[.int .i64 a0_0, .slice A0_1 l0_1.length c0_1, .slice A0_2 l0_2.length c0_2, .slice A0_3 l0_3.length c0_3] 30 (0, 0))) := ⟨by subst h_w65; exact kf_ BK222.out⟩
         have n5_ : Aside0 (w65.heap[gb223]? = some (.cells #[.int .i64 a1_0, .slice A1_1 l1_1.length c1_1] 41 (0, 0))) := ⟨by subst h_w65; exact kf_ BK223.out⟩
         have n6_ : Aside0 (w65.heap[gb224]? = some (.cells #[.int .i64 0, .slice none 0 0, .slice none 0 0, .slice none 0 0] 30 (0, 0))) := ⟨by subst h_w65; exact kf_ BK224.out⟩
         have n7_ : Aside0 (w65.heap[gb236]? = some (.cells #[.int .i64 t226, .slice Ao62 x7_1.length co62, .slice Ao21 t230.length co21, .slice Ao22 t233.length co22] 30 (0, 0))) := ⟨by subst h_w65; refine kb_ ?_; refine blk_put (cs := #[.int .i64 t226, .slice Ao20 t227.length co20, .slice Ao21 t230.length co21, .slice Ao22 t233.length co22]) ?_ 1 _ rfl; refine kb_ ?_; exact BK236.out⟩
         have n8_ : Aside0 (Below w.heap.size w w65) := ⟨by subst h_w65; exact hbA_ HB.out⟩
         (try clear HO_7); (try clear HO_237001); (try clear HO_237002); (try clear HO_237003); (try clear BK222); (try clear BK223); (try clear BK224); (try clear BK236); (try clear HB)
         (try rw [h_w65]); clear h_w65
         have HO_7 := n0_; have HO_237001 := n1_; have HO_237002 := n2_; have HO_237003 := n3_; have BK222 := n4_; have BK223 := n5_; have BK224 := n6_; have BK236 := n7_; have HB := n8_; clear n0_ n1_ n2_ n3_ n4_ n5_ n6_ n7_ n8_; replace HO_7 := Aside0.mk (Kd.R_drew HO_7.out); replace HO_237001 := Aside0.mk (Kd.R_drew HO_237001.out); replace HO_237002 := Aside0.mk (Kd.S_drew HO_237002.out); replace HO_237003 := Aside0.mk (Kd.R_drew HO_237003.out); replace BK222 := Aside0.mk (blk_drew BK222.out); replace BK223 := Aside0.mk (blk_drew BK223.out); replace BK224 := Aside0.mk (blk_drew BK224.out); replace BK236 := Aside0.mk (blk_drew BK236.out); replace HB := (bd_ HB)
         refine start_ (n := 13) (S := fun w' => w'.cell? ⟨gb236, 0, none⟩ = some (.int .i64 t226) ∧ w'.cell? ⟨gb236, 1, none⟩ = some (.slice Ao62 x7_1.length co62) ∧ w'.cell? ⟨gb236, 2, none⟩ = some (.slice Ao21 t230.length co21) ∧ w'.cell? ⟨gb236, 3, none⟩ = some (.slice Ao22 t233.length co22) ∧ w'.cell? ⟨gb223, 0, none⟩ = some (.int .i64 a1_0) ∧ w'.cell? ⟨gb223, 1, none⟩ = some (.slice A1_1 l1_1.length c1_1)) (ds := [12]) #[false, false, false, false, false, false, false, false, false, false, false, false, false] (by kernel_rfl) rfl rfl ⟨bc_ BK236 0, bc_ BK236 1, bc_ BK236 2, bc_ BK236 3, bc_ BK223 0, bc_ BK223 1⟩ (fun hHeld => ?_); refine with_tabW spec_ClientHear.tab15 spec_ClientHear.bits15 (fun HT_ HW_ => ?_)
         generalize w65.drew = w66 at HO_7 HO_237001 HO_237002 HO_237003 BK222 BK223 BK224 BK236 HB hHeld ⊢
         refine pu_ (i := 0) (N := some 51) HT_ ?_; refine pu_ (i := 2) (N := some 53) HT_ ?_; refine pu_ (i := 5) (N := some 56) HT_ ?_; refine tk_ (i := 1) (N := some 52) HT_ HW_ hHeld ?_; refine tk_ (i := 3) (N := some 54) HT_ HW_ hHeld ?_; refine tk_ (i := 6) (N := some 57) HT_ HW_ hHeld ?_
         refine on_ (i := 4) (N := some 55) HT_ (fun K hK => ?_)
         refine Kd.R_lit_step (Kd.int .u8) _ 5 ?hg (N := 55) ?hd (xs := ([] : List Int)) (inner := []) (ok := fun _ => True) (okp := fun _ => True) ?hr ?hp (fun _ hk => hk) trivial (Below.refl _ _) (Nat.le_refl _) (by simp) ?_; (case hd => rfl); (case hg => rfl); (case hr => first | (go_simp; done) | (go_simp; rfl)); (case hp => exact (Reps.none _ _))
         intro v246 w67 ho68 hb hg_ hnew_
         clear hg_ hnew_
         (first | rw [← Ny245.out] at ho68 | (simp only [Int.reduceToNat] at ho68; rw [← Ny245.out] at ho68))
         have n0_ := Aside0.mk (Kd.R_below (kR_ HO_7.out) hb); have n1_ := Aside0.mk (Kd.R_below (kR_ HO_237001.out) hb); have n2_ := Aside0.mk (Kd.S_elder' (kS_ HO_237002.out) (Kd.R_base ho68) hb); have n3_ := Aside0.mk (Kd.R_below (kR_ HO_237003.out) hb); have n4_ := Aside0.mk (Kd.R_lower ho68 (below_size (hbA_ HB.out))); have n5_ := (bbA_ BK222 hb); have n6_ := (bbA_ BK223 hb); have n7_ := (bbA_ BK224 hb); have n8_ := (bbA_ BK236 hb); have n9_ := (bs_ HB hb); clear HO_7 HO_237001 HO_237002 HO_237003 BK222 BK223 BK224 BK236 HB; have HO_7 := n0_; have HO_237001 := n1_; have HO_237002 := n2_; have HO_237003 := n3_; have HO247 := n4_; have BK222 := n5_; have BK223 := n6_; have BK224 := n7_; have BK236 := n8_; have HB := n9_; clear n0_ n1_ n2_ n3_ n4_ n5_ n6_ n7_ n8_ n9_ hb ho68
         refine hK.out _ _ ⟨bc_ BK236 0, bc_ BK236 1, bc_ BK236 2, bc_ BK236 3, bc_ BK223 0, bc_ BK223 1⟩ (fun hHeld => ?_)
         clear hK K; refine nm_ 55 ?_
         refine on_ (i := 7) (N := some 58) HT_ (fun K hK => ?_)
         refine Kd.R_append_rows_step (Kd.int .u8) (w0 := w) w.heap.size (by rfl) (.tmp 55) (.tmp 57) 34 5 (.int .u8 0) 1 rfl Try.underlying34 info5 rfl (by decide) (by omega) v246 y245 l1_1 _ _ _ (fun _ => True) (fun _ => False) rfl rfl ?aO ?aR (fun _ _ h => h) (fun _ h => h.elim) ?aF ?aB ?aS ?aL ?_
         (case aR => exact kC_ (Kd.C_below HR1_1.out HB.out))
         (case aB => exact (hbA_ HB.out))
         (case aF => exact (fun _ _ => trivial))
         (case aO => exact (kR_ HO247.out))
         (case aS => exact (below_size (hbA_ HB.out)))
         (case aL => have := LMc53.out; omega)
         intro v249 w69 ho hb hg hat
         rw [← Ny248.out] at ho
         have n0_ := Aside0.mk (Kd.R_over' (kR_ HO_7.out) (Kd.R_typed (kR_ HO247.out)) (by decide) hg); have n1_ := Aside0.mk (Kd.R_over' (kR_ HO_237001.out) (Kd.R_typed (kR_ HO247.out)) (by decide) hg); have n2_ := Aside0.mk (Kd.S_after (ok := (fun k_ => k_ ≠ gb223)) (kS_ HO_237002.out) hg hat); have n3_ := Aside0.mk (Kd.R_over' (kR_ HO_237003.out) (Kd.R_typed (kR_ HO247.out)) (by decide) hg); have n4_ := (bgA_ BK222 hg (Kd.R_ne HO247.out BK222.out (by decide))); have n5_ := (bgA_ BK223 hg (Kd.R_ne HO247.out BK223.out (by decide))); have n6_ := (bgA_ BK224 hg (Kd.R_ne HO247.out BK224.out (by decide))); have n7_ := (bgA_ BK236 hg (Kd.R_ne HO247.out BK236.out (by decide))); have n8_ := Aside0.mk (hb); have n9_ := Aside0.mk (ho); clear HO_7 HO_237001 HO_237002 HO_237003 BK222 BK223 BK224 BK236 HB HO247; have HO_7 := n0_; have HO_237001 := n1_; have HO_237002 := n2_; have HO_237003 := n3_; have BK222 := n4_; have BK223 := n5_; have BK224 := n6_; have BK236 := n7_; have HB := n8_; have HO250 := n9_; clear n0_ n1_ n2_ n3_ n4_ n5_ n6_ n7_ n8_ n9_ ho hb hg hat
         obtain ⟨Ao70, co70, eo70⟩ := Kd.R_slice HO250.out
         (first | subst eo70 | (injection eo70 with f1_ f2_ f3_; have f4_ := f1_.symm; have f5_ := f3_.symm; clear f1_ f2_ f3_; subst f4_; subst f5_))
         refine hK.out _ _ ⟨bc_ BK236 0, bc_ BK236 1, bc_ BK236 2, bc_ BK236 3, bc_ BK223 0, bc_ BK223 1⟩ (fun hHeld => ?_)
         clear hK K; refine nm_ 58 ?_; refine pu_ (i := 8) (N := some 59) HT_ ?_
         refine on_ (i := 9) (N := some 60) HT_ (fun K hK => ?_)
         refine value_ (w1 := ?_) (v := ?_) (by rfl) rfl ?_ ?_
         rotate_left 2
         ·go_simp
          constructor
          ·rfl
          ·rfl
         refine hK.out _ _ ⟨(blk_cell (blk_alloc BK236.out _) 0).trans rfl, (blk_cell (blk_alloc BK236.out _) 1).trans rfl, (blk_cell (blk_alloc BK236.out _) 2).trans rfl, (blk_cell (blk_alloc BK236.out _) 3).trans rfl, (blk_cell (blk_alloc BK223.out _) 0).trans rfl, (blk_cell (blk_alloc BK223.out _) 1).trans rfl⟩ (fun hHeld => ?_)
         clear hK K; refine nm_ 60 ?_
         refine on_ (i := 10) (N := some 61) HT_ (fun K hK => ?_)
         refine Kd.S_append_step k41 (w0 := w) w.heap.size (by rfl) (.tmp 52) (.tmp 60) 28 41 (.agg #[(.int .i64 0), (.slice none 0 0)]) 32 rfl Try.underlying28 info41 rfl (by decide) (by omega) (.slice Ao21 t230.length co21) t230 (⟨a1_0, y248⟩ : S41) [.int .i64 a1_0, .slice Ao70 y248.length co70] (fun k_ => k_ ≠ gb223) (fun k_ => some k_ = (.slice Ao70 y248.length co70 : Value).ownBlock) rfl rfl ?aP (fun k_ hk_ => ((Kd.R_mono (ok' := fun k_ => ((fun k_ => k_ ≠ gb223)) k_ ∧ some k_ ≠ (.slice Ao21 t230.length co21 : Value).ownBlock) (Kd.R_types (Kd.R_apart' (HO250.out) (Kd.S_typed HO_237002.out) (by decide)) BK223.out (by decide)) (fun k_ hk => ⟨hk.2, hk.1.2⟩))).1 k_ hk_.symm) ?aF ?aO ?aB ?aS ?aL ?_
         (case aP => exact k41_mkM _ _ _ (⟨a1_0, y248⟩ : S41) (Kd.R_mono (Kd.R_tight rfl (Kd.R_mono (ok' := fun k_ => ((fun k_ => k_ ≠ gb223)) k_ ∧ some k_ ≠ (.slice Ao21 t230.length co21 : Value).ownBlock) (Kd.R_types (Kd.R_apart' (HO250.out) (Kd.S_typed HO_237002.out) (by decide)) BK223.out (by decide)) (fun k_ hk => ⟨hk.2, hk.1.2⟩))) (fun _ h_ => h_)))
         (case aB => exact (hbA_ HB.out))
         (case aF => exact (fun k_ hk => fb_ BK223 k_ hk))
         (case aO => exact (by refine kS_ ?_; exact Kd.S_mono HO_237002.out (fun k_ hk => ⟨hk.1, fun e_ => hk.2 e_⟩)))
         (case aS => exact (below_size (hbA_ HB.out)))
         (case aL => have := LMc54.out; omega)
         intro v252 w71 ho hb hg hat
         rw [← Ny251.out] at ho
         have n0_ := Aside0.mk (Kd.R_over' (kR_ HO_7.out) (Kd.S_typed (kS_ HO_237002.out)) (by decide) hg); have n1_ := Aside0.mk (Kd.R_over' (kR_ HO_237001.out) (Kd.S_typed (kS_ HO_237002.out)) (by decide) hg); have n2_ := Aside0.mk (Kd.R_over' (kR_ HO_237003.out) (Kd.S_typed (kS_ HO_237002.out)) (by decide) hg); have n3_ := (bgA_ BK222 hg (Kd.S_ne HO_237002.out BK222.out (by decide))); have n4_ := (bgA_ BK223 hg (Kd.S_away HO_237002.out (fun _ hk => hk.1))); have n5_ := (bgA_ BK224 hg (Kd.S_ne HO_237002.out BK224.out (by decide))); have n6_ := (bgA_ BK236 hg (Kd.S_ne HO_237002.out BK236.out (by decide))); have n7_ := Aside0.mk (hb); have n8_ := Aside0.mk (ho); clear HO_7 HO_237001 HO_237003 BK222 BK223 BK224 BK236 HB HO_237002 HO250; have HO_7 := n0_; have HO_237001 := n1_; have HO_237003 := n2_; have BK222 := n3_; have BK223 := n4_; have BK224 := n5_; have BK236 := n6_; have HB := n7_; have HO253 := n8_; clear n0_ n1_ n2_ n3_ n4_ n5_ n6_ n7_ n8_ ho hb hg hat
         obtain ⟨Ao72, co72, eo72⟩ := Kd.S_slice HO253.out
         (first | subst eo72 | (injection eo72 with f1_ f2_ f3_; have f4_ := f1_.symm; have f5_ := f3_.symm; clear f1_ f2_ f3_; subst f4_; subst f5_))
         refine hK.out _ _ ⟨bc_ BK236 0, bc_ BK236 1, bc_ BK236 2, bc_ BK236 3, bc_ BK223 0, bc_ BK223 1⟩ (fun hHeld => ?_)
         clear hK K; refine nm_ 61 ?_; refine pu_ (i := 11) (N := some 62) HT_ ?_
         refine last_ (i := 12) (N := none) #[true, true, true, true, true, true, true, true, true, true, true, true, true] rfl rfl (one_of HT_.out (by kernel_rfl)) (by decide) (fun K hK => ?_)
         have hs73 : w71.cell? ⟨gb236, 2, none⟩ = some (.slice Ao21 t230.length co21) := bc_ BK236 2
         have hfs73 := blk_frozen BK236.out 2
         have hns73_0 := NB222_236.out; have hns73_1 := NB223_236.out; have hns73_2 := NB224_236.out; have hms73_0 := NB236_222.out; have hms73_1 := NB236_223.out; have hms73_2 := NB236_224.out
         refine skip_ (w1 := ?_) (by rfl) rfl ?_ ?_
         rotate_left
         ·go_simp
          rfl
         refine hK.out _ _ ?_
         clear hK K
         refine done_ (done_of HT_.out (by kernel_rfl)) ?_
         have Z74 := zz4 BK236; have Z75 := zz4 BK224
         try go_wp2
         refine bodyPost_ret (results_ct rfl _ _ gb224 30 #[.int .i64 t226, .slice Ao62 x7_1.length co62, .slice Ao72 y251.length co72, .slice Ao22 t233.length co22] (0, 0) _ rfl (by refine kb_ ?_; refine pz4 (cs := #[.int .i64 0, .slice none 0 0, .slice none 0 0, .slice none 0 0]) ?_; exact kf_ BK224.out) Try.underlying30 rfl (by kernel_rfl)) rfl ?_
         exact ⟨_, _, _, by first | rfl | (simp [errW_none, errW_some] <;> rfl) | (simp [*, errW_none, errW_some] <;> rfl), by refine kR_ ?_; exact rfm_ ((Kd.R_far (p := ⟨gb236, 2, none⟩) (Kd.R_types (Kd.R_types HO_7.out BK236.out (by decide)) BK224.out (by decide)) (fun _ hk => hk.1.2) (.slice Ao72 y251.length co72))) (fun _ hk => hk.1.1.2), by refine kS_ ?_; exact Kd.S_mono (Kd.S_far (p := ⟨gb224, 3, none⟩) (Kd.S_far (p := ⟨gb224, 2, none⟩) (Kd.S_far (p := ⟨gb224, 1, none⟩) (Kd.S_far (p := ⟨gb224, 0, none⟩) (Kd.S_far (p := ⟨gb236, 2, none⟩) (Kd.S_types (Kd.S_types HO253.out BK236.out (by decide)) BK224.out (by decide)) (fun _ hk => hk.1.2) (.slice Ao72 y251.length co72)) (fun _ hk => hk.2) (.int .i64 t226)) (fun _ hk => hk.2) (.slice Ao62 x7_1.length co62)) (fun _ hk => hk.2) (.slice Ao72 y251.length co72)) (fun _ hk => hk.2) (.slice Ao22 t233.length co22)) (fun _ hk => trivial), by refine kR_ ?_; exact rfm_ ((Kd.R_far (p := ⟨gb236, 2, none⟩) (Kd.R_types (Kd.R_types HO_237003.out BK236.out (by decide)) BK224.out (by decide)) (fun _ hk => hk.1.2) (.slice Ao72 y251.length co72))) (fun _ hk => hk.1.1.1), hbA_ HB.out⟩
        ·rw [if_neg c54] at H
         exact absurd H (by simp)
       ·rw [if_neg c53] at H
        exact absurd H (by simp)
     ·replace c41 := Bool.eq_false_iff.mpr c41
      subst c41
      rw [if_neg (show ¬ (false = true) by decide)] at H
      simp only [Option.some.injEq, Prod.mk.injEq] at H
      obtain ⟨rfl, rfl, rfl, rfl, rfl⟩ := H
      have hnb76 := NB222_223.out; have hnc76 := NB223_222.out; have hnb77 := NB222_224.out; have hnc77 := NB224_222.out; have hnb78 := NB222_236.out; have hnc78 := NB236_222.out; have Z79 := zz4 BK222; have hnb80 := NB236_223.out; have hnc80 := NB223_236.out; have hnb81 := NB236_224.out; have hnc81 := NB224_236.out; have Z82 := zz4 BK236; have hnb83 := NB224_223.out; have hnc83 := NB223_224.out; have Z84 := zz4 BK224
      go_wp2
      refine bodyPost_ret (results_ct rfl _ _ gb224 30 #[.int .i64 t226, .slice Ao20 t227.length co20, .slice Ao21 t230.length co21, .slice Ao22 t233.length co22] (0, 0) _ rfl (by refine kb_ ?_; refine pz4 (cs := #[.int .i64 0, .slice none 0 0, .slice none 0 0, .slice none 0 0]) ?_; refine kb_ ?_; exact BK224.out) Try.underlying30 rfl (by kernel_rfl)) rfl ?_
      exact ⟨_, _, _, by first | rfl | (simp [errW_none, errW_some] <;> rfl) | (simp [*, errW_none, errW_some] <;> rfl), by refine kR_ ?_; exact rfm_ ((Kd.R_types HO_237001.out BK224.out (by decide))) (fun _ hk => hk.1.2), by refine kS_ ?_; exact Kd.S_mono (Kd.S_far (p := ⟨gb224, 3, none⟩) (Kd.S_far (p := ⟨gb224, 2, none⟩) (Kd.S_far (p := ⟨gb224, 1, none⟩) (Kd.S_far (p := ⟨gb224, 0, none⟩) (Kd.S_types HO_237002.out BK224.out (by decide)) (fun _ hk => hk.2) (.int .i64 t226)) (fun _ hk => hk.2) (.slice Ao20 t227.length co20)) (fun _ hk => hk.2) (.slice Ao21 t230.length co21)) (fun _ hk => hk.2) (.slice Ao22 t233.length co22)) (fun _ hk => trivial), by refine kR_ ?_; exact rfm_ ((Kd.R_types HO_237003.out BK224.out (by decide))) (fun _ hk => hk.1.2), hbA_ HB.out⟩
 ·replace c4 := Bool.eq_false_iff.mpr c4
  subst c4
  rw [if_neg (show ¬ (false = true) by decide)] at H
  simp only [Option.some.injEq, Prod.mk.injEq] at H
  obtain ⟨rfl, rfl, rfl, rfl, rfl⟩ := H
  go_enter Try.func24, Try.ntmps24
  go_wp2_with (first | ((with_reducible refine gate_dst (N := 2) rfl ?_); (try (refine gate_guard (by rfl) ?_; dsimp only)); refine box_ (N := 2) (cs := #[.int .i64 a0_0, .slice A0_1 l0_1.length c0_1, .slice A0_2 l0_2.length c0_2, .slice A0_3 l0_3.length c0_3]) (t := 30) (fun gb222 hg w85 hbox hb => ?_); have BK222 := Aside0.mk (hbox); have GW222 := ge_ hg HB; have GE222 := ge_ hg HB; replace HB := (bs_ HB hb); clear hb hbox hg) | ((with_reducible refine gate_dst (N := 3) rfl ?_); (try (refine gate_guard (by rfl) ?_; dsimp only)); refine box_ (N := 3) (cs := #[.int .i64 a1_0, .slice A1_1 l1_1.length c1_1]) (t := 41) (fun gb223 hg w86 hbox hb => ?_); have BK223 := Aside0.mk (hbox); have GW223 := ge_ hg HB; have GE223 := ge_ hg HB; replace HB := (bs_ HB hb); have NB222_223 := nl_ hg BK222; have NB223_222 := ng_ hg BK222; replace BK222 := (bbA_ BK222 hb); clear hb hbox hg) | ((with_reducible refine gate_dst (N := 4) rfl ?_); (try (refine gate_guard (by rfl) ?_; dsimp only)); refine box_ (N := 4) (cs := #[.int .i64 0, .slice none 0 0, .slice none 0 0, .slice none 0 0]) (t := 30) (fun gb224 hg w87 hbox hb => ?_); have BK224 := Aside0.mk (hbox); have GW224 := ge_ hg HB; have GE224 := ge_ hg HB; replace HB := (bs_ HB hb); have NB222_224 := nl_ hg BK222; have NB224_222 := ng_ hg BK222; replace BK222 := (bbA_ BK222 hb); have NB223_224 := nl_ hg BK223; have NB224_223 := ng_ hg BK223; replace BK223 := (bbA_ BK223 hb); clear hb hbox hg; have hnb88 := NB222_223.out; have hnc88 := NB223_222.out; have hnb89 := NB222_224.out; have hnc89 := NB224_222.out; have Z90 := zz4 BK222) | ((with_reducible refine gate_callee (f := 12) rfl ?_); refine goesL_ (some 11) rfl rfl Try.func12 (by kernel_rfl) rfl #[.agg #[.int .i64 a0_0, .slice A0_1 l0_1.length c0_1, .slice A0_2 l0_2.length c0_2, .slice A0_3 l0_3.length c0_3]] rfl ar_ ?_; (with_reducible refine (spec_ClientOk.calls k a0_0 _ _ l0_1 _ _ l0_2 _ _ l0_3 false _ ?side1 ?side2 ?side3 ?side4 ?side5 ?side6 A3.out).mono ?_); (case side1 => exact kC_ (Kd.C_below HR0_1.out HB.out)); (case side2 => exact HC0_1.out); (case side3 => exact kC_ (Kd.C_below HR0_2.out HB.out)); (case side4 => exact HC0_2.out); (case side5 => exact kC_ (Kd.C_below HR0_3.out HB.out)); (case side6 => exact HC0_3.out); rintro e w91 ⟨rfl, hb⟩; refine ⟨_, rfl, ?_⟩; replace BK222 := (bbA_ BK222 hb); replace BK223 := (bbA_ BK223 hb); replace BK224 := (bbA_ BK224 hb); replace HB := (bs_ HB hb); (try clear hb); (try clear hb2); (try clear hk); (try clear hi); have hnb92 := NB224_223.out; have hnc92 := NB223_224.out; have Z93 := zz4 BK224))
  refine bodyPost_ret (results_ct rfl _ _ gb224 30 #[.int .i64 0, .slice none 0 0, .slice none 0 0, .slice none 0 0] (0, 0) _ rfl (by refine kb_ ?_; refine pz4 (cs := #[.int .i64 0, .slice none 0 0, .slice none 0 0, .slice none 0 0]) ?_; refine kb_ ?_; exact BK224.out) Try.underlying30 rfl (by kernel_rfl)) rfl ?_
  exact ⟨_, _, _, by first | rfl | (simp [errW_none, errW_some] <;> rfl) | (simp [*, errW_none, errW_some] <;> rfl), by first | exact Kd.R_nil _ _ _ _ _ | exact Kd.N_nil _ _ _ _ _ | exact Kd.V_nil _ _ _ _ _ | exact Kd.Q_nil _ _ _ _ _ | exact Kd.S_nil _ _ _ _ _, by first | exact Kd.S_nil _ _ _ _ _ | exact Kd.N_nil _ _ _ _ _ | exact Kd.V_nil _ _ _ _ _ | exact Kd.Q_nil _ _ _ _ _ | exact Kd.R_nil _ _ _ _ _, by first | exact Kd.R_nil _ _ _ _ _ | exact Kd.N_nil _ _ _ _ _ | exact Kd.V_nil _ _ _ _ _ | exact Kd.Q_nil _ _ _ _ _ | exact Kd.S_nil _ _ _ _ _, hbA_ HB.out⟩
def spec_WordsBytes.f (a0_0 : Int) (l0_1 : List Int) : Option (List Int) := (spec_l1In.f a0_0 0 255).bind fun t255 => (if t255 = true then (if (l0_1.length : Int) > 9 then (some (([] : List Int))) else ((some (([((l0_1.length : Int)) % 256, (a0_0) % 256] : List Int) : List Int)).bind fun y259 => (if y259.length + l0_1.length < 140737488355328 then (some (y259 ++ l0_1)) else (none)))) else (some (([] : List Int))))
set_option maxHeartbeats 8000000 in
set_option maxRecDepth 100000 in
theorem spec_WordsBytes.calls (a0_0 : Int) (A0_1 : Option Addr) (c0_1 : Nat) (l0_1 : List Int) (r : List Int) (w : World) (hr0_1 : Kd.C (Kd.int .u8) w A0_1 l0_1.length l0_1) (hc0_1 : l0_1.length ≤ c0_1) (h : spec_WordsBytes.f a0_0 l0_1 = some r) :
  Calls Try.prog 64 #[.agg #[.int .i64 a0_0, .slice A0_1 l0_1.length c0_1]] w fun e w' => ∃ v0_ : Value, e = .returned (v0_) ∧ Kd.R (Kd.int .u8) 5 w' w.heap.size (fun _ => True) v0_ r ∧ Below w.heap.size w w' := by
 have hu41 := Try.underlying41; have HR0_1 := Aside0.mk hr0_1; have HC0_1 := Aside0.mk hc0_1; clear hr0_1 hc0_1
 have HB := Aside0.mk (Below.refl w.heap.size w)
 have H : ((spec_l1In.f a0_0 0 255).bind fun t255 => (if t255 = true then (if (l0_1.length : Int) > 9 then (some (([] : List Int))) else ((some (([((l0_1.length : Int)) % 256, (a0_0) % 256] : List Int) : List Int)).bind fun y259 => (if y259.length + l0_1.length < 140737488355328 then (some (y259 ++ l0_1)) else (none)))) else (some (([] : List Int))))) = some r := h
 clear h
 replace H := Option.bind_eq_some_iff.mp H
 obtain ⟨t255, A20, H⟩ := H
 (try dsimp only at H)
 have A2 := Aside0.mk A20; clear A20
 by_cases c3 : t255 = true
 ·subst c3
  rw [if_pos rfl] at H
  by_cases c4 : (l0_1.length : Int) > 9
  ·rw [if_pos c4] at H
   have c4b0 : decide (9 < (l0_1.length : Int)) = true := decide_eq_true c4
   have c4b1 : decide (9 < l0_1.length) = true := decide_eq_true (by omega)
   clear c4
   obtain ⟨y256, hy256⟩ : ∃ y_ : List Int, y_ = (([] : List Int)) := ⟨_, rfl⟩
   (first | replace H := sb_ hy256 H | rw [← hy256] at H)
   have Ny256 := Aside0.mk hy256; clear hy256
   obtain rfl := Option.some.inj H
   go_enter Try.func64, Try.ntmps64
   go_wp2_with (first | ((with_reducible refine gate_dst (N := 1) rfl ?_); (try (refine gate_guard (by rfl) ?_; dsimp only)); refine box_ (N := 1) (cs := #[.int .i64 a0_0, .slice A0_1 l0_1.length c0_1]) (t := 41) (fun gb254 hg w5 hbox hb => ?_); have BK254 := Aside0.mk (hbox); have GW254 := ge_ hg HB; have GE254 := ge_ hg HB; replace HB := (bs_ HB hb); clear hb hbox hg; have Z6 := zz2 BK254) | ((with_reducible refine gate_callee (f := 46) rfl ?_); refine goesL_ (some 5) rfl rfl Try.func46 (by kernel_rfl) rfl #[.int .i64 a0_0, .int .i64 0, .int .i64 255] rfl ar_ ?_; (with_reducible refine (spec_l1In.calls a0_0 0 255 true _ A2.out).mono ?_); rintro e w' ⟨rfl, ⟨nd, rfl⟩⟩; refine ⟨_, rfl, ?_⟩) | ((with_reducible refine gate_dst (N := 13) rfl ?_); (try (refine gate_guard (by rfl) ?_; dsimp only)); refine Kd.R_lit (Kd.int .u8) _ 5 ?hg (N := 13) ?hd (xs := ([] : List Int)) (inner := []) (ok := fun _ => True) (okp := fun _ => True) ?hr ?hp (fun _ hk => hk) trivial (Below.refl _ _) (Nat.le_refl _) (by simp) ?_; (case hd => rfl); (case hg => rfl); (case hr => first | (go_simp; done) | (go_simp; rfl)); (case hp => exact (Reps.none _ _)); intro v257 w7 ho8 hb hg_ hnew_; clear hg_ hnew_; (first | rw [← Ny256.out] at ho8 | (simp only [Int.reduceToNat] at ho8; rw [← Ny256.out] at ho8)); have HO258 := Aside0.mk (Kd.R_lower ho8 (below_size (hbA_ HB.out))); replace BK254 := (bbA_ BK254 hb); replace HB := (bs_ HB hb); clear hb ho8))
   go_ret
   exact ⟨_, by first | rfl | (simp [errW_none, errW_some] <;> rfl) | (simp [*, errW_none, errW_some] <;> rfl), kR_ HO258.out, hbA_ HB.out⟩
  ·rw [if_neg c4] at H
   have c4b0 : decide (9 < (l0_1.length : Int)) = false := decide_eq_false c4
   have c4b1 : decide (9 < l0_1.length) = false := decide_eq_false (by omega)
   clear c4
   obtain ⟨y259, hy259⟩ : ∃ y_ : List Int, y_ = (([((l0_1.length : Int)) % 256, (a0_0) % 256] : List Int)) := ⟨_, rfl⟩
   (first | replace H := sb_ hy259 H | rw [← hy259] at H)
   have Ny259 := Aside0.mk hy259; clear hy259
   by_cases c9 : y259.length + l0_1.length < 140737488355328
   ·rw [if_pos c9] at H
    have LMc9 := Aside0.mk c9; clear c9
    obtain ⟨y262, hy262⟩ : ∃ y_ : List Int, y_ = (y259 ++ l0_1) := ⟨_, rfl⟩
    (first | replace H := sb_ hy262 H | rw [← hy262] at H)
    have Ny262 := Aside0.mk hy262; clear hy262
    obtain rfl := Option.some.inj H
    go_enter Try.func64, Try.ntmps64
    go_wp2_with (first | ((with_reducible refine gate_dst (N := 1) rfl ?_); (try (refine gate_guard (by rfl) ?_; dsimp only)); refine box_ (N := 1) (cs := #[.int .i64 a0_0, .slice A0_1 l0_1.length c0_1]) (t := 41) (fun gb254 hg w10 hbox hb => ?_); have BK254 := Aside0.mk (hbox); have GW254 := ge_ hg HB; have GE254 := ge_ hg HB; replace HB := (bs_ HB hb); clear hb hbox hg; have Z11 := zz2 BK254) | ((with_reducible refine gate_callee (f := 46) rfl ?_); refine goesL_ (some 5) rfl rfl Try.func46 (by kernel_rfl) rfl #[.int .i64 a0_0, .int .i64 0, .int .i64 255] rfl ar_ ?_; (with_reducible refine (spec_l1In.calls a0_0 0 255 true _ A2.out).mono ?_); rintro e w' ⟨rfl, ⟨nd, rfl⟩⟩; refine ⟨_, rfl, ?_⟩) | ((with_reducible refine gate_dst (N := 21) rfl ?_); (try (refine gate_guard (by rfl) ?_; dsimp only)); refine Kd.R_lit (Kd.int .u8) _ 5 ?hg (N := 21) ?hd (xs := ([((l0_1.length : Int)) % 256, (a0_0) % 256] : List Int)) (inner := [.int .u8 (((l0_1.length : Int)) % 256), .int .u8 ((a0_0) % 256)]) (ok := fun _ => True) (okp := fun _ => True) ?hr ?hp (fun _ hk => hk) trivial (Below.refl _ _) (Nat.le_refl _) (by simp) ?_; (case hd => rfl); (case hg => rfl); (case hr => first | (go_simp; done) | (go_simp; rfl)); (case hp => exact (Reps.one (show Kd.M (Kd.int .u8) _ _ _ (((l0_1.length : Int)) % 256) [.int .u8 (((l0_1.length : Int)) % 256)] from rfl) (Reps.one (show Kd.M (Kd.int .u8) _ _ _ ((a0_0) % 256) [.int .u8 ((a0_0) % 256)] from rfl) (Reps.none _ _)))); intro v260 w12 ho13 hb hg_ hnew_; clear hg_ hnew_; (first | rw [← Ny259.out] at ho13 | (simp only [Int.reduceToNat] at ho13; rw [← Ny259.out] at ho13)); have HO261 := Aside0.mk (Kd.R_lower ho13 (below_size (hbA_ HB.out))); replace BK254 := (bbA_ BK254 hb); replace HB := (bs_ HB hb); clear hb ho13; have Z14 := zz2 BK254) | ((with_reducible refine gate_builtin (b := .append) (xs := #[.tmp 21, .tmp 23]) rfl ?_); (try (refine gate_guard (by rfl) ?_; dsimp only)); at_builtin; refine Kd.R_append_rows (Kd.int .u8) (w0 := w) w.heap.size rfl (.tmp 21) (.tmp 23) 34 5 (.int .u8 0) 1 rfl Try.underlying34 info5 rfl (by decide) (by omega) v260 y259 l0_1 _ _ _ (fun _ => True) (fun _ => False) rfl rfl ?aO ?aR (fun _ _ h => h) (fun _ h => h.elim) ?aF ?aB ?aS ?aL ?_; (case aR => exact kC_ (Kd.C_below HR0_1.out HB.out)); (case aB => exact (hbA_ HB.out)); (case aF => exact (fun _ _ => trivial)); (case aO => exact (kR_ HO261.out)); (case aS => exact (below_size (hbA_ HB.out))); (case aL => have := LMc9.out; omega); intro v263 w15 ho hb hg hat; rw [← Ny262.out] at ho; replace BK254 := (bgA_ BK254 hg (Kd.R_ne HO261.out BK254.out (by decide))); replace HB := Aside0.mk (hb); have HO264 := Aside0.mk (ho); clear HO261; clear ho hb hg hat))
    go_ret
    exact ⟨_, by first | rfl | (simp [errW_none, errW_some] <;> rfl) | (simp [*, errW_none, errW_some] <;> rfl), kR_ HO264.out, hbA_ HB.out⟩
   ·rw [if_neg c9] at H
    exact absurd H (by simp)
 ·replace c3 := Bool.eq_false_iff.mpr c3
  subst c3
  rw [if_neg (show ¬ (false = true) by decide)] at H
  obtain ⟨y265, hy265⟩ : ∃ y_ : List Int, y_ = (([] : List Int)) := ⟨_, rfl⟩
  (first | replace H := sb_ hy265 H | rw [← hy265] at H)
  have Ny265 := Aside0.mk hy265; clear hy265
  obtain rfl := Option.some.inj H
  go_enter Try.func64, Try.ntmps64
  go_wp2_with (first | ((with_reducible refine gate_dst (N := 1) rfl ?_); (try (refine gate_guard (by rfl) ?_; dsimp only)); refine box_ (N := 1) (cs := #[.int .i64 a0_0, .slice A0_1 l0_1.length c0_1]) (t := 41) (fun gb254 hg w16 hbox hb => ?_); have BK254 := Aside0.mk (hbox); have GW254 := ge_ hg HB; have GE254 := ge_ hg HB; replace HB := (bs_ HB hb); clear hb hbox hg; have Z17 := zz2 BK254) | ((with_reducible refine gate_callee (f := 46) rfl ?_); refine goesL_ (some 5) rfl rfl Try.func46 (by kernel_rfl) rfl #[.int .i64 a0_0, .int .i64 0, .int .i64 255] rfl ar_ ?_; (with_reducible refine (spec_l1In.calls a0_0 0 255 false _ A2.out).mono ?_); rintro e w' ⟨rfl, ⟨nd, rfl⟩⟩; refine ⟨_, rfl, ?_⟩) | ((with_reducible refine gate_dst (N := 13) rfl ?_); (try (refine gate_guard (by rfl) ?_; dsimp only)); refine Kd.R_lit (Kd.int .u8) _ 5 ?hg (N := 13) ?hd (xs := ([] : List Int)) (inner := []) (ok := fun _ => True) (okp := fun _ => True) ?hr ?hp (fun _ hk => hk) trivial (Below.refl _ _) (Nat.le_refl _) (by simp) ?_; (case hd => rfl); (case hg => rfl); (case hr => first | (go_simp; done) | (go_simp; rfl)); (case hp => exact (Reps.none _ _)); intro v266 w18 ho19 hb hg_ hnew_; clear hg_ hnew_; (first | rw [← Ny265.out] at ho19 | (simp only [Int.reduceToNat] at ho19; rw [← Ny265.out] at ho19)); have HO267 := Aside0.mk (Kd.R_lower ho19 (below_size (hbA_ HB.out))); replace BK254 := (bbA_ BK254 hb); replace HB := (bs_ HB hb); clear hb ho19))
  go_ret
  exact ⟨_, by first | rfl | (simp [errW_none, errW_some] <;> rfl) | (simp [*, errW_none, errW_some] <;> rfl), kR_ HO267.out, hbA_ HB.out⟩
def spec_ClientAsk.j0 : Nat → List Int → Bool → Int → List Int → List (S41) → List Int → Option (Int × List Int × (List (S41)) × List Int × List Int × Bool)
 | 0, _, _, _, _, _, _ => none
 | k + 1, x1, x15, x269000, x269001, x269002, x269003 => if x15 = true then (some (0, ([] : List Int), ([] : List (S41)), ([] : List Int), (([] : List Int)), false)) else ((spec_l20Client.f k x269000 x269001 x269002 x269003).bind fun bt274 => (if (x269001.length : Int) = 4 then (some (bt274.1, bt274.2.1, bt274.2.2.1, bt274.2.2.2, (([] : List Int)), false)) else (if x269000 = 256 then (some (bt274.1, bt274.2.1, bt274.2.2.1, bt274.2.2.2, (([] : List Int)), false)) else (if bt274.2.1.length < 17592186044416 then ((spec_WordsBytes.f x269000 x1).bind fun t294 => (some (wrap64 (x269000 + 1), (bt274.2.1 ++ [x269000]), bt274.2.2.1, bt274.2.2.2, t294, true))) else (none)))))
def spec_ClientAsk.f (k : Nat) (a0_0 : Int) (l0_1 : List Int) (l0_2 : List (S41)) (l0_3 : List Int) (l1 : List Int) : Option (Int × List Int × (List (S41)) × List Int × List Int × Bool) := (spec_ClientOk.f k a0_0 l0_1 l0_2 l0_3).bind fun t270 => (if t270 = true then (spec_ClientAsk.j0 k l1 (decide ((l1.length : Int) > 9)) a0_0 l0_1 l0_2 l0_3) else (spec_ClientAsk.j0 k l1 true a0_0 l0_1 l0_2 l0_3))
theorem spec_ClientAsk.mono_l : ∀ k, (∀ y0 y1 y2 y3 y4 y5, LeO (spec_ClientAsk.j0 k y0 y1 y2 y3 y4 y5) (spec_ClientAsk.j0 (k + 1) y0 y1 y2 y3 y4 y5))
 | 0 => fun _ _ _ _ _ _ r h => by simp [spec_ClientAsk.j0] at h
 | k + 1 => by
  have ih0 := spec_ClientAsk.mono_l k
  ·intro y0 y1 y2 y3 y4 y5
   unfold spec_ClientAsk.j0
   repeat' first | (with_reducible first | apply ih0 | apply spec_ClientOk.mono | apply spec_l20Client.mono | exact LeO.refl _ | exact LeO.none _ | refine LeO.ite ?_ ?_ | refine LeO.bind ?_ fun _ => ?_) | apply ih0 | apply spec_ClientOk.mono | apply spec_l20Client.mono | exact LeO.none _ | refine LeO.ite ?_ ?_ | refine LeO.bind ?_ fun _ => ?_
theorem spec_ClientAsk.mono : ∀ a0 a1 a2 a3 a4 k, LeO (spec_ClientAsk.f k a0 a1 a2 a3 a4) (spec_ClientAsk.f (k + 1) a0 a1 a2 a3 a4) := by
 intro a0 a1 a2 a3 a4 k
 have ih0 := spec_ClientAsk.mono_l k
 unfold spec_ClientAsk.f
 repeat' first | (with_reducible first | apply ih0 | apply spec_ClientOk.mono | apply spec_l20Client.mono | exact LeO.refl _ | exact LeO.none _ | refine LeO.ite ?_ ?_ | refine LeO.bind ?_ fun _ => ?_) | apply ih0 | apply spec_ClientOk.mono | apply spec_l20Client.mono | exact LeO.none _ | refine LeO.ite ?_ ?_ | refine LeO.bind ?_ fun _ => ?_
def spec_ClientAsk.T8 : Bool × List (List Nat × List Nat) := (true, [([], []), ([], []), ([1], [1]), ([], []), ([2, 3], [2, 3]), ([4], [4]), ([0, 5, 0], [0]), ([5, 6, 0, 1, 2, 3, 4, 5, 6], [5]), ([7, 0, 1, 2, 3, 4, 5, 6, 7], [])])
def spec_ClientAsk.B8 : List Nat := [0, 0, 2, 0, 14, 30, 63, 127, 255]
theorem spec_ClientAsk.tab8 : rtab .any (opsOf Try.f27 8) = spec_ClientAsk.T8 := by kernel_rfl
theorem spec_ClientAsk.bits8 : waitsOk spec_ClientAsk.T8.2 spec_ClientAsk.B8 = true := by kernel_rfl
set_option maxHeartbeats 8000000 in
set_option maxRecDepth 100000 in
theorem spec_ClientAsk.calls (k : Nat) (a0_0 : Int) (A0_1 : Option Addr) (c0_1 : Nat) (l0_1 : List Int) (A0_2 : Option Addr) (c0_2 : Nat) (l0_2 : List (S41)) (A0_3 : Option Addr) (c0_3 : Nat) (l0_3 : List Int) (A1 : Option Addr) (c1 : Nat) (l1 : List Int) (r1 : Int) (r2 : List Int) (r3 : List (S41)) (r4 : List Int) (r5 : List Int) (r6 : Bool) (w : World) (hr0_1 : Kd.C (Kd.int .i64) w A0_1 l0_1.length l0_1) (hc0_1 : l0_1.length ≤ c0_1) (hr0_2 : Kd.C k41 w A0_2 l0_2.length l0_2) (hc0_2 : l0_2.length ≤ c0_2) (hr0_3 : Kd.C (Kd.int .i64) w A0_3 l0_3.length l0_3) (hc0_3 : l0_3.length ≤ c0_3) (hr1 : Kd.C (Kd.int .u8) w A1 l1.length l1) (hc1 : l1.length ≤ c1) (h : spec_ClientAsk.f k a0_0 l0_1 l0_2 l0_3 l1 = some (r1, r2, r3, r4, r5, r6)) :
  Calls Try.prog 27 #[.agg #[.int .i64 a0_0, .slice A0_1 l0_1.length c0_1, .slice A0_2 l0_2.length c0_2, .slice A0_3 l0_3.length c0_3], .slice A1 l1.length c1] w fun e w' => ∃ v1_ v2_ v3_ v4_ : Value, e = .returned (.tuple #[.agg #[.int .i64 r1, v1_, v2_, v3_], v4_, .bool r6]) ∧ Kd.R (Kd.int .i64) 3 w' w.heap.size (fun k_ => some k_ ≠ (v3_ : Value).ownBlock) v1_ r2 ∧ Kd.S k41 41 w' w.heap.size (fun k_ => some k_ ≠ (v4_ : Value).ownBlock) v2_ r3 ∧ Kd.R (Kd.int .i64) 3 w' w.heap.size (fun k_ => some k_ ≠ (v1_ : Value).ownBlock) v3_ r4 ∧ Kd.R (Kd.int .u8) 5 w' w.heap.size (fun _ => True) v4_ r5 ∧ Below w.heap.size w w' := by
 have hu30 := Try.underlying30; have hu41 := Try.underlying41; have HR0_1 := Aside0.mk hr0_1; have HC0_1 := Aside0.mk hc0_1; clear hr0_1 hc0_1; have HR0_2 := Aside0.mk hr0_2; have HC0_2 := Aside0.mk hc0_2; clear hr0_2 hc0_2; have HR0_3 := Aside0.mk hr0_3; have HC0_3 := Aside0.mk hc0_3; clear hr0_3 hc0_3; have HR1 := Aside0.mk hr1; have HC1 := Aside0.mk hc1; clear hr1 hc1
 have HB := Aside0.mk (Below.refl w.heap.size w)
 have H : ((spec_ClientOk.f k a0_0 l0_1 l0_2 l0_3).bind fun t270 => (if t270 = true then (spec_ClientAsk.j0 k l1 (decide ((l1.length : Int) > 9)) a0_0 l0_1 l0_2 l0_3) else (spec_ClientAsk.j0 k l1 true a0_0 l0_1 l0_2 l0_3))) = some (r1, r2, r3, r4, r5, r6) := h
 clear h; have HC3 := Aside0.mk H; clear H
 go_enter Try.func27, Try.ntmps27
 go_upto_region 1 with (first | ((with_reducible refine gate_dst (N := 2) rfl ?_); (try (refine gate_guard (by rfl) ?_; dsimp only)); refine box_ (N := 2) (cs := #[.int .i64 a0_0, .slice A0_1 l0_1.length c0_1, .slice A0_2 l0_2.length c0_2, .slice A0_3 l0_3.length c0_3]) (t := 30) (fun gb268 hg w4 hbox hb => ?_); have BK268 := Aside0.mk (hbox); have GW268 := ge_ hg HB; have GE268 := ge_ hg HB; replace HB := (bs_ HB hb); clear hb hbox hg) | ((with_reducible refine gate_dst (N := 4) rfl ?_); (try (refine gate_guard (by rfl) ?_; dsimp only)); refine box_ (N := 4) (cs := #[.int .i64 0, .slice none 0 0, .slice none 0 0, .slice none 0 0]) (t := 30) (fun gb269 hg w5 hbox hb => ?_); have BK269 := Aside0.mk (hbox); have GW269 := ge_ hg HB; have GE269 := ge_ hg HB; replace HB := (bs_ HB hb); have NB268_269 := nl_ hg BK268; have NB269_268 := ng_ hg BK268; replace BK268 := (bbA_ BK268 hb); clear hb hbox hg))
 (try simp only [Act.put, List.setIfInBounds_toArray, List.set_cons_zero, List.set_cons_succ])
 go_cut [15] (fun v15 wc => ∃ (kq : Nat) (x15_2 : Bool), v15 = .bool x15_2 ∧ Aside0 (spec_ClientAsk.j0 kq l1 x15_2 a0_0 l0_1 l0_2 l0_3 = some (r1, r2, r3, r4, r5, r6)) ∧ Aside0 (kq ≤ k) ∧ Aside0 (wc.heap[gb268]? = some (.cells #[.int .i64 a0_0, (.slice A0_1 l0_1.length c0_1), (.slice A0_2 l0_2.length c0_2), (.slice A0_3 l0_3.length c0_3)] 30 (0, 0))) ∧ Aside0 (wc.heap[gb269]? = some (.cells #[.int .i64 0, (.slice none 0 0), (.slice none 0 0), (.slice none 0 0)] 30 (0, 0))) ∧ Aside0 (Below w.heap.size w wc))
 case first =>
  have H := HC3.out; clear HC3
  replace H := Option.bind_eq_some_iff.mp H
  obtain ⟨t270, A60, H⟩ := H
  (try dsimp only at H)
  have A6 := Aside0.mk A60; clear A60
  by_cases c7 : t270 = true
  ·subst c7
   rw [if_pos rfl] at H
   have H' := Aside0.mk H
   clear H; have hnb8 := NB268_269.out; have hnc8 := NB269_268.out; have Z9 := zz4 BK268
   go_wp2_with (first | ((with_reducible refine gate_callee (f := 12) rfl ?_); refine goesL_ (some 9) rfl rfl Try.func12 (by kernel_rfl) rfl #[.agg #[.int .i64 a0_0, .slice A0_1 l0_1.length c0_1, .slice A0_2 l0_2.length c0_2, .slice A0_3 l0_3.length c0_3]] rfl ar_ ?_; (with_reducible refine (spec_ClientOk.calls k a0_0 _ _ l0_1 _ _ l0_2 _ _ l0_3 true _ ?side1 ?side2 ?side3 ?side4 ?side5 ?side6 A6.out).mono ?_); (case side1 => exact kC_ (Kd.C_below HR0_1.out HB.out)); (case side2 => exact HC0_1.out); (case side3 => exact kC_ (Kd.C_below HR0_2.out HB.out)); (case side4 => exact HC0_2.out); (case side5 => exact kC_ (Kd.C_below HR0_3.out HB.out)); (case side6 => exact HC0_3.out); rintro e w10 ⟨rfl, hb⟩; refine ⟨_, rfl, ?_⟩; replace BK268 := (bbA_ BK268 hb); replace BK269 := (bbA_ BK269 hb); replace HB := (bs_ HB hb); (try clear hb); (try clear hb2); (try clear hk); (try clear hi)))
   go_meet
   case rel => exact ⟨_, (decide ((l1.length : Int) > 9)), (by first | rfl | (simp; done) | (simp [*]; done)), H', ⟨by first | omega | exact Nat.le_refl _⟩, ⟨by refine kb_ ?_; exact BK268.out⟩, ⟨by refine kb_ ?_; exact BK269.out⟩, ⟨hbA_ HB.out⟩⟩
  ·replace c7 := Bool.eq_false_iff.mpr c7
   subst c7
   rw [if_neg (show ¬ (false = true) by decide)] at H
   have H' := Aside0.mk H
   clear H; have hnb11 := NB268_269.out; have hnc11 := NB269_268.out; have Z12 := zz4 BK268
   go_wp2_with (first | ((with_reducible refine gate_callee (f := 12) rfl ?_); refine goesL_ (some 9) rfl rfl Try.func12 (by kernel_rfl) rfl #[.agg #[.int .i64 a0_0, .slice A0_1 l0_1.length c0_1, .slice A0_2 l0_2.length c0_2, .slice A0_3 l0_3.length c0_3]] rfl ar_ ?_; (with_reducible refine (spec_ClientOk.calls k a0_0 _ _ l0_1 _ _ l0_2 _ _ l0_3 false _ ?side1 ?side2 ?side3 ?side4 ?side5 ?side6 A6.out).mono ?_); (case side1 => exact kC_ (Kd.C_below HR0_1.out HB.out)); (case side2 => exact HC0_1.out); (case side3 => exact kC_ (Kd.C_below HR0_2.out HB.out)); (case side4 => exact HC0_2.out); (case side5 => exact kC_ (Kd.C_below HR0_3.out HB.out)); (case side6 => exact HC0_3.out); rintro e w13 ⟨rfl, hb⟩; refine ⟨_, rfl, ?_⟩; replace BK268 := (bbA_ BK268 hb); replace BK269 := (bbA_ BK269 hb); replace HB := (bs_ HB hb); (try clear hb); (try clear hb2); (try clear hk); (try clear hi)))
   go_meet
   case rel => exact ⟨_, (true), (by first | rfl | (simp; done) | (simp [*]; done)), H', ⟨by first | omega | exact Nat.le_refl _⟩, ⟨by refine kb_ ?_; exact BK268.out⟩, ⟨by refine kb_ ?_; exact BK269.out⟩, ⟨hbA_ HB.out⟩⟩
 case rest =>
  clear HC3; (try clear c1); (try clear c2); (try clear p2); (try clear c7); (try clear c8); (try clear c11); (try clear c12); (try clear Z12); (try clear Z9)
  obtain ⟨kq, x15_2, rfl, HA, HJ2, BK268, BK269, HB⟩ := hcut
  cases kq with
  | zero => exact absurd HA.out (by simp [spec_ClientAsk.j0])
  | succ kj2 =>
   have H := HA.out; clear HA
   simp only [spec_ClientAsk.j0] at H
   by_cases c14 : x15_2 = true
   ·subst c14
    rw [if_pos rfl] at H
    obtain ⟨y271, hy271⟩ : ∃ y_ : List Int, y_ = (([] : List Int)) := ⟨_, rfl⟩
    (first | replace H := sb_ hy271 H | rw [← hy271] at H)
    have Ny271 := Aside0.mk hy271; clear hy271
    simp only [Option.some.injEq, Prod.mk.injEq] at H
    obtain ⟨rfl, rfl, rfl, rfl, rfl, rfl⟩ := H
    go_wp2_with (first | ((with_reducible refine gate_dst (N := 17) rfl ?_); (try (refine gate_guard (by rfl) ?_; dsimp only)); refine Kd.R_lit (Kd.int .u8) _ 5 ?hg (N := 17) ?hd (xs := ([] : List Int)) (inner := []) (ok := fun _ => True) (okp := fun _ => True) ?hr ?hp (fun _ hk => hk) trivial (Below.refl _ _) (Nat.le_refl _) (by simp) ?_; (case hd => rfl); (case hg => rfl); (case hr => first | (go_simp; done) | (go_simp; rfl)); (case hp => exact (Reps.none _ _)); intro v272 w15 ho16 hb hg_ hnew_; clear hg_ hnew_; (first | rw [← Ny271.out] at ho16 | (simp only [Int.reduceToNat] at ho16; rw [← Ny271.out] at ho16)); have HO273 := Aside0.mk (Kd.R_lower ho16 (below_size (hbA_ HB.out))); replace BK268 := (bbA_ BK268 hb); replace BK269 := (bbA_ BK269 hb); replace HB := (bs_ HB hb); clear hb ho16; have hnb17 := NB269_268.out; have hnc17 := NB268_269.out; have Z18 := zz4 BK269))
    refine bodyPost_ret (results_ctt rfl _ _ gb269 30 #[.int .i64 0, .slice none 0 0, .slice none 0 0, .slice none 0 0] (0, 0) _ rfl (by refine kb_ ?_; refine pz4 (cs := #[.int .i64 0, .slice none 0 0, .slice none 0 0, .slice none 0 0]) ?_; refine kb_ ?_; exact BK269.out) Try.underlying30 rfl (by kernel_rfl)) rfl ?_
    exact ⟨_, _, _, _, by first | rfl | (simp [errW_none, errW_some] <;> rfl) | (simp [*, errW_none, errW_some] <;> rfl), by (try rw [Ny271.out]); first | exact Kd.R_nil _ _ _ _ _ | exact Kd.N_nil _ _ _ _ _ | exact Kd.V_nil _ _ _ _ _ | exact Kd.Q_nil _ _ _ _ _ | exact Kd.S_nil _ _ _ _ _, by (try rw [Ny271.out]); first | exact Kd.S_nil _ _ _ _ _ | exact Kd.N_nil _ _ _ _ _ | exact Kd.V_nil _ _ _ _ _ | exact Kd.Q_nil _ _ _ _ _ | exact Kd.R_nil _ _ _ _ _, by (try rw [Ny271.out]); first | exact Kd.R_nil _ _ _ _ _ | exact Kd.N_nil _ _ _ _ _ | exact Kd.V_nil _ _ _ _ _ | exact Kd.Q_nil _ _ _ _ _ | exact Kd.S_nil _ _ _ _ _, by refine kR_ ?_; exact rfm_ ((Kd.R_types HO273.out BK269.out (by decide))) (fun _ hk => trivial), hbA_ HB.out⟩
   ·replace c14 := Bool.eq_false_iff.mpr c14
    subst c14
    rw [if_neg (show ¬ (false = true) by decide)] at H
    replace H := Option.bind_eq_some_iff.mp H
    obtain ⟨⟨t274, t275, t278, t281⟩, A190, H⟩ := H
    (try dsimp only at H)
    have A19 := Aside0.mk A190; clear A190
    by_cases c20 : (l0_1.length : Int) = 4
    ·rw [if_pos c20] at H
     have c20b0 : ((l0_1.length : Int) == 4) = true := beq_iff_eq.mpr c20
     have c20b1 : ((l0_1.length : Int) != 4) = false := bne_eq_false_iff_eq.mpr c20
     clear c20
     obtain ⟨y285, hy285⟩ : ∃ y_ : List Int, y_ = (([] : List Int)) := ⟨_, rfl⟩
     (first | replace H := sb_ hy285 H | rw [← hy285] at H)
     have Ny285 := Aside0.mk hy285; clear hy285
     simp only [Option.some.injEq, Prod.mk.injEq] at H
     obtain ⟨rfl, rfl, rfl, rfl, rfl, rfl⟩ := H
     have hnb21 := NB268_269.out; have hnc21 := NB269_268.out; have Z22 := zz4 BK268
     go_wp2_with (first | ((with_reducible refine gate_callee (f := 56) rfl ?_); refine goesL_ (some 19) rfl rfl Try.func56 (by kernel_rfl) rfl #[.agg #[.int .i64 a0_0, .slice A0_1 l0_1.length c0_1, .slice A0_2 l0_2.length c0_2, .slice A0_3 l0_3.length c0_3]] rfl ar_ ?_; (with_reducible refine (spec_l20Client.calls kj2 a0_0 _ _ l0_1 _ _ l0_2 _ _ l0_3 t274 t275 t278 t281 _ ?side1 ?side2 ?side3 ?side4 ?side5 ?side6 A19.out).mono ?_); (case side1 => exact kC_ (Kd.C_below HR0_1.out HB.out)); (case side2 => exact HC0_1.out); (case side3 => exact kC_ (Kd.C_below HR0_2.out HB.out)); (case side4 => exact HC0_2.out); (case side5 => exact kC_ (Kd.C_below HR0_3.out HB.out)); (case side6 => exact HC0_3.out); rintro e w23 ⟨v276, v279, v282, rfl, ho0, ho1, ho2, hb⟩; refine ⟨_, rfl, ?_⟩; have HO277 := Aside0.mk (Kd.R_lower ho0 (below_size (hbA_ HB.out))); have HO280 := Aside0.mk (Kd.S_lower ho1 (below_size (hbA_ HB.out))); have HO283 := Aside0.mk (Kd.R_lower ho2 (below_size (hbA_ HB.out))); replace BK268 := (bbA_ BK268 hb); replace BK269 := (bbA_ BK269 hb); replace HB := (bs_ HB hb); (try clear hb); (try clear hb2); (try clear hk); (try clear hi); (try clear ho0); (try clear ho1); (try clear ho2)) | ((with_reducible refine gate_dst (N := 7) rfl ?_); (try (refine gate_guard (by rfl) ?_; dsimp only)); refine box_ (N := 7) (cs := #[.int .i64 0, .slice none 0 0, .slice none 0 0, .slice none 0 0]) (t := 30) (fun gb284 hg w24 hbox hb => ?_); replace HO277 := Aside0.mk (Kd.R_below (kR_ HO277.out) hb); replace HO280 := Aside0.mk (Kd.S_below (kS_ HO280.out) hb); replace HO283 := Aside0.mk (Kd.R_below (kR_ HO283.out) hb); have BK284 := Aside0.mk (hbox); have GW284 := ge_ hg HB; have GE284 := ge_ hg HB; replace HB := (bs_ HB hb); have NB268_284 := nl_ hg BK268; have NB284_268 := ng_ hg BK268; replace BK268 := (bbA_ BK268 hb); have NB269_284 := nl_ hg BK269; have NB284_269 := ng_ hg BK269; replace BK269 := (bbA_ BK269 hb); clear hb hbox hg; have hnb25 := NB284_268.out; have hnc25 := NB268_284.out; have hnb26 := NB284_269.out; have hnc26 := NB269_284.out; have Z27 := zz4 BK284; obtain ⟨Ao28, co28, eo28⟩ := Kd.R_slice HO277.out; subst eo28; obtain ⟨Ao29, co29, eo29⟩ := Kd.S_slice HO280.out; subst eo29; obtain ⟨Ao30, co30, eo30⟩ := Kd.R_slice HO283.out; subst eo30; have Z31 := zz4 BK268) | ((with_reducible refine gate_dst (N := 30) rfl ?_); (try (refine gate_guard (by rfl) ?_; dsimp only)); refine Kd.R_lit (Kd.int .u8) _ 5 ?hg (N := 30) ?hd (xs := ([] : List Int)) (inner := []) (ok := fun _ => True) (okp := fun _ => True) ?hr ?hp (fun _ hk => hk) trivial (Below.refl _ _) (Nat.le_refl _) (by simp) ?_; (case hd => rfl); (case hg => rfl); (case hr => first | (go_simp; done) | (go_simp; rfl)); (case hp => exact (Reps.none _ _)); intro v286 w32 ho33 hb hg_ hnew_; clear hg_ hnew_; (first | rw [← Ny285.out] at ho33 | (simp only [Int.reduceToNat] at ho33; rw [← Ny285.out] at ho33)); replace HO277 := Aside0.mk (Kd.R_below (by refine kR_ ?_; exact (rfm_ ((Kd.R_types HO277.out BK284.out (by decide))) (fun _ h_ => op1_ h_))) hb); replace HO280 := Aside0.mk (Kd.S_elder' (by refine kS_ ?_; exact (Kd.S_mono (Kd.S_far (p := ⟨gb284, 3, none⟩) (Kd.S_far (p := ⟨gb284, 2, none⟩) (Kd.S_far (p := ⟨gb284, 1, none⟩) (Kd.S_far (p := ⟨gb284, 0, none⟩) (Kd.S_types HO280.out BK284.out (by decide)) (fun _ hk => hk.2) (.int .i64 t274)) (fun _ hk => hk.2) (.slice Ao28 t275.length co28)) (fun _ hk => hk.2) (.slice Ao29 t278.length co29)) (fun _ hk => hk.2) (.slice Ao30 t281.length co30)) (fun _ h_ => op1_ h_))) (Kd.R_base ho33) hb); replace HO283 := Aside0.mk (Kd.R_below (by refine kR_ ?_; exact (rfm_ ((Kd.R_types HO283.out BK284.out (by decide))) (fun _ h_ => op1_ h_))) hb); have HO287 := Aside0.mk (Kd.R_lower ho33 (below_size (hbA_ HB.out))); replace BK268 := Aside0.mk (blk_below (g := gb268) (o := .cells #[.int .i64 a0_0, .slice A0_1 l0_1.length c0_1, .slice A0_2 l0_2.length c0_2, .slice A0_3 l0_3.length c0_3] 30 (0, 0)) (by exact kf_ BK268.out) hb); replace BK269 := Aside0.mk (blk_below (g := gb269) (o := .cells #[.int .i64 0, .slice none 0 0, .slice none 0 0, .slice none 0 0] 30 (0, 0)) (by exact kf_ BK269.out) hb); replace BK284 := Aside0.mk (blk_below (g := gb284) (o := .cells #[.int .i64 t274, .slice Ao28 t275.length co28, .slice Ao29 t278.length co29, .slice Ao30 t281.length co30] 30 (0, 0)) (by refine kb_ ?_; refine pz4 (cs := #[.int .i64 0, .slice none 0 0, .slice none 0 0, .slice none 0 0]) ?_; refine kb_ ?_; exact BK284.out) hb); replace HB := (bs_ HB hb); clear hb ho33; have Z34 := zz4 BK269))
     refine bodyPost_ret (results_ctt rfl _ _ gb269 30 #[.int .i64 t274, .slice Ao28 t275.length co28, .slice Ao29 t278.length co29, .slice Ao30 t281.length co30] (0, 0) _ rfl (by refine kb_ ?_; refine pz4 (cs := #[.int .i64 0, .slice none 0 0, .slice none 0 0, .slice none 0 0]) ?_; refine kb_ ?_; exact BK269.out) Try.underlying30 rfl (by kernel_rfl)) rfl ?_
     exact ⟨_, _, _, _, by first | rfl | (simp [errW_none, errW_some] <;> rfl) | (simp [*, errW_none, errW_some] <;> rfl), by refine kR_ ?_; exact rfm_ ((Kd.R_types HO277.out BK269.out (by decide))) (fun _ hk => hk.1), by refine kS_ ?_; exact Kd.S_mono (Kd.S_far (p := ⟨gb269, 3, none⟩) (Kd.S_far (p := ⟨gb269, 2, none⟩) (Kd.S_far (p := ⟨gb269, 1, none⟩) (Kd.S_far (p := ⟨gb269, 0, none⟩) (Kd.S_types HO280.out BK269.out (by decide)) (fun _ hk => hk.2) (.int .i64 t274)) (fun _ hk => hk.2) (.slice Ao28 t275.length co28)) (fun _ hk => hk.2) (.slice Ao29 t278.length co29)) (fun _ hk => hk.2) (.slice Ao30 t281.length co30)) (fun _ hk => hk.1.2), by refine kR_ ?_; exact rfm_ ((Kd.R_types HO283.out BK269.out (by decide))) (fun _ hk => hk.1), by refine kR_ ?_; exact rfm_ ((Kd.R_types HO287.out BK269.out (by decide))) (fun _ hk => trivial), hbA_ HB.out⟩
    ·rw [if_neg c20] at H
     have c20b0 : ((l0_1.length : Int) == 4) = false := beq_eq_false_iff_ne.mpr c20
     have c20b1 : ((l0_1.length : Int) != 4) = true := bne_iff_ne.mpr c20
     by_cases c35 : a0_0 = 256
     ·rw [if_pos c35] at H
      have c35b0 : (a0_0 == 256) = true := beq_iff_eq.mpr c35
      have c35b1 : (a0_0 != 256) = false := bne_eq_false_iff_eq.mpr c35
      clear c35
      obtain ⟨y288, hy288⟩ : ∃ y_ : List Int, y_ = (([] : List Int)) := ⟨_, rfl⟩
      (first | replace H := sb_ hy288 H | rw [← hy288] at H)
      have Ny288 := Aside0.mk hy288; clear hy288
      simp only [Option.some.injEq, Prod.mk.injEq] at H
      obtain ⟨rfl, rfl, rfl, rfl, rfl, rfl⟩ := H
      have hnb36 := NB268_269.out; have hnc36 := NB269_268.out; have Z37 := zz4 BK268
      go_wp2_with (first | ((with_reducible refine gate_callee (f := 56) rfl ?_); refine goesL_ (some 19) rfl rfl Try.func56 (by kernel_rfl) rfl #[.agg #[.int .i64 a0_0, .slice A0_1 l0_1.length c0_1, .slice A0_2 l0_2.length c0_2, .slice A0_3 l0_3.length c0_3]] rfl ar_ ?_; (with_reducible refine (spec_l20Client.calls kj2 a0_0 _ _ l0_1 _ _ l0_2 _ _ l0_3 t274 t275 t278 t281 _ ?side1 ?side2 ?side3 ?side4 ?side5 ?side6 A19.out).mono ?_); (case side1 => exact kC_ (Kd.C_below HR0_1.out HB.out)); (case side2 => exact HC0_1.out); (case side3 => exact kC_ (Kd.C_below HR0_2.out HB.out)); (case side4 => exact HC0_2.out); (case side5 => exact kC_ (Kd.C_below HR0_3.out HB.out)); (case side6 => exact HC0_3.out); rintro e w38 ⟨v276, v279, v282, rfl, ho0, ho1, ho2, hb⟩; refine ⟨_, rfl, ?_⟩; have HO277 := Aside0.mk (Kd.R_lower ho0 (below_size (hbA_ HB.out))); have HO280 := Aside0.mk (Kd.S_lower ho1 (below_size (hbA_ HB.out))); have HO283 := Aside0.mk (Kd.R_lower ho2 (below_size (hbA_ HB.out))); replace BK268 := (bbA_ BK268 hb); replace BK269 := (bbA_ BK269 hb); replace HB := (bs_ HB hb); (try clear hb); (try clear hb2); (try clear hk); (try clear hi); (try clear ho0); (try clear ho1); (try clear ho2)) | ((with_reducible refine gate_dst (N := 7) rfl ?_); (try (refine gate_guard (by rfl) ?_; dsimp only)); refine box_ (N := 7) (cs := #[.int .i64 0, .slice none 0 0, .slice none 0 0, .slice none 0 0]) (t := 30) (fun gb284 hg w39 hbox hb => ?_); replace HO277 := Aside0.mk (Kd.R_below (kR_ HO277.out) hb); replace HO280 := Aside0.mk (Kd.S_below (kS_ HO280.out) hb); replace HO283 := Aside0.mk (Kd.R_below (kR_ HO283.out) hb); have BK284 := Aside0.mk (hbox); have GW284 := ge_ hg HB; have GE284 := ge_ hg HB; replace HB := (bs_ HB hb); have NB268_284 := nl_ hg BK268; have NB284_268 := ng_ hg BK268; replace BK268 := (bbA_ BK268 hb); have NB269_284 := nl_ hg BK269; have NB284_269 := ng_ hg BK269; replace BK269 := (bbA_ BK269 hb); clear hb hbox hg; have hnb40 := NB284_268.out; have hnc40 := NB268_284.out; have hnb41 := NB284_269.out; have hnc41 := NB269_284.out; have Z42 := zz4 BK284; obtain ⟨Ao43, co43, eo43⟩ := Kd.R_slice HO277.out; subst eo43; obtain ⟨Ao44, co44, eo44⟩ := Kd.S_slice HO280.out; subst eo44; obtain ⟨Ao45, co45, eo45⟩ := Kd.R_slice HO283.out; subst eo45; have Z46 := zz4 BK268) | ((with_reducible refine gate_dst (N := 30) rfl ?_); (try (refine gate_guard (by rfl) ?_; dsimp only)); refine Kd.R_lit (Kd.int .u8) _ 5 ?hg (N := 30) ?hd (xs := ([] : List Int)) (inner := []) (ok := fun _ => True) (okp := fun _ => True) ?hr ?hp (fun _ hk => hk) trivial (Below.refl _ _) (Nat.le_refl _) (by simp) ?_; (case hd => rfl); (case hg => rfl); (case hr => first | (go_simp; done) | (go_simp; rfl)); (case hp => exact (Reps.none _ _)); intro v289 w47 ho48 hb hg_ hnew_; clear hg_ hnew_; (first | rw [← Ny288.out] at ho48 | (simp only [Int.reduceToNat] at ho48; rw [← Ny288.out] at ho48)); replace HO277 := Aside0.mk (Kd.R_below (by refine kR_ ?_; exact (rfm_ ((Kd.R_types HO277.out BK284.out (by decide))) (fun _ h_ => op1_ h_))) hb); replace HO280 := Aside0.mk (Kd.S_elder' (by refine kS_ ?_; exact (Kd.S_mono (Kd.S_far (p := ⟨gb284, 3, none⟩) (Kd.S_far (p := ⟨gb284, 2, none⟩) (Kd.S_far (p := ⟨gb284, 1, none⟩) (Kd.S_far (p := ⟨gb284, 0, none⟩) (Kd.S_types HO280.out BK284.out (by decide)) (fun _ hk => hk.2) (.int .i64 t274)) (fun _ hk => hk.2) (.slice Ao43 t275.length co43)) (fun _ hk => hk.2) (.slice Ao44 t278.length co44)) (fun _ hk => hk.2) (.slice Ao45 t281.length co45)) (fun _ h_ => op1_ h_))) (Kd.R_base ho48) hb); replace HO283 := Aside0.mk (Kd.R_below (by refine kR_ ?_; exact (rfm_ ((Kd.R_types HO283.out BK284.out (by decide))) (fun _ h_ => op1_ h_))) hb); have HO290 := Aside0.mk (Kd.R_lower ho48 (below_size (hbA_ HB.out))); replace BK268 := Aside0.mk (blk_below (g := gb268) (o := .cells #[.int .i64 a0_0, .slice A0_1 l0_1.length c0_1, .slice A0_2 l0_2.length c0_2, .slice A0_3 l0_3.length c0_3] 30 (0, 0)) (by exact kf_ BK268.out) hb); replace BK269 := Aside0.mk (blk_below (g := gb269) (o := .cells #[.int .i64 0, .slice none 0 0, .slice none 0 0, .slice none 0 0] 30 (0, 0)) (by exact kf_ BK269.out) hb); replace BK284 := Aside0.mk (blk_below (g := gb284) (o := .cells #[.int .i64 t274, .slice Ao43 t275.length co43, .slice Ao44 t278.length co44, .slice Ao45 t281.length co45] 30 (0, 0)) (by refine kb_ ?_; refine pz4 (cs := #[.int .i64 0, .slice none 0 0, .slice none 0 0, .slice none 0 0]) ?_; refine kb_ ?_; exact BK284.out) hb); replace HB := (bs_ HB hb); clear hb ho48; have Z49 := zz4 BK269))
      refine bodyPost_ret (results_ctt rfl _ _ gb269 30 #[.int .i64 t274, .slice Ao43 t275.length co43, .slice Ao44 t278.length co44, .slice Ao45 t281.length co45] (0, 0) _ rfl (by refine kb_ ?_; refine pz4 (cs := #[.int .i64 0, .slice none 0 0, .slice none 0 0, .slice none 0 0]) ?_; refine kb_ ?_; exact BK269.out) Try.underlying30 rfl (by kernel_rfl)) rfl ?_
      exact ⟨_, _, _, _, by first | rfl | (simp [errW_none, errW_some] <;> rfl) | (simp [*, errW_none, errW_some] <;> rfl), by refine kR_ ?_; exact rfm_ ((Kd.R_types HO277.out BK269.out (by decide))) (fun _ hk => hk.1), by refine kS_ ?_; exact Kd.S_mono (Kd.S_far (p := ⟨gb269, 3, none⟩) (Kd.S_far (p := ⟨gb269, 2, none⟩) (Kd.S_far (p := ⟨gb269, 1, none⟩) (Kd.S_far (p := ⟨gb269, 0, none⟩) (Kd.S_types HO280.out BK269.out (by decide)) (fun _ hk => hk.2) (.int .i64 t274)) (fun _ hk => hk.2) (.slice Ao43 t275.length co43)) (fun _ hk => hk.2) (.slice Ao44 t278.length co44)) (fun _ hk => hk.2) (.slice Ao45 t281.length co45)) (fun _ hk => hk.1.2), by refine kR_ ?_; exact rfm_ ((Kd.R_types HO283.out BK269.out (by decide))) (fun _ hk => hk.1), by refine kR_ ?_; exact rfm_ ((Kd.R_types HO290.out BK269.out (by decide))) (fun _ hk => trivial), hbA_ HB.out⟩
     ·rw [if_neg c35] at H
      have c35b0 : (a0_0 == 256) = false := beq_eq_false_iff_ne.mpr c35
      have c35b1 : (a0_0 != 256) = true := bne_iff_ne.mpr c35
      by_cases c50 : t275.length < 17592186044416
      ·rw [if_pos c50] at H
       have LMc50 := Aside0.mk c50; clear c50
       obtain ⟨y291, hy291⟩ : ∃ y_ : List Int, y_ = (t275 ++ [a0_0]) := ⟨_, rfl⟩
       (first | replace H := sb_ hy291 H | rw [← hy291] at H)
       have Ny291 := Aside0.mk hy291; clear hy291
       replace H := Option.bind_eq_some_iff.mp H
       obtain ⟨t294, A510, H⟩ := H
       (try dsimp only at H)
       have A51 := Aside0.mk A510; clear A510
       simp only [Option.some.injEq, Prod.mk.injEq] at H
       obtain ⟨rfl, rfl, rfl, rfl, rfl, rfl⟩ := H
       have hnb52 := NB268_269.out; have hnc52 := NB269_268.out; have Z53 := zz4 BK268
       try go_wp2_with (first | ((with_reducible refine gate_callee (f := 56) rfl ?_); refine goesL_ (some 19) rfl rfl Try.func56 (by kernel_rfl) rfl #[.agg #[.int .i64 a0_0, .slice A0_1 l0_1.length c0_1, .slice A0_2 l0_2.length c0_2, .slice A0_3 l0_3.length c0_3]] rfl ar_ ?_; (with_reducible refine (spec_l20Client.calls kj2 a0_0 _ _ l0_1 _ _ l0_2 _ _ l0_3 t274 t275 t278 t281 _ ?side1 ?side2 ?side3 ?side4 ?side5 ?side6 A19.out).mono ?_); (case side1 => exact kC_ (Kd.C_below HR0_1.out HB.out)); (case side2 => exact HC0_1.out); (case side3 => exact kC_ (Kd.C_below HR0_2.out HB.out)); (case side4 => exact HC0_2.out); (case side5 => exact kC_ (Kd.C_below HR0_3.out HB.out)); (case side6 => exact HC0_3.out); rintro e w54 ⟨v276, v279, v282, rfl, ho0, ho1, ho2, hb⟩; refine ⟨_, rfl, ?_⟩; have HO277 := Aside0.mk (Kd.R_lower ho0 (below_size (hbA_ HB.out))); have HO280 := Aside0.mk (Kd.S_lower ho1 (below_size (hbA_ HB.out))); have HO283 := Aside0.mk (Kd.R_lower ho2 (below_size (hbA_ HB.out))); replace BK268 := (bbA_ BK268 hb); replace BK269 := (bbA_ BK269 hb); replace HB := (bs_ HB hb); (try clear hb); (try clear hb2); (try clear hk); (try clear hi); (try clear ho0); (try clear ho1); (try clear ho2)) | ((with_reducible refine gate_dst (N := 7) rfl ?_); (try (refine gate_guard (by rfl) ?_; dsimp only)); refine box_ (N := 7) (cs := #[.int .i64 0, .slice none 0 0, .slice none 0 0, .slice none 0 0]) (t := 30) (fun gb284 hg w55 hbox hb => ?_); replace HO277 := Aside0.mk (Kd.R_below (kR_ HO277.out) hb); replace HO280 := Aside0.mk (Kd.S_below (kS_ HO280.out) hb); replace HO283 := Aside0.mk (Kd.R_below (kR_ HO283.out) hb); have BK284 := Aside0.mk (hbox); have GW284 := ge_ hg HB; have GE284 := ge_ hg HB; replace HB := (bs_ HB hb); have NB268_284 := nl_ hg BK268; have NB284_268 := ng_ hg BK268; replace BK268 := (bbA_ BK268 hb); have NB269_284 := nl_ hg BK269; have NB284_269 := ng_ hg BK269; replace BK269 := (bbA_ BK269 hb); clear hb hbox hg; have hnb56 := NB284_268.out; have hnc56 := NB268_284.out; have hnb57 := NB284_269.out; have hnc57 := NB269_284.out; have Z58 := zz4 BK284; obtain ⟨Ao59, co59, eo59⟩ := Kd.R_slice HO277.out; subst eo59; obtain ⟨Ao60, co60, eo60⟩ := Kd.S_slice HO280.out; subst eo60; obtain ⟨Ao61, co61, eo61⟩ := Kd.R_slice HO283.out; subst eo61; have Z62 := zz4 BK268) | ((with_reducible refine gate_builtin (b := .append) (xs := #[.tmp 32, .tmp 35]) rfl ?_); (try (refine gate_guard (by rfl) ?_; dsimp only)); at_builtin; refine Kd.R_append (Kd.int .i64) (w0 := w) w.heap.size rfl (.tmp 32) (.tmp 35) 22 3 (.int .i64 0) 8 rfl Try.underlying22 info3 rfl (by decide) (by omega) (.slice Ao59 t275.length co59) t275 a0_0 [.int .i64 a0_0] (fun k_ => some k_ ≠ (.slice Ao61 t281.length co61 : Value).ownBlock) (fun _ => False) rfl (by first | (go_simp; done) | (go_simp; rfl)) ?aP (fun _ hk => hk.elim) ?aF ?aO ?aB ?aS ?aL ?_; (case aP => exact rfl); (case aB => exact (hbA_ HB.out)); (case aF => exact (fun k_ hk => Kd.fresh' (Kd.R_lt (by refine kR_ ?_; exact (rfm_ ((Kd.R_types HO283.out BK284.out (by decide))) (fun _ h_ => op1_ h_)))) k_ hk)); (case aO => exact (by refine kR_ ?_; exact rfm_ ((Kd.R_types HO277.out BK284.out (by decide))) (fun _ hk => hk.1))); (case aS => exact (below_size (hbA_ HB.out))); (case aL => have := LMc50.out; omega); intro v292 w63 ho hb hg hat; rw [← Ny291.out] at ho; replace BK268 := Aside0.mk (blk_grown (g := gb268) (o := .cells #[.int .i64 a0_0, .slice A0_1 l0_1.length c0_1, .slice A0_2 l0_2.length c0_2, .slice A0_3 l0_3.length c0_3] 30 (0, 0)) (by exact kf_ BK268.out) hg (Kd.R_ne HO277.out BK268.out (by decide))); replace BK269 := Aside0.mk (blk_grown (g := gb269) (o := .cells #[.int .i64 0, .slice none 0 0, .slice none 0 0, .slice none 0 0] 30 (0, 0)) (by exact kf_ BK269.out) hg (Kd.R_ne HO277.out BK269.out (by decide))); replace HO280 := Aside0.mk (Kd.S_over' (by refine kS_ ?_; exact (Kd.S_mono (Kd.S_far (p := ⟨gb284, 3, none⟩) (Kd.S_far (p := ⟨gb284, 2, none⟩) (Kd.S_far (p := ⟨gb284, 1, none⟩) (Kd.S_far (p := ⟨gb284, 0, none⟩) (Kd.S_types HO280.out BK284.out (by decide)) (fun _ hk => hk.2) (.int .i64 t274)) (fun _ hk => hk.2) (.slice Ao59 t275.length co59)) (fun _ hk => hk.2) (.slice Ao60 t278.length co60)) (fun _ hk => hk.2) (.slice Ao61 t281.length co61)) (fun _ h_ => op1_ h_))) (Kd.R_typed (by refine kR_ ?_; exact (rfm_ ((Kd.R_types HO277.out BK284.out (by decide))) (fun _ h_ => op1_ h_)))) (by decide) hg); replace HO283 := Aside0.mk (Kd.R_after (ok := (fun _ => True)) (by refine kR_ ?_; exact rfm_ ((Kd.R_types HO283.out BK284.out (by decide))) (fun _ hk => ⟨trivial, hk.1⟩)) hg hat); replace BK284 := Aside0.mk (blk_grown (g := gb284) (o := .cells #[.int .i64 t274, .slice Ao59 t275.length co59, .slice Ao60 t278.length co60, .slice Ao61 t281.length co61] 30 (0, 0)) (by refine kb_ ?_; refine pz4 (cs := #[.int .i64 0, .slice none 0 0, .slice none 0 0, .slice none 0 0]) ?_; refine kb_ ?_; exact BK284.out) hg (Kd.R_ne HO277.out BK284.out (by decide))); replace HB := Aside0.mk (hb); have HO293 := Aside0.mk (ho); clear HO277; clear ho hb hg hat; obtain ⟨Ao64, co64, eo64⟩ := Kd.R_slice HO293.out; subst eo64; have Z65 := zz4 BK284; have Z66 := zz4 BK268))
       obtain ⟨w67, h_w67⟩ : ∃ w_, ((w63.setCell ⟨gb284, 1, none⟩ (.slice Ao64 y291.length co64)).setCell ⟨gb284, 0, none⟩ (.int .i64 (wrap64 (a0_0 + 1)))) = w_ := ⟨_, rfl⟩
       have n0_ : Aside0 (Kd.S k41 41 w67 w.heap.size (fun _ => True) (.slice Ao60 t278.length co60) t278) := ⟨by subst h_w67; refine kS_ ?_; exact Kd.S_mono (Kd.S_far (p := ⟨gb284, 0, none⟩) (Kd.S_far (p := ⟨gb284, 1, none⟩) (Kd.S_types HO280.out BK284.out (by decide)) (fun _ hk => hk.2) (.slice Ao64 y291.length co64)) (fun _ hk => hk.2) (.int .i64 (wrap64 (a0_0 + 1)))) (fun _ hk => trivial)⟩
       have n1_ : Aside0 (Kd.R (Kd.int .i64) 3 w67 w.heap.size (fun k_ => some k_ ≠ (.slice Ao64 y291.length co64 : Value).ownBlock) (.slice Ao61 t281.length co61) t281) := ⟨by subst h_w67; refine kR_ ?_; exact rfm_ ((Kd.R_types HO283.out BK284.out (by decide))) (fun _ hk => hk.1.2)⟩
       have n2_ : Aside0 (Kd.R (Kd.int .i64) 3 w67 w.heap.size (fun k_ => some k_ ≠ (.slice Ao61 t281.length co61 : Value).ownBlock) (.slice Ao64 y291.length co64) y291) := ⟨by subst h_w67; refine kR_ ?_; exact rfm_ ((Kd.R_types HO293.out BK284.out (by decide))) (fun _ hk => hk.1)⟩
       have n3_ : Aside0 (w67.heap[gb268]? = some (.cells #[.int .i64 a0_0, .slice A0_1 l0_1.length c0_1, .slice A0_2 l0_2.length c0_2, .slice A0_3 l0_3.length c0_3] 30 (0, 0))) := ⟨by subst h_w67; exact kf_ BK268.out⟩
       have n4_ : Aside0 (w67.heap[gb269]? = some (.cells #[.int .i64 0, .slice none 0 0, .slice none 0 0, .slice none 0 0] 30 (0, 0))) := ⟨by subst h_w67; exact kf_ BK269.out⟩
       have n5_ : Aside0 (w67.heap[gb284]? = some (.cells #[.int .i64 (wrap64 (a0_0 + 1)), .slice Ao64 y291.length co64, .slice Ao60 t278.length co60, .slice Ao61 t281.length co61] 30 (0, 0))) := ⟨by subst h_w67; refine kb_ ?_; refine blk_put (cs := #[.int .i64 t274, .slice Ao64 y291.length co64, .slice Ao60 t278.length co60, .slice Ao61 t281.length co61]) ?_ 0 _ rfl; refine kb_ ?_; refine blk_put (cs := #[.int .i64 t274, .slice Ao59 t275.length co59, .slice Ao60 t278.length co60, .slice Ao61 t281.length co61]) ?_ 1 _ rfl; refine kb_ ?_; exact BK284.out⟩
       have n6_ : Aside0 (Below w.heap.size w w67) := ⟨by subst h_w67; exact hbA_ HB.out⟩
       (try clear HO280); (try clear HO283); (try clear HO293); (try clear BK268); (try clear BK269); (try clear BK284); (try clear HB)
       (try rw [h_w67]); clear h_w67
       have HO280 := n0_; have HO283 := n1_; have HO293 := n2_; have BK268 := n3_; have BK269 := n4_; have BK284 := n5_; have HB := n6_; clear n0_ n1_ n2_ n3_ n4_ n5_ n6_; replace HO280 := Aside0.mk (Kd.S_drew HO280.out); replace HO283 := Aside0.mk (Kd.R_drew HO283.out); replace HO293 := Aside0.mk (Kd.R_drew HO293.out); replace BK268 := Aside0.mk (blk_drew BK268.out); replace BK269 := Aside0.mk (blk_drew BK269.out); replace BK284 := Aside0.mk (blk_drew BK284.out); replace HB := (bd_ HB)
       refine start_ (n := 9) (S := fun w' => w'.cell? ⟨gb284, 0, none⟩ = some (.int .i64 (wrap64 (a0_0 + 1))) ∧ w'.cell? ⟨gb284, 1, none⟩ = some (.slice Ao64 y291.length co64) ∧ w'.cell? ⟨gb284, 2, none⟩ = some (.slice Ao60 t278.length co60) ∧ w'.cell? ⟨gb284, 3, none⟩ = some (.slice Ao61 t281.length co61) ∧ w'.cell? ⟨gb268, 0, none⟩ = some (.int .i64 a0_0) ∧ w'.cell? ⟨gb268, 1, none⟩ = some (.slice A0_1 l0_1.length c0_1) ∧ w'.cell? ⟨gb268, 2, none⟩ = some (.slice A0_2 l0_2.length c0_2) ∧ w'.cell? ⟨gb268, 3, none⟩ = some (.slice A0_3 l0_3.length c0_3)) (ds := []) #[false, false, false, false, false, false, false, false, false] (by kernel_rfl) rfl rfl ⟨bc_ BK284 0, bc_ BK284 1, bc_ BK284 2, bc_ BK284 3, bc_ BK268 0, bc_ BK268 1, bc_ BK268 2, bc_ BK268 3⟩ (fun hHeld => ?_); refine with_tabW spec_ClientAsk.tab8 spec_ClientAsk.bits8 (fun HT_ HW_ => ?_)
       generalize w67.drew = w68 at HO280 HO283 HO293 BK268 BK269 BK284 HB hHeld ⊢
       refine pu_ (i := 1) (N := some 43) HT_ ?_; refine pu_ (i := 3) (N := some 45) HT_ ?_; refine tk_ (i := 0) (N := some 42) HT_ HW_ hHeld ?_; refine tk_ (i := 2) (N := some 44) HT_ HW_ hHeld ?_; refine pu_ (i := 4) (N := some 46) HT_ ?_
       refine on_ (i := 5) (N := some 47) HT_ (fun K hK => ?_)
       refine goes_ Try.func64 (by kernel_rfl) rfl #[.agg #[.int .i64 a0_0, .slice A1 l1.length c1]] (by rfl) rfl rfl ar_ ?_
       with_reducible refine (spec_WordsBytes.calls a0_0 _ _ l1 t294 _ ?side1 ?side2 A51.out).mono ?_
       (case side1 => exact kC_ (Kd.C_below HR1.out HB.out))
       (case side2 => exact HC1.out)
       rintro e w69 ⟨v295, rfl, ho0, hb⟩
       refine ⟨_, rfl, ?_⟩
       replace HO280 := Aside0.mk (Kd.S_elder' (kS_ HO280.out) (Kd.R_base ho0) hb); replace HO283 := Aside0.mk (Kd.R_below (kR_ HO283.out) hb); replace HO293 := Aside0.mk (Kd.R_below (kR_ HO293.out) hb); have HO296 := Aside0.mk (Kd.R_lower ho0 (below_size (hbA_ HB.out))); replace BK268 := (bbA_ BK268 hb); replace BK269 := (bbA_ BK269 hb); replace BK284 := (bbA_ BK284 hb); replace HB := (bs_ HB hb); (try clear hb); (try clear hb2); (try clear hk); (try clear hi); (try clear ho0)
       refine hK.out _ _ ⟨bc_ BK284 0, bc_ BK284 1, bc_ BK284 2, bc_ BK284 3, bc_ BK268 0, bc_ BK268 1, bc_ BK268 2, bc_ BK268 3⟩ (fun hHeld => ?_)
       clear hK K; refine nm_ 47 ?_
       refine on_ (i := 6) (N := none) HT_ (fun K hK => ?_)
       have hs70 : w69.cell? ⟨gb269, 0, none⟩ = some (.int .i64 0) := bc_ BK269 0
       have hfs70 := blk_frozen BK269.out 0
       have hns70_0 := NB268_269.out; have hns70_2 := NB284_269.out; have hms70_0 := NB269_268.out; have hms70_2 := NB269_284.out
       have hs71 : w69.cell? ⟨gb269, 1, none⟩ = some (.slice none 0 0) := bc_ BK269 1
       have hfs71 := blk_frozen BK269.out 1
       have hns71_0 := NB268_269.out; have hns71_2 := NB284_269.out; have hms71_0 := NB269_268.out; have hms71_2 := NB269_284.out
       have hs72 : w69.cell? ⟨gb269, 2, none⟩ = some (.slice none 0 0) := bc_ BK269 2
       have hfs72 := blk_frozen BK269.out 2
       have hns72_0 := NB268_269.out; have hns72_2 := NB284_269.out; have hms72_0 := NB269_268.out; have hms72_2 := NB269_284.out
       have hs73 : w69.cell? ⟨gb269, 3, none⟩ = some (.slice none 0 0) := bc_ BK269 3
       have hfs73 := blk_frozen BK269.out 3
       have hns73_0 := NB268_269.out; have hns73_2 := NB284_269.out; have hms73_0 := NB269_268.out; have hms73_2 := NB269_284.out
       refine skip_ (w1 := ?_) (by rfl) rfl ?_ ?_
       rotate_left
       ·go_simp
        rfl
       refine hK.out _ _ ⟨((cell_far (p := ⟨gb269, _, none⟩) NB284_269.out _).trans (((cell_far (p := ⟨gb269, _, none⟩) NB284_269.out _).trans (((cell_far (p := ⟨gb269, _, none⟩) NB284_269.out _).trans (((cell_far (p := ⟨gb269, _, none⟩) NB284_269.out _).trans (hHeld.1)))))))), ((cell_far (p := ⟨gb269, _, none⟩) NB284_269.out _).trans (((cell_far (p := ⟨gb269, _, none⟩) NB284_269.out _).trans (((cell_far (p := ⟨gb269, _, none⟩) NB284_269.out _).trans (((cell_far (p := ⟨gb269, _, none⟩) NB284_269.out _).trans (hHeld.2.1)))))))), ((cell_far (p := ⟨gb269, _, none⟩) NB284_269.out _).trans (((cell_far (p := ⟨gb269, _, none⟩) NB284_269.out _).trans (((cell_far (p := ⟨gb269, _, none⟩) NB284_269.out _).trans (((cell_far (p := ⟨gb269, _, none⟩) NB284_269.out _).trans (hHeld.2.2.1)))))))), ((cell_far (p := ⟨gb269, _, none⟩) NB284_269.out _).trans (((cell_far (p := ⟨gb269, _, none⟩) NB284_269.out _).trans (((cell_far (p := ⟨gb269, _, none⟩) NB284_269.out _).trans (((cell_far (p := ⟨gb269, _, none⟩) NB284_269.out _).trans (hHeld.2.2.2.1)))))))), ((cell_far (p := ⟨gb269, _, none⟩) NB268_269.out _).trans (((cell_far (p := ⟨gb269, _, none⟩) NB268_269.out _).trans (((cell_far (p := ⟨gb269, _, none⟩) NB268_269.out _).trans (((cell_far (p := ⟨gb269, _, none⟩) NB268_269.out _).trans (hHeld.2.2.2.2.1)))))))), ((cell_far (p := ⟨gb269, _, none⟩) NB268_269.out _).trans (((cell_far (p := ⟨gb269, _, none⟩) NB268_269.out _).trans (((cell_far (p := ⟨gb269, _, none⟩) NB268_269.out _).trans (((cell_far (p := ⟨gb269, _, none⟩) NB268_269.out _).trans (hHeld.2.2.2.2.2.1)))))))), ((cell_far (p := ⟨gb269, _, none⟩) NB268_269.out _).trans (((cell_far (p := ⟨gb269, _, none⟩) NB268_269.out _).trans (((cell_far (p := ⟨gb269, _, none⟩) NB268_269.out _).trans (((cell_far (p := ⟨gb269, _, none⟩) NB268_269.out _).trans (hHeld.2.2.2.2.2.2.1)))))))), ((cell_far (p := ⟨gb269, _, none⟩) NB268_269.out _).trans (((cell_far (p := ⟨gb269, _, none⟩) NB268_269.out _).trans (((cell_far (p := ⟨gb269, _, none⟩) NB268_269.out _).trans (((cell_far (p := ⟨gb269, _, none⟩) NB268_269.out _).trans (hHeld.2.2.2.2.2.2.2))))))))⟩ (fun hHeld => ?_)
       clear hK K; refine pu_ (i := 7) (N := some 5) HT_ ?_; refine pu_ (i := 8) (N := some 6) HT_ ?_
       refine done_ (done_of HT_.out (by kernel_rfl)) ?_
       try go_wp2
       refine bodyPost_ret (results_ctt rfl _ _ gb269 30 #[.int .i64 (wrap64 (a0_0 + 1)), .slice Ao64 y291.length co64, .slice Ao60 t278.length co60, .slice Ao61 t281.length co61] (0, 0) _ rfl (by refine kb_ ?_; refine pz4 (cs := #[.int .i64 0, .slice none 0 0, .slice none 0 0, .slice none 0 0]) ?_; refine kb_ ?_; exact BK269.out) Try.underlying30 rfl (by kernel_rfl)) rfl ?_
       exact ⟨_, _, _, _, by first | rfl | (simp [errW_none, errW_some] <;> rfl) | (simp [*, errW_none, errW_some] <;> rfl), by refine kR_ ?_; exact rfm_ ((Kd.R_types HO293.out BK269.out (by decide))) (fun _ hk => hk.1), by refine kS_ ?_; exact Kd.S_mono (Kd.S_far (p := ⟨gb269, 3, none⟩) (Kd.S_far (p := ⟨gb269, 2, none⟩) (Kd.S_far (p := ⟨gb269, 1, none⟩) (Kd.S_far (p := ⟨gb269, 0, none⟩) (Kd.S_types HO280.out BK269.out (by decide)) (fun _ hk => hk.2) (.int .i64 (wrap64 (a0_0 + 1)))) (fun _ hk => hk.2) (.slice Ao64 y291.length co64)) (fun _ hk => hk.2) (.slice Ao60 t278.length co60)) (fun _ hk => hk.2) (.slice Ao61 t281.length co61)) (fun _ hk => hk.1.2), by refine kR_ ?_; exact rfm_ ((Kd.R_types HO283.out BK269.out (by decide))) (fun _ hk => hk.1), by refine kR_ ?_; exact rfm_ ((Kd.R_types HO296.out BK269.out (by decide))) (fun _ hk => trivial), hbA_ HB.out⟩
      ·rw [if_neg c50] at H
       exact absurd H (by simp)
def IsS89 (w0 W : World) (g : Nat) (f0 : List Int) (f1 : Int) : Prop := ∃ A0 c0, W.heap[g]? = some (.cells #[.slice A0 f0.length c0, .int .i64 f1] 89 (0, 0)) ∧ w0.heap.size ≤ g ∧ Kd.C (Kd.int .u8) w0 A0 f0.length f0
theorem IsS89.grown {w0 W : World} {g : Nat} {f0 : List Int} {f1 : Int} {W1 : World} {row : Option Nat} (h : IsS89 w0 W g f0 f1) (hw : W.grownBy W1 row) (hne : some g ≠ row) : IsS89 w0 W1 g f0 f1 := by
 obtain ⟨A0, c0, hb, hg, hr0⟩ := h
 exact ⟨A0, c0, blk_grown hb hw hne, hg, hr0⟩
theorem IsS89.kept {w0 W : World} {g : Nat} {f0 : List Int} {f1 : Int} {W1 : World} {S : Nat → Prop} (h : IsS89 w0 W g f0 f1) (hk : Kept W W1 S) (hne : ¬ S g) : IsS89 w0 W1 g f0 f1 := by
 obtain ⟨A0, c0, hb, hg, hr0⟩ := h
 exact ⟨A0, c0, blk_kept hb hk hne, hg, hr0⟩
theorem IsS89.below {w0 W : World} {g : Nat} {f0 : List Int} {f1 : Int} {W1 : World} (h : IsS89 w0 W g f0 f1) (hw : Below W.heap.size W W1) : IsS89 w0 W1 g f0 f1 := h.grown (grown_of_below hw none) (by simp)
theorem IsS89.alloc {w0 W : World} {g : Nat} {f0 : List Int} {f1 : Int} (h : IsS89 w0 W g f0 f1) (o : Obj) : IsS89 w0 (W.alloc o) g f0 f1 := h.below (below_alloc (Below.refl _ _) o)
theorem IsS89.drewN {w0 W : World} {g : Nat} {f0 : List Int} {f1 : Int} (h : IsS89 w0 W g f0 f1) (m : Nat) : IsS89 w0 (W.drewN m) g f0 f1 := h
theorem IsS89.drew {w0 W : World} {g : Nat} {f0 : List Int} {f1 : Int} (h : IsS89 w0 W g f0 f1) : IsS89 w0 W.drew g f0 f1 := h
theorem IsS89.at_ {w0 W : World} {g : Nat} {f0 : List Int} {f1 : Int} {w' : World} {m : Nat} (hq : W.drewN m = w') (h : IsS89 w0 W g f0 f1) : IsS89 w0 w' g f0 f1 := by subst hq; exact IsS89.drewN h m
theorem IsS89.apart {w0 W : World} {g : Nat} {f0 : List Int} {f1 : Int} {α : Type} {d : Kd α} {e : Nat} {base : Nat} {ok : Nat → Prop} {v : Value} {xs : List α} (h : IsS89 w0 W g f0 f1) (ho : d.R e W base ok v xs) (ht : ∀ q, q ∈ e :: d.E → q ≠ 89) : d.R e W base (fun k => ok k ∧ k ≠ g) v xs := by
 obtain ⟨A0, c0, hb, hg, hr0⟩ := h
 exact Kd.R_types ho hb ht
theorem IsS89.own_ne {w0 W : World} {g : Nat} {f0 : List Int} {f1 : Int} {α : Type} {d : Kd α} {e : Nat} {base : Nat} {ok : Nat → Prop} {v : Value} {xs : List α} (h : IsS89 w0 W g f0 f1) (ho : d.R e W base ok v xs) (ht : e ≠ 89) : some g ≠ v.ownBlock := by
 obtain ⟨A0, c0, hb, hg, hr0⟩ := h
 exact Kd.R_ne ho hb ht
theorem IsS89.apartS {w0 W : World} {g : Nat} {f0 : List Int} {f1 : Int} {α : Type} {d : Kd α} {e : Nat} {base : Nat} {ok : Nat → Prop} {v : Value} {xs : List α} (h : IsS89 w0 W g f0 f1) (ho : d.S e W base ok v xs) (ht : ∀ q, q ∈ e :: d.E → q ≠ 89) : d.S e W base (fun k => ok k ∧ k ≠ g) v xs := by
 obtain ⟨A0, c0, hb, hg, hr0⟩ := h
 exact Kd.S_types ho hb ht
theorem IsS89.own_neS {w0 W : World} {g : Nat} {f0 : List Int} {f1 : Int} {α : Type} {d : Kd α} {e : Nat} {base : Nat} {ok : Nat → Prop} {v : Value} {xs : List α} (h : IsS89 w0 W g f0 f1) (ho : d.S e W base ok v xs) (ht : e ≠ 89) : some g ≠ v.ownBlock := by
 obtain ⟨A0, c0, hb, hg, hr0⟩ := h
 exact Kd.S_ne ho hb ht
theorem IsS89.lt {w0 W : World} {g : Nat} {f0 : List Int} {f1 : Int} (h : IsS89 w0 W g f0 f1) : g < W.heap.size := by
 obtain ⟨A0, c0, hb, hg, hr0⟩ := h
 exact blk_lt hb
theorem IsS89.ge {w0 W : World} {g : Nat} {f0 : List Int} {f1 : Int} (h : IsS89 w0 W g f0 f1) : w0.heap.size ≤ g := by
 obtain ⟨A0, c0, hb, hg, hr0⟩ := h
 exact hg
theorem IsS89.ne_blk {w0 W : World} {g : Nat} {f0 : List Int} {f1 : Int} {a : Nat} {cs : Array Value} {t : TypeId} {fr : Nat × Nat} (h : IsS89 w0 W g f0 f1) (hb2 : W.heap[a]? = some (.cells cs t fr)) (ht : t ≠ 89) : g ≠ a := by
 obtain ⟨A0, c0, hb, hg, hr0⟩ := h
 rintro rfl
 rw [hb] at hb2
 injection hb2 with hb2
 injection hb2 with _ ht2
 exact ht ht2.symm
theorem IsS89.far {w0 W : World} {g : Nat} {f0 : List Int} {f1 : Int} {p : Addr} (h : IsS89 w0 W g f0 f1) (hne : g ≠ p.block) (u : Value) : IsS89 w0 (W.setCell p u) g f0 f1 := by
 obtain ⟨A0, c0, hb, hg, hr0⟩ := h
 exact ⟨A0, c0, blk_far hb hne u, hg, hr0⟩
theorem cellS89_0 {W : World} {g : Nat} {A0 : Option Addr} {c0 : Nat} {f0 : List Int} {f1 : Int} (h : W.heap[g]? = some (.cells #[.slice A0 f0.length c0, .int .i64 f1] 89 (0, 0))) : W.cell? ⟨g, 0, none⟩ = some (.slice A0 f0.length c0) := (blk_cell h 0).trans rfl
theorem cellS89_1 {W : World} {g : Nat} {A0 : Option Addr} {c0 : Nat} {f0 : List Int} {f1 : Int} (h : W.heap[g]? = some (.cells #[.slice A0 f0.length c0, .int .i64 f1] 89 (0, 0))) : W.cell? ⟨g, 1, none⟩ = some (.int .i64 f1) := (blk_cell h 1).trans rfl
theorem IsS89.set_1 {w0 W : World} {g : Nat} {f0 : List Int} {f1 : Int} (h : IsS89 w0 W g f0 f1) (x : Int) : IsS89 w0 (W.setCell ⟨g, 1, none⟩ (.int .i64 x)) g f0 x := by
 obtain ⟨A0, c0, hb, hg, hr0⟩ := h
 exact ⟨A0, c0, by simpa using blk_set hb 1 (.int .i64 x), hg, hr0⟩
theorem is89_ {P Q : Prop} (q : Q) (h : Q → P := by intro q_; repeat (first | (with_reducible first | exact q_ | apply IsS89.alloc | apply IsS89.drewN | apply IsS89.drew | apply IsS89.set_1 | refine IsS89.far ?_ (Aside0.out (by assumption)) _) | exact q_)) : P := h q
theorem hb89_ {P Q : Prop} (q : Q) (h : Q → P := by intro q_; repeat (first | (with_reducible first | exact q_ | apply below_alloc | apply pw_below_drewN | apply below_drew1 | refine below_set ?_ (Aside0.out (by assumption)) | refine below_set ?_ (IsS89.ge (Aside0.out (by assumption)))) | exact q_)) : P := h q
theorem bs89_ {w W W0 W2 : World} (HB : Aside0 (Below w.heap.size w W0)) (hb : Below W.heap.size W W2) (t : Below w.heap.size w W0 → Below w.heap.size w W := by intro q_; repeat (first | (with_reducible first | exact q_ | apply below_alloc | apply pw_below_drewN | apply below_drew1 | refine below_set ?_ (Aside0.out (by assumption)) | refine below_set ?_ (IsS89.ge (Aside0.out (by assumption)))) | exact q_)) : Aside0 (Below w.heap.size w W2) := ⟨below_step (t HB.out) hb⟩
theorem nl89_ {w0 W W0 : World} {g g2 : Nat} {f0 : List Int} {f1 : Int} {g0 : List Int} {g1 : Int} (hg : g2 = W.heap.size) (h : Aside0 (IsS89 w0 W0 g f0 f1)) (t : IsS89 w0 W0 g f0 f1 → IsS89 w0 W g g0 g1 := by intro q_; repeat (first | (with_reducible first | exact q_ | apply IsS89.alloc | apply IsS89.drewN | apply IsS89.drew | apply IsS89.set_1 | refine IsS89.far ?_ (Aside0.out (by assumption)) _) | exact q_)) : Aside0 (g ≠ g2) := ⟨hg ▸ Nat.ne_of_lt (IsS89.lt (t h.out))⟩
theorem ng89_ {w0 W W0 : World} {g g2 : Nat} {f0 : List Int} {f1 : Int} {g0 : List Int} {g1 : Int} (hg : g2 = W.heap.size) (h : Aside0 (IsS89 w0 W0 g f0 f1)) (t : IsS89 w0 W0 g f0 f1 → IsS89 w0 W g g0 g1 := by intro q_; repeat (first | (with_reducible first | exact q_ | apply IsS89.alloc | apply IsS89.drewN | apply IsS89.drew | apply IsS89.set_1 | refine IsS89.far ?_ (Aside0.out (by assumption)) _) | exact q_)) : Aside0 (g2 ≠ g) := ⟨hg ▸ Nat.ne_of_gt (IsS89.lt (t h.out))⟩
theorem ib89_ {w0 W W0 W2 : World} {g : Nat} {f0 : List Int} {f1 : Int} {g0 : List Int} {g1 : Int} (h : Aside0 (IsS89 w0 W0 g f0 f1)) (hb : Below W.heap.size W W2) (t : IsS89 w0 W0 g f0 f1 → IsS89 w0 W g g0 g1 := by intro q_; repeat (first | (with_reducible first | exact q_ | apply IsS89.alloc | apply IsS89.drewN | apply IsS89.drew | apply IsS89.set_1 | refine IsS89.far ?_ (Aside0.out (by assumption)) _) | exact q_)) : Aside0 (IsS89 w0 W2 g g0 g1) := ⟨IsS89.below (t h.out) hb⟩
theorem rk89_ {w0 W0 W1 W W2 : World} {g : Nat} {f0 : List Int} {f1 : Int} {g0 : List Int} {g1 : Int} {α : Type} {d : Kd α} {e : Nat} {base : Nat} {ok : Nat → Prop} {v : Value} {xs : List α} (h : Aside0 (IsS89 w0 W0 g f0 f1)) (ho : Aside0 (d.R e W1 base ok v xs)) (hk : KeepBut W W2 g none) (t : IsS89 w0 W0 g f0 f1 → IsS89 w0 W g g0 g1 := by intro q_; repeat (first | (with_reducible first | exact q_ | apply IsS89.alloc | apply IsS89.drewN | apply IsS89.drew | apply IsS89.set_1 | refine IsS89.far ?_ (Aside0.out (by assumption)) _) | exact q_)) (s : d.R e W1 base ok v xs → d.R e W base ok v xs := by intro q_; (with_reducible repeat (first | apply Kd.R_alloc | apply Kd.R_drewN | apply Kd.R_drew)); exact q_) (ht : ∀ q, q ∈ e :: d.E → q ≠ 89 := by decide) : Aside0 (d.R e W2 base ok v xs) := ⟨Kd.R_mono (Kd.R_keep (IsS89.apart (t h.out) (s ho.out) ht) hk (fun _ h => h.2)) (fun _ h => h.1)⟩
def spec_l20Rd_pick.j0 : Nat → Int → Bool → List Int → Int → Option (Int × Int)
 | 0, _, _, _, _ => none
 | k + 1, x1, x24, x1000, x1001 => if x24 = true then (some (0, x1001)) else (if (wrap64 (x1001 - 1)) < (x1000.length : Int) then (if 0 ≤ (wrap64 (x1001 - 1)) then (if x1 = 0 then (none) else (some (Int.tmod (wrap64 (rd x1000 (wrap64 (x1001 - 1)))) x1, x1001))) else (none)) else (if (x1000.length : Int) = 0 then (none) else (if 0 ≤ (Int.tmod (wrap64 (x1001 - 1)) (x1000.length : Int)) then (if (Int.tmod (wrap64 (x1001 - 1)) (x1000.length : Int)) < (x1000.length : Int) then (if 0 ≤ (Int.tmod (wrap64 ((wrap64 ((wrap64 (x1001 - 1)) * 7)) + 3)) (x1000.length : Int)) then (if (Int.tmod (wrap64 ((wrap64 ((wrap64 (x1001 - 1)) * 7)) + 3)) (x1000.length : Int)) < (x1000.length : Int) then (if x1 = 0 then (none) else (some (Int.tmod (Go.bits .xor .i64 (wrap64 ((wrap64 ((wrap64 ((wrap64 ((wrap64 (rd x1000 (Int.tmod (wrap64 (x1001 - 1)) (x1000.length : Int)))) * 131)) + (wrap64 ((wrap64 (rd x1000 (Int.tmod (wrap64 ((wrap64 ((wrap64 (x1001 - 1)) * 7)) + 3)) (x1000.length : Int)))) * 1117)))) + (wrap64 ((wrap64 (x1001 - 1)) * 29)))) + (wrap64 ((wrap64 (Int.tdiv (wrap64 (x1001 - 1)) (x1000.length : Int))) * 53)))) (wrap64 (Int.tdiv (wrap64 ((wrap64 ((wrap64 ((wrap64 ((wrap64 (rd x1000 (Int.tmod (wrap64 (x1001 - 1)) (x1000.length : Int)))) * 131)) + (wrap64 ((wrap64 (rd x1000 (Int.tmod (wrap64 ((wrap64 ((wrap64 (x1001 - 1)) * 7)) + 3)) (x1000.length : Int)))) * 1117)))) + (wrap64 ((wrap64 (x1001 - 1)) * 29)))) + (wrap64 ((wrap64 (Int.tdiv (wrap64 (x1001 - 1)) (x1000.length : Int))) * 53)))) 64))) x1, x1001))) else (none)) else (none)) else (none)) else (none))))
def spec_l20Rd_pick.f (k : Nat) (s0_0 : List Int) (s0_1 : Int) (a1 : Int) : Option (Int × Int) := if a1 < 1 then (spec_l20Rd_pick.j0 k a1 true s0_0 (wrap64 (s0_1 + 1))) else (spec_l20Rd_pick.j0 k a1 ((s0_0.length : Int) == 0) s0_0 (wrap64 (s0_1 + 1)))
theorem spec_l20Rd_pick.mono_l : ∀ k, (∀ y0 y1 y2 y3, LeO (spec_l20Rd_pick.j0 k y0 y1 y2 y3) (spec_l20Rd_pick.j0 (k + 1) y0 y1 y2 y3))
 | 0 => fun _ _ _ _ r h => by simp [spec_l20Rd_pick.j0] at h
 | k + 1 => by
  have ih0 := spec_l20Rd_pick.mono_l k
  ·intro y0 y1 y2 y3
   unfold spec_l20Rd_pick.j0
   repeat' first | (with_reducible first | apply ih0 | exact LeO.refl _ | exact LeO.none _ | refine LeO.ite ?_ ?_ | refine LeO.bind ?_ fun _ => ?_) | apply ih0 | exact LeO.none _ | refine LeO.ite ?_ ?_ | refine LeO.bind ?_ fun _ => ?_
theorem spec_l20Rd_pick.mono : ∀ a0 a1 a2 k, LeO (spec_l20Rd_pick.f k a0 a1 a2) (spec_l20Rd_pick.f (k + 1) a0 a1 a2) := by
 intro a0 a1 a2 k
 have ih0 := spec_l20Rd_pick.mono_l k
 unfold spec_l20Rd_pick.f
 repeat' first | (with_reducible first | apply ih0 | exact LeO.refl _ | exact LeO.none _ | refine LeO.ite ?_ ?_ | refine LeO.bind ?_ fun _ => ?_) | apply ih0 | exact LeO.none _ | refine LeO.ite ?_ ?_ | refine LeO.bind ?_ fun _ => ?_
set_option maxHeartbeats 8000000 in
set_option maxRecDepth 100000 in
theorem spec_l20Rd_pick.calls (k : Nat) (g : Nat) (s0_0 : List Int) (s0_1 : Int) (a1 : Int) (r1 : Int) (r2 : Int) (w0 w : World) (hI : IsS89 w0 w g s0_0 s0_1) (hB : Below w0.heap.size w0 w) (h : spec_l20Rd_pick.f k s0_0 s0_1 a1 = some (r1, r2)) :
  Calls Try.prog 62 #[.pointer (some ⟨g, 0, none⟩), .int .i64 a1] w fun e w' => e = .returned (.int .i64 r1) ∧ IsS89 w0 w' g s0_0 r2 ∧ Below w0.heap.size w0 w' ∧ KeepBut w w' g none := by
 have HI0 := Aside0.mk hI
 have HK := Aside0.mk (KeepBut.refl w g none)
 have HL := Aside0.mk hB.size; clear hI; have HW0 := Aside0.mk hB.size; have HB := Aside0.mk hB; clear hB
 have H : (if a1 < 1 then (spec_l20Rd_pick.j0 k a1 true s0_0 (wrap64 (s0_1 + 1))) else (spec_l20Rd_pick.j0 k a1 ((s0_0.length : Int) == 0) s0_0 (wrap64 (s0_1 + 1)))) = some (r1, r2) := h
 clear h; have HC3 := Aside0.mk H; clear H
 obtain ⟨ASz4_0, cSz4_0, HGz4, hgz4, HSz4_0⟩ := HI0.out
 have hcz4_0 := cellS89_0 HGz4
 have hcz4_1 := cellS89_1 HGz4
 have hfz4_1 := blk_frozen HGz4 1; clear HGz4 hgz4
 go_enter Try.func62, Try.ntmps62
 go_upto_region 2 with (fail)
 repeat (go_quiet (fail); go_upto_region 2 with (fail))
 go_cut [24] (fun v24 wc => ∃ (kq : Nat) (x24_2 : Bool), v24 = .bool x24_2 ∧ Aside0 (spec_l20Rd_pick.j0 kq a1 x24_2 s0_0 (wrap64 (s0_1 + 1)) = some (r1, r2)) ∧ Aside0 (kq ≤ k) ∧ Aside0 (IsS89 w0 wc g s0_0 (wrap64 (s0_1 + 1))) ∧ Aside0 (KeepBut w wc g none) ∧ Aside0 (Below w0.heap.size w0 wc))
 case first =>
  have H := HC3.out; clear HC3
  by_cases c5 : a1 < 1
  ·rw [if_pos c5] at H
   have c5b0 : decide (a1 < 1) = true := decide_eq_true c5
   clear c5
   (first | rw [c5b0] | (simp only [i64_w, i32_w]; rw [c5b0]) | skip)
   have H' := Aside0.mk H
   clear H
   go_wp2
   repeat (go_quiet (fail); try go_wp2)
   go_meet
   case rel => exact ⟨_, (true), (by first | rfl | (simp; done) | (simp [*]; done)), H', ⟨by first | omega | exact Nat.le_refl _⟩, ⟨is89_ HI0.out⟩, ⟨hkA_ HK.out⟩, ⟨hb89_ HB.out⟩⟩
  ·rw [if_neg c5] at H
   have c5b0 : decide (a1 < 1) = false := decide_eq_false c5
   clear c5
   (first | rw [c5b0] | (simp only [i64_w, i32_w]; rw [c5b0]) | skip)
   have H' := Aside0.mk H
   clear H
   obtain ⟨ASz6_0, cSz6_0, HGz6, hgz6, HSz6_0⟩ := HI0.out
   have hcz6_0 := cellS89_0 HGz6
   have hcz6_1 := cellS89_1 HGz6
   have hfz6_1 := blk_frozen HGz6 1; clear HGz6 hgz6
   go_wp2
   repeat (go_quiet (fail); try go_wp2)
   go_meet
   case rel => exact ⟨_, (((s0_0.length : Int) == 0)), (by first | rfl | (simp; done) | (simp [*]; done)), H', ⟨by first | omega | exact Nat.le_refl _⟩, ⟨is89_ HI0.out⟩, ⟨hkA_ HK.out⟩, ⟨hb89_ HB.out⟩⟩
 case rest =>
  clear HC3; (try clear p2); (try clear c5); (try clear c5b0); (try clear c6); (try clear p6); (try clear hcz4_0); (try clear hcz4_1); (try clear hcz6_0); (try clear hcz6_1); (try clear hfz4_1); (try clear hfz6_1)
  obtain ⟨kq, x24_2, rfl, HA, HJ2, HI0, HK, HB⟩ := hcut
  cases kq with
  | zero => exact absurd HA.out (by simp [spec_l20Rd_pick.j0])
  | succ kj2 =>
   have H := HA.out; clear HA
   simp only [spec_l20Rd_pick.j0] at H
   by_cases c7 : x24_2 = true
   ·subst c7
    rw [if_pos rfl] at H
    simp only [Option.some.injEq, Prod.mk.injEq] at H
    obtain ⟨rfl, rfl⟩ := H
    go_wp2
    repeat (go_quiet (fail); try go_wp2)
    go_ret
    exact ⟨by first | rfl | (simp [errW_none, errW_some] <;> rfl) | (simp [*, errW_none, errW_some] <;> rfl), is89_ HI0.out, hb89_ HB.out, hkA_ HK.out⟩
   ·replace c7 := Bool.eq_false_iff.mpr c7
    subst c7
    rw [if_neg (show ¬ (false = true) by decide)] at H
    by_cases c8 : (wrap64 ((wrap64 (s0_1 + 1)) - 1)) < (s0_0.length : Int)
    ·rw [if_pos c8] at H
     have c8b0 : decide ((wrap64 ((wrap64 (s0_1 + 1)) - 1)) < (s0_0.length : Int)) = true := decide_eq_true c8
     clear c8
     obtain ⟨ji9, hji9⟩ : ∃ j_ : Int, (wrap64 ((wrap64 (s0_1 + 1)) - 1)) = j_ := ⟨_, rfl⟩
     (first | rw [hji9] at H | simp only [hji9] at H)
     (try rw [hji9] at c8b0)
     have hji9w : (IntKind.i64.wrap ((wrap64 (s0_1 + 1)) - 1)) = ji9 := (i64_w _).trans hji9
     by_cases c10 : 0 ≤ (ji9)
     ·rw [if_pos c10] at H
      have c10b0 : decide (0 ≤ (ji9)) = true := decide_eq_true c10
      clear c10
      by_cases c11 : a1 = 0
      ·rw [if_pos c11] at H
       exact absurd H (by simp)
      ·rw [if_neg c11] at H
       have c11b0 : (a1 == 0) = false := beq_eq_false_iff_ne.mpr c11
       have c11b1 : (a1 != 0) = true := bne_iff_ne.mpr c11
       simp only [Option.some.injEq, Prod.mk.injEq] at H
       obtain ⟨rfl, rfl⟩ := H
       obtain ⟨ASz12_0, cSz12_0, HGz12, hgz12, HSz12_0⟩ := HI0.out
       have hcz12_0 := cellS89_0 HGz12
       have hcz12_1 := cellS89_1 HGz12
       have hfz12_1 := blk_frozen HGz12 1; clear HGz12 hgz12
       have p297 : 0 ≤ ((ji9) : Int) := of_decide_eq_true (by first | (with_reducible assumption) | assumption)
       have q297 : (ji9) < (s0_0.length : Int) := of_decide_eq_true (by first | (with_reducible assumption) | assumption)
       obtain ⟨ad297, e297, hx297_0⟩ := Kd.at_int HSz12_0 (ji9) p297 q297
       cases e297
       replace hx297_0 := pw_cell_below HB.out hx297_0
       replace p297 := eq_true p297
       replace q297 := eq_true q297
       go_wp2
       repeat (go_quiet (fail); try go_wp2)
       go_ret
       exact ⟨by first | rfl | (simp [errW_none, errW_some] <;> rfl) | (simp only [← hji9]; first | rfl | (simp [errW_none, errW_some] <;> rfl)) | (simp [*, errW_none, errW_some] <;> rfl), is89_ HI0.out, hb89_ HB.out, hkA_ HK.out⟩
     ·rw [if_neg c10] at H
      exact absurd H (by simp)
    ·rw [if_neg c8] at H
     have c8b0 : decide ((wrap64 ((wrap64 (s0_1 + 1)) - 1)) < (s0_0.length : Int)) = false := decide_eq_false c8
     clear c8
     by_cases c13 : (s0_0.length : Int) = 0
     ·rw [if_pos c13] at H
      exact absurd H (by simp)
     ·rw [if_neg c13] at H
      have c13b0 : ((s0_0.length : Int) == 0) = false := beq_eq_false_iff_ne.mpr c13
      have c13b1 : ((s0_0.length : Int) != 0) = true := bne_iff_ne.mpr c13
      have c13b2 : ¬ (s0_0 = []) := fun h_ => c13 (by rw [h_]; rfl)
      obtain ⟨ji14, hji14⟩ : ∃ j_ : Int, (Int.tmod (wrap64 ((wrap64 (s0_1 + 1)) - 1)) (s0_0.length : Int)) = j_ := ⟨_, rfl⟩
      (first | rw [hji14] at H | simp only [hji14] at H)
      by_cases c15 : 0 ≤ (ji14)
      ·rw [if_pos c15] at H
       have c15b0 : decide (0 ≤ (ji14)) = true := decide_eq_true c15
       clear c15
       by_cases c16 : (ji14) < (s0_0.length : Int)
       ·rw [if_pos c16] at H
        have c16b0 : decide ((ji14) < (s0_0.length : Int)) = true := decide_eq_true c16
        clear c16
        obtain ⟨ji17, hji17⟩ : ∃ j_ : Int, (Int.tmod (wrap64 ((wrap64 ((wrap64 ((wrap64 (s0_1 + 1)) - 1)) * 7)) + 3)) (s0_0.length : Int)) = j_ := ⟨_, rfl⟩
        (first | rw [hji17] at H | simp only [hji17] at H)
        by_cases c18 : 0 ≤ (ji17)
        ·rw [if_pos c18] at H
         have c18b0 : decide (0 ≤ (ji17)) = true := decide_eq_true c18
         clear c18
         by_cases c19 : (ji17) < (s0_0.length : Int)
         ·rw [if_pos c19] at H
          have c19b0 : decide ((ji17) < (s0_0.length : Int)) = true := decide_eq_true c19
          clear c19
          by_cases c20 : a1 = 0
          ·rw [if_pos c20] at H
           exact absurd H (by simp)
          ·rw [if_neg c20] at H
           have c20b0 : (a1 == 0) = false := beq_eq_false_iff_ne.mpr c20
           have c20b1 : (a1 != 0) = true := bne_iff_ne.mpr c20
           simp only [Option.some.injEq, Prod.mk.injEq] at H
           obtain ⟨rfl, rfl⟩ := H
           obtain ⟨ASz21_0, cSz21_0, HGz21, hgz21, HSz21_0⟩ := HI0.out
           have hcz21_0 := cellS89_0 HGz21
           have hcz21_1 := cellS89_1 HGz21
           have hfz21_1 := blk_frozen HGz21 1; clear HGz21 hgz21
           have p298 : 0 ≤ ((ji14) : Int) := of_decide_eq_true (by first | (with_reducible assumption) | assumption)
           have q298 : (ji14) < (s0_0.length : Int) := of_decide_eq_true (by first | (with_reducible assumption) | assumption)
           obtain ⟨ad298, e298, hx298_0⟩ := Kd.at_int HSz21_0 (ji14) p298 q298
           cases e298
           replace hx298_0 := pw_cell_below HB.out hx298_0
           replace p298 := eq_true p298
           replace q298 := eq_true q298
           have p299 : 0 ≤ ((ji17) : Int) := of_decide_eq_true (by first | (with_reducible assumption) | assumption)
           have q299 : (ji17) < (s0_0.length : Int) := of_decide_eq_true (by first | (with_reducible assumption) | assumption)
           obtain ⟨ad299, e299, hx299_0⟩ := Kd.at_int HSz21_0 (ji17) p299 q299
           obtain rfl : ad298 = ad299 := (by injection e299)
           replace hx299_0 := pw_cell_below HB.out hx299_0
           replace p299 := eq_true p299
           replace q299 := eq_true q299
           go_wp2
           repeat (go_quiet (fail); try go_wp2)
           go_ret
           exact ⟨by first | rfl | (simp [errW_none, errW_some] <;> rfl) | (simp only [← hji14, ← hji17]; first | rfl | (simp [errW_none, errW_some] <;> rfl)) | (simp [*, errW_none, errW_some] <;> rfl), is89_ HI0.out, hb89_ HB.out, hkA_ HK.out⟩
         ·rw [if_neg c19] at H
          exact absurd H (by simp)
        ·rw [if_neg c18] at H
         exact absurd H (by simp)
       ·rw [if_neg c16] at H
        exact absurd H (by simp)
      ·rw [if_neg c15] at H
       exact absurd H (by simp)
def spec_l20Rd_bytes.l0 : Nat → Int → List Int → List Int → Int → Option (List Int × Int)
 | 0, _, _, _, _ => none
 | k + 1, x1, x5, x1000, x1001 => if x1 > 0 then ((spec_l20Rd_pick.f k x1000 x1001 3).bind fun bt303 => (if bt303.1 = 0 then ((spec_l20Rd_pick.f k x1000 bt303.2 256).bind fun bt305 => (if x5.length < 140737488355328 then (spec_l20Rd_bytes.l0 k (wrap64 (x1 - 1)) (x5 ++ [(bt305.1) % 256]) x1000 bt305.2) else (none))) else ((spec_l20Rd_pick.f k x1000 bt303.2 3).bind fun bt310 => (if x5.length < 140737488355328 then (spec_l20Rd_bytes.l0 k (wrap64 (x1 - 1)) (x5 ++ [(wrap64 (bt310.1 + 97)) % 256]) x1000 bt310.2) else (none))))) else (some (x5, x1001))
def spec_l20Rd_bytes.f (k : Nat) (s0_0 : List Int) (s0_1 : Int) (a1 : Int) : Option (List Int × Int) := spec_l20Rd_bytes.l0 k a1 (([] : List Int)) s0_0 s0_1
theorem spec_l20Rd_bytes.mono_l : ∀ k, (∀ y0 y1 y2 y3, LeO (spec_l20Rd_bytes.l0 k y0 y1 y2 y3) (spec_l20Rd_bytes.l0 (k + 1) y0 y1 y2 y3))
 | 0 => fun _ _ _ _ r h => by simp [spec_l20Rd_bytes.l0] at h
 | k + 1 => by
  have ih0 := spec_l20Rd_bytes.mono_l k
  ·intro y0 y1 y2 y3
   unfold spec_l20Rd_bytes.l0
   repeat' first | (with_reducible first | apply ih0 | apply spec_l20Rd_pick.mono | exact LeO.refl _ | exact LeO.none _ | refine LeO.ite ?_ ?_ | refine LeO.bind ?_ fun _ => ?_) | apply ih0 | apply spec_l20Rd_pick.mono | exact LeO.none _ | refine LeO.ite ?_ ?_ | refine LeO.bind ?_ fun _ => ?_
theorem spec_l20Rd_bytes.mono : ∀ a0 a1 a2 k, LeO (spec_l20Rd_bytes.f k a0 a1 a2) (spec_l20Rd_bytes.f (k + 1) a0 a1 a2) := by
 intro a0 a1 a2 k
 have ih0 := spec_l20Rd_bytes.mono_l k
 unfold spec_l20Rd_bytes.f
 repeat' first | (with_reducible first | apply ih0 | apply spec_l20Rd_pick.mono | exact LeO.refl _ | exact LeO.none _ | refine LeO.ite ?_ ?_ | refine LeO.bind ?_ fun _ => ?_) | apply ih0 | apply spec_l20Rd_pick.mono | exact LeO.none _ | refine LeO.ite ?_ ?_ | refine LeO.bind ?_ fun _ => ?_
set_option maxHeartbeats 8000000 in
set_option maxRecDepth 100000 in
theorem spec_l20Rd_bytes.calls (k : Nat) (g : Nat) (s0_0 : List Int) (s0_1 : Int) (a1 : Int) (r1 : List Int) (r2 : Int) (w0 w : World) (hI : IsS89 w0 w g s0_0 s0_1) (hB : Below w0.heap.size w0 w) (h : spec_l20Rd_bytes.f k s0_0 s0_1 a1 = some (r1, r2)) :
  Calls Try.prog 61 #[.pointer (some ⟨g, 0, none⟩), .int .i64 a1] w fun e w' => ∃ v0_ : Value, e = .returned (v0_) ∧ Kd.R (Kd.int .u8) 5 w' w.heap.size (fun _ => True) v0_ r1 ∧ IsS89 w0 w' g s0_0 r2 ∧ Below w0.heap.size w0 w' ∧ KeepBut w w' g none := by
 have HI0 := Aside0.mk hI
 have HK := Aside0.mk (KeepBut.refl w g none)
 have HL := Aside0.mk hB.size; clear hI; have HW0 := Aside0.mk hB.size; have HB := Aside0.mk hB; clear hB
 have H : (spec_l20Rd_bytes.l0 k a1 (([] : List Int)) s0_0 s0_1) = some (r1, r2) := h
 clear h
 obtain ⟨y300, hy300⟩ : ∃ y_ : List Int, y_ = (([] : List Int)) := ⟨_, rfl⟩
 (first | replace H := sb_ hy300 H | rw [← hy300] at H)
 have Ny300 := Aside0.mk hy300; clear hy300
 have H' := Aside0.mk H
 clear H
 go_enter Try.func61, Try.ntmps61
 go_wp2_with (first | ((with_reducible refine gate_dst (N := 6) rfl ?_); refine Kd.R_lit (Kd.int .u8) _ 5 ?hg (N := 6) ?hd (xs := ([] : List Int)) (inner := []) (ok := fun _ => True) (okp := fun _ => True) ?hr ?hp (fun _ hk => hk) trivial (Below.refl _ _) (Nat.le_refl _) (by simp) ?_; (case hd => rfl); (case hg => rfl); (case hr => first | (go_simp; done) | (go_simp; rfl)); (case hp => exact (Reps.none _ _)); intro v301 w3 ho4 hb hg_ hnew_; clear hg_ hnew_; (first | rw [← Ny300.out] at ho4 | (simp only [Int.reduceToNat] at ho4; rw [← Ny300.out] at ho4)); have HO302 := Aside0.mk (Kd.R_lower ho4 (keep_size (w := w) (g := g) (row := none) (hkA_ HK.out))); replace HI0 := (ib89_ HI0 hb); replace HK := (kw_ HK hb); replace HB := (bs89_ HB hb); clear hb ho4))
 go_loopg [1, 5] k (fun kq v1 v5 w' => ∃ (x1_1 : Int) (x5_1 : List Int) (x1001_1 : Int), v1 = .int .i64 x1_1 ∧ Aside0 (spec_l20Rd_bytes.l0 kq x1_1 x5_1 s0_0 x1001_1 = some (r1, r2)) ∧ Aside0 (kq ≤ k) ∧ Aside0 (Kd.R (Kd.int .u8) 5 w' w.heap.size (fun _ => True) v5 x5_1) ∧ Aside0 (IsS89 w0 w' g s0_0 x1001_1) ∧ Aside0 (KeepBut w w' g none) ∧ Aside0 (Below w0.heap.size w0 w'))
 case atStart => exact ⟨(a1), (y300), (s0_1), (by first | rfl | (simp; done) | (simp [*]; done)), H', ⟨Nat.le_refl _⟩, ⟨kR_ HO302.out⟩, ⟨is89_ HI0.out⟩, ⟨hkA_ HK.out⟩, ⟨hb89_ HB.out⟩⟩
 case round =>
  clear H'; (try clear p2)
  obtain ⟨x1_1, x5_1, x1001_1, rfl, HA, HK1, HO_5, HI0, HK, HB⟩ := hrel
  cases gk with
  | zero => exact absurd HA.out (by simp [spec_l20Rd_bytes.l0])
  | succ k1 =>
   have H := HA.out; clear HA
   simp only [spec_l20Rd_bytes.l0] at H
   by_cases c5 : x1_1 > 0
   ·rw [if_pos c5] at H
    have c5b0 : decide (0 < x1_1) = true := decide_eq_true c5
    clear c5
    replace H := Option.bind_eq_some_iff.mp H
    obtain ⟨⟨t303, t304⟩, A60, H⟩ := H
    (try dsimp only at H)
    have A6 := Aside0.mk A60; clear A60
    by_cases c7 : t303 = 0
    ·rw [if_pos c7] at H
     have c7b0 : (t303 == 0) = true := beq_iff_eq.mpr c7
     have c7b1 : (t303 != 0) = false := bne_eq_false_iff_eq.mpr c7
     clear c7
     replace H := Option.bind_eq_some_iff.mp H
     obtain ⟨⟨t305, t306⟩, A80, H⟩ := H
     (try dsimp only at H)
     have A8 := Aside0.mk A80; clear A80
     by_cases c9 : x5_1.length < 140737488355328
     ·rw [if_pos c9] at H
      have LMc9 := Aside0.mk c9; clear c9
      obtain ⟨y307, hy307⟩ : ∃ y_ : List Int, y_ = (x5_1 ++ [(t305) % 256]) := ⟨_, rfl⟩
      (first | replace H := sb_ hy307 H | rw [← hy307] at H)
      have Ny307 := Aside0.mk hy307; clear hy307
      have H' := Aside0.mk H
      clear H
      go_wp2_with (first | ((with_reducible refine gate_callee (f := 62) rfl ?_); refine goesL_ (some 12) rfl rfl Try.func62 (by kernel_rfl) rfl #[.pointer (some ⟨g, 0, none⟩), .int .i64 3] rfl ar_ ?_; (with_reducible refine (spec_l20Rd_pick.calls k1 g s0_0 x1001_1 3 t303 t304 w0 _ ?side1 ?side2 A6.out).mono ?_); (case side1 => exact is89_ HI0.out); (case side2 => exact hb89_ HB.out); rintro e w10 ⟨rfl, hi, hb, hk⟩; refine ⟨_, rfl, ?_⟩; replace HO_5 := (rk89_ HI0 HO_5 hk); replace HK := (kk_ HK hk); replace HB := Aside0.mk (hb); replace HI0 := Aside0.mk (hi); (try clear hb); (try clear hb2); (try clear hk); (try clear hi)) | ((with_reducible refine gate_callee (f := 62) rfl ?_); refine goesL_ (some 16) rfl rfl Try.func62 (by kernel_rfl) rfl #[.pointer (some ⟨g, 0, none⟩), .int .i64 256] rfl ar_ ?_; (with_reducible refine (spec_l20Rd_pick.calls k1 g s0_0 t304 256 t305 t306 w0 _ ?side1 ?side2 A8.out).mono ?_); (case side1 => exact is89_ HI0.out); (case side2 => exact hb89_ HB.out); rintro e w11 ⟨rfl, hi, hb, hk⟩; refine ⟨_, rfl, ?_⟩; replace HO_5 := (rk89_ HI0 HO_5 hk); replace HK := (kk_ HK hk); replace HB := Aside0.mk (hb); replace HI0 := Aside0.mk (hi); (try clear hb); (try clear hb2); (try clear hk); (try clear hi)) | ((with_reducible refine gate_builtin (b := .append) (xs := #[.tmp 14, .tmp 18]) rfl ?_); at_builtin; refine Kd.R_append (Kd.int .u8) w.heap.size rfl (.tmp 14) (.tmp 18) 34 5 (.int .u8 0) 1 rfl Try.underlying34 info5 rfl (by decide) (by omega) u5 x5_1 ((t305) % 256) [.int .u8 ((t305) % 256)] (fun _ => True) (fun _ => False) rfl rfl ?aP (fun _ hk => hk.elim) ?aF ?aO (Below.refl _ _) ?aS ?aL ?_; (case aP => exact rfl); (case aF => exact (fun _ _ => trivial)); (case aO => exact (kR_ HO_5.out)); (case aS => exact (keep_size (w := w) (g := g) (row := none) (hkA_ HK.out))); (case aL => have := LMc9.out; omega); intro v308 w12 ho hb hg hat; rw [← Ny307.out] at ho; replace HI0 := Aside0.mk (IsS89.grown (is89_ HI0.out) hg (IsS89.own_ne HI0.out HO_5.out (by decide))); replace HB := Aside0.mk (below_weaken (hb89_ HB.out) HL.out hb); replace HK := Aside0.mk (KeepBut.trans (hkA_ HK.out) (KeepBut.of_grown hg g) (Kd.R_base2 HO_5.out)); have HO309 := Aside0.mk (ho); clear HO_5; clear ho hb hg hat))
      go_roundg k1
      case measure => have := HK1.out; omega
      case rel => exact ⟨(wrap64 (x1_1 - 1)), (y307), (t306), (by first | rfl | (simp; done) | (simp [*]; done)), H', ⟨by have := HK1.out; omega⟩, ⟨kR_ HO309.out⟩, ⟨is89_ HI0.out⟩, ⟨hkA_ HK.out⟩, ⟨hb89_ HB.out⟩⟩
     ·rw [if_neg c9] at H
      exact absurd H (by simp)
    ·rw [if_neg c7] at H
     have c7b0 : (t303 == 0) = false := beq_eq_false_iff_ne.mpr c7
     have c7b1 : (t303 != 0) = true := bne_iff_ne.mpr c7
     replace H := Option.bind_eq_some_iff.mp H
     obtain ⟨⟨t310, t311⟩, A130, H⟩ := H
     (try dsimp only at H)
     have A13 := Aside0.mk A130; clear A130
     by_cases c14 : x5_1.length < 140737488355328
     ·rw [if_pos c14] at H
      have LMc14 := Aside0.mk c14; clear c14
      obtain ⟨y312, hy312⟩ : ∃ y_ : List Int, y_ = (x5_1 ++ [(wrap64 (t310 + 97)) % 256]) := ⟨_, rfl⟩
      (first | replace H := sb_ hy312 H | rw [← hy312] at H)
      have Ny312 := Aside0.mk hy312; clear hy312
      have H' := Aside0.mk H
      clear H
      go_wp2_with (first | ((with_reducible refine gate_callee (f := 62) rfl ?_); refine goesL_ (some 12) rfl rfl Try.func62 (by kernel_rfl) rfl #[.pointer (some ⟨g, 0, none⟩), .int .i64 3] rfl ar_ ?_; (with_reducible refine (spec_l20Rd_pick.calls k1 g s0_0 x1001_1 3 t303 t304 w0 _ ?side1 ?side2 A6.out).mono ?_); (case side1 => exact is89_ HI0.out); (case side2 => exact hb89_ HB.out); rintro e w15 ⟨rfl, hi, hb, hk⟩; refine ⟨_, rfl, ?_⟩; replace HO_5 := (rk89_ HI0 HO_5 hk); replace HK := (kk_ HK hk); replace HB := Aside0.mk (hb); replace HI0 := Aside0.mk (hi); (try clear hb); (try clear hb2); (try clear hk); (try clear hi)) | ((with_reducible refine gate_callee (f := 62) rfl ?_); refine goesL_ (some 22) rfl rfl Try.func62 (by kernel_rfl) rfl #[.pointer (some ⟨g, 0, none⟩), .int .i64 3] rfl ar_ ?_; (with_reducible refine (spec_l20Rd_pick.calls k1 g s0_0 t304 3 t310 t311 w0 _ ?side1 ?side2 A13.out).mono ?_); (case side1 => exact is89_ HI0.out); (case side2 => exact hb89_ HB.out); rintro e w16 ⟨rfl, hi, hb, hk⟩; refine ⟨_, rfl, ?_⟩; replace HO_5 := (rk89_ HI0 HO_5 hk); replace HK := (kk_ HK hk); replace HB := Aside0.mk (hb); replace HI0 := Aside0.mk (hi); (try clear hb); (try clear hb2); (try clear hk); (try clear hi)) | ((with_reducible refine gate_builtin (b := .append) (xs := #[.tmp 20, .tmp 25]) rfl ?_); at_builtin; refine Kd.R_append (Kd.int .u8) w.heap.size rfl (.tmp 20) (.tmp 25) 34 5 (.int .u8 0) 1 rfl Try.underlying34 info5 rfl (by decide) (by omega) u5 x5_1 ((wrap64 (t310 + 97)) % 256) [.int .u8 ((wrap64 (t310 + 97)) % 256)] (fun _ => True) (fun _ => False) rfl rfl ?aP (fun _ hk => hk.elim) ?aF ?aO (Below.refl _ _) ?aS ?aL ?_; (case aP => exact rfl); (case aF => exact (fun _ _ => trivial)); (case aO => exact (kR_ HO_5.out)); (case aS => exact (keep_size (w := w) (g := g) (row := none) (hkA_ HK.out))); (case aL => have := LMc14.out; omega); intro v313 w17 ho hb hg hat; rw [← Ny312.out] at ho; replace HI0 := Aside0.mk (IsS89.grown (is89_ HI0.out) hg (IsS89.own_ne HI0.out HO_5.out (by decide))); replace HB := Aside0.mk (below_weaken (hb89_ HB.out) HL.out hb); replace HK := Aside0.mk (KeepBut.trans (hkA_ HK.out) (KeepBut.of_grown hg g) (Kd.R_base2 HO_5.out)); have HO314 := Aside0.mk (ho); clear HO_5; clear ho hb hg hat))
      go_roundg k1
      case measure => have := HK1.out; omega
      case rel => exact ⟨(wrap64 (x1_1 - 1)), (y312), (t311), (by first | rfl | (simp; done) | (simp [*]; done)), H', ⟨by have := HK1.out; omega⟩, ⟨kR_ HO314.out⟩, ⟨is89_ HI0.out⟩, ⟨hkA_ HK.out⟩, ⟨hb89_ HB.out⟩⟩
     ·rw [if_neg c14] at H
      exact absurd H (by simp)
   ·rw [if_neg c5] at H
    have c5b0 : decide (0 < x1_1) = false := decide_eq_false c5
    clear c5
    simp only [Option.some.injEq, Prod.mk.injEq] at H
    obtain ⟨rfl, rfl⟩ := H
    go_wp2
    go_ret
    exact ⟨_, by first | rfl | (simp [errW_none, errW_some] <;> rfl) | (simp [*, errW_none, errW_some] <;> rfl), kR_ HO_5.out, is89_ HI0.out, hb89_ HB.out, hkA_ HK.out⟩
end Go.Proofs.Ytegchbdjbefdbaa.PFnClientHear
