/- Printed by wip/xp/xprint.sh out of the translation, for this claim: what each function answers, as a plain function, and that the machine does just that. No condition. -/
import Derived.Test.YtegchbdjbefdbaaPFnClientOverx0
import Derived.Test.YtegchbdjbefdbaaPFnClientOverx1
import Derived.Test.YtegchbdjbefdbaaPFnClientOverx5
namespace Go.Proofs.Ytegchbdjbefdbaa.PFnClientOver
open Go.RowKit Go.Proofs.YtegchbdjbefdbaaW.PrintWords Go.Proofs.YtegchbdjbefdbaaW.PrintLast Go.Proofs.YtegchbdjbefdbaaW.PrintMore
attribute [local go_sem] max2_int min2_int max_two min_two max_three min_three max_four min_four   -- for this text's walks alone
set_option linter.unusedVariables false
set_option linter.unusedSimpArgs false
def impl_Client_copy.l0 : Nat → List (S41) → Int → Int → Int → List Int → List (S41) → List Int → Option (Int × List Int × (List (S41)) × List Int)
 | 0, _, _, _, _, _, _, _ => none
 | k + 1, x16, x17, x18, x403000, x403001, x403002, x403003 => if x18 < x17 then (if 0 ≤ x18 then (if x18 < (x16.length : Int) then ((impl_clone_byte.f ((rd_T41 x16 x18).f1)).bind fun t405 => (if x403002.length < 4398046511104 then (impl_Client_copy.l0 k x16 x17 (wrap64 (x18 + 1)) x403000 x403001 (x403002 ++ [(⟨(rd_T41 x16 x18).f0, t405⟩ : S41)]) x403003) else (none))) else (none)) else (none)) else (some (x403000, x403001, x403002, x403003))
def impl_Client_copy.f (k : Nat) (a0_0 : Int) (l0_1 : List Int) (l0_2 : List (S41)) (l0_3 : List Int) : Option (Int × List Int × (List (S41)) × List Int) := (impl_clone_int.f l0_1).bind fun t396 => ((impl_clone_int.f l0_3).bind fun t399 => (impl_Client_copy.l0 k l0_2 (l0_2.length : Int) 0 a0_0 t396 ([] : List (S41)) t399))
theorem impl_Client_copy.mono_l : ∀ k, (∀ y0 y1 y2 y3 y4 y5 y6, LeO (impl_Client_copy.l0 k y0 y1 y2 y3 y4 y5 y6) (impl_Client_copy.l0 (k + 1) y0 y1 y2 y3 y4 y5 y6))
 | 0 => fun _ _ _ _ _ _ _ r h => by simp [impl_Client_copy.l0] at h
 | k + 1 => by
  have ih0 := impl_Client_copy.mono_l k
  ·intro y0 y1 y2 y3 y4 y5 y6
   unfold impl_Client_copy.l0
   repeat' first | (with_reducible first | apply ih0 | exact LeO.refl _ | exact LeO.none _ | refine LeO.ite ?_ ?_ | refine LeO.bind ?_ fun _ => ?_) | apply ih0 | exact LeO.none _ | refine LeO.ite ?_ ?_ | refine LeO.bind ?_ fun _ => ?_
theorem impl_Client_copy.mono : ∀ a0 a1 a2 a3 k, LeO (impl_Client_copy.f k a0 a1 a2 a3) (impl_Client_copy.f (k + 1) a0 a1 a2 a3) := by
 intro a0 a1 a2 a3 k
 have ih0 := impl_Client_copy.mono_l k
 unfold impl_Client_copy.f
 repeat' first | (with_reducible first | apply ih0 | exact LeO.refl _ | exact LeO.none _ | refine LeO.ite ?_ ?_ | refine LeO.bind ?_ fun _ => ?_) | apply ih0 | exact LeO.none _ | refine LeO.ite ?_ ?_ | refine LeO.bind ?_ fun _ => ?_
def impl_Client_copy.T1 : Bool × List (List Nat × List Nat) := (true, [([], []), ([0], [0]), ([], []), ([2], [2]), ([3], [3]), ([], []), ([5], [5]), ([6, 4], [6]), ([1, 4, 7], [1, 4, 7]), ([], []), ([9, 8, 7, 0, 1, 2, 3, 4, 5, 6, 7, 8, 9], [8, 9])])
def impl_Client_copy.B1 : List Nat := [0, 1, 0, 4, 12, 0, 32, 124, 255, 0, 1023]
theorem impl_Client_copy.tab1 : rtab .any (opsOf Try.f54 1) = impl_Client_copy.T1 := by kernel_rfl
theorem impl_Client_copy.bits1 : waitsOk impl_Client_copy.T1.2 impl_Client_copy.B1 = true := by kernel_rfl
def impl_Client_copy.T5 : Bool × List (List Nat × List Nat) := (true, [([], []), ([0], [0]), ([], []), ([2], [2]), ([], []), ([4], [4]), ([5], [5]), ([3, 6], [3, 6]), ([7], [7]), ([1, 8, 6], [1, 8]), ([0, 1, 2, 3, 4, 5, 6, 7, 8, 9], []), ([10, 9, 9, 0, 1, 2, 3, 4, 5, 6, 7, 8, 9], [9, 10])])
def impl_Client_copy.B5 : List Nat := [0, 1, 0, 4, 0, 16, 48, 124, 252, 511, 1023, 2047]
theorem impl_Client_copy.tab5 : rtab .any (opsOf Try.f54 5) = impl_Client_copy.T5 := by kernel_rfl
theorem impl_Client_copy.bits5 : waitsOk impl_Client_copy.T5.2 impl_Client_copy.B5 = true := by kernel_rfl
set_option maxHeartbeats 8000000 in
set_option maxRecDepth 100000 in
theorem impl_Client_copy.calls (k : Nat) (a0_0 : Int) (A0_1 : Option Addr) (c0_1 : Nat) (l0_1 : List Int) (A0_2 : Option Addr) (c0_2 : Nat) (l0_2 : List (S41)) (A0_3 : Option Addr) (c0_3 : Nat) (l0_3 : List Int) (r1 : Int) (r2 : List Int) (r3 : List (S41)) (r4 : List Int) (w : World) (hr0_1 : Kd.C (Kd.int .i64) w A0_1 l0_1.length l0_1) (hc0_1 : l0_1.length ≤ c0_1) (hr0_2 : Kd.C k41 w A0_2 l0_2.length l0_2) (hc0_2 : l0_2.length ≤ c0_2) (hr0_3 : Kd.C (Kd.int .i64) w A0_3 l0_3.length l0_3) (hc0_3 : l0_3.length ≤ c0_3) (h : impl_Client_copy.f k a0_0 l0_1 l0_2 l0_3 = some (r1, r2, r3, r4)) :
  Calls Try.prog 54 #[.agg #[.int .i64 a0_0, .slice A0_1 l0_1.length c0_1, .slice A0_2 l0_2.length c0_2, .slice A0_3 l0_3.length c0_3]] w fun e w' => ∃ v1_ v2_ v3_ : Value, e = .returned (.agg #[.int .i64 r1, v1_, v2_, v3_]) ∧ Kd.R (Kd.int .i64) 3 w' w.heap.size (fun k_ => some k_ ≠ (v3_ : Value).ownBlock) v1_ r2 ∧ Kd.S k41 41 w' w.heap.size (fun _ => True) v2_ r3 ∧ Kd.R (Kd.int .i64) 3 w' w.heap.size (fun k_ => some k_ ≠ (v1_ : Value).ownBlock) v3_ r4 ∧ Below w.heap.size w w' := by
 have hu30 := Try.underlying30; have hu41 := Try.underlying41; have HR0_1 := Aside0.mk hr0_1; have HC0_1 := Aside0.mk hc0_1; clear hr0_1 hc0_1; have HR0_2 := Aside0.mk hr0_2; have HC0_2 := Aside0.mk hc0_2; clear hr0_2 hc0_2; have HR0_3 := Aside0.mk hr0_3; have HC0_3 := Aside0.mk hc0_3; clear hr0_3 hc0_3
 have HB := Aside0.mk (Below.refl w.heap.size w)
 have H : ((impl_clone_int.f l0_1).bind fun t396 => ((impl_clone_int.f l0_3).bind fun t399 => (impl_Client_copy.l0 k l0_2 (l0_2.length : Int) 0 a0_0 t396 ([] : List (S41)) t399))) = some (r1, r2, r3, r4) := h
 clear h
 replace H := Option.bind_eq_some_iff.mp H
 obtain ⟨t396, A20, H⟩ := H
 (try dsimp only at H)
 have A2 := Aside0.mk A20; clear A20
 replace H := Option.bind_eq_some_iff.mp H
 obtain ⟨t399, A30, H⟩ := H
 (try dsimp only at H)
 have A3 := Aside0.mk A30; clear A30
 have H' := Aside0.mk H
 clear H
 go_enter Try.func54, Try.ntmps54
 try go_wp2_with (first | ((with_reducible refine gate_dst (N := 1) rfl ?_); refine box_ (N := 1) (cs := #[.int .i64 a0_0, .slice A0_1 l0_1.length c0_1, .slice A0_2 l0_2.length c0_2, .slice A0_3 l0_3.length c0_3]) (t := 30) (fun gb394 hg w4 hbox hb => ?_); have BK394 := Aside0.mk (hbox); have GW394 := ge_ hg HB; have GE394 := ge_ hg HB; replace HB := (bs_ HB hb); clear hb hbox hg) | ((with_reducible refine gate_dst (N := 2) rfl ?_); refine box_ (N := 2) (cs := #[.int .i64 0, .slice none 0 0, .slice none 0 0, .slice none 0 0]) (t := 30) (fun gb395 hg w5 hbox hb => ?_); have BK395 := Aside0.mk (hbox); have GW395 := ge_ hg HB; have GE395 := ge_ hg HB; replace HB := (bs_ HB hb); have NB394_395 := nl_ hg BK394; have NB395_394 := ng_ hg BK394; replace BK394 := (bbA_ BK394 hb); clear hb hbox hg))
 replace BK394 := Aside0.mk (blk_drew BK394.out); replace BK395 := Aside0.mk (blk_drew BK395.out); replace HB := (bd_ HB)
 refine start_ (n := 11) (S := fun w' => w'.cell? ⟨gb394, 0, none⟩ = some (.int .i64 a0_0) ∧ w'.cell? ⟨gb394, 1, none⟩ = some (.slice A0_1 l0_1.length c0_1) ∧ w'.cell? ⟨gb394, 2, none⟩ = some (.slice A0_2 l0_2.length c0_2) ∧ w'.cell? ⟨gb394, 3, none⟩ = some (.slice A0_3 l0_3.length c0_3)) (ds := []) #[false, false, false, false, false, false, false, false, false, false, false] (by kernel_rfl) rfl rfl (cz4 BK394.out) (fun hHeld => ?_); refine with_tabW impl_Client_copy.tab1 impl_Client_copy.bits1 (fun HT_ HW_ => ?_)
 generalize w5.drew = w6 at BK394 BK395 HB hHeld ⊢
 refine pu_ (i := 0) (N := some 6) HT_ ?_; refine pu_ (i := 2) (N := some 8) HT_ ?_; refine pu_ (i := 5) (N := some 11) HT_ ?_; refine tk_ (i := 1) (N := some 7) HT_ HW_ hHeld ?_; refine tk_ (i := 3) (N := some 9) HT_ HW_ hHeld ?_; refine tk_ (i := 6) (N := some 12) HT_ HW_ hHeld ?_
 refine join_ (σ := Value × Value × Nat) 1 #[true, true, true, true, true, true, true, true, true, true, false] (fun s_ => [(10, s_.1), (13, s_.2.1), (3, .pointer (some ⟨s_.2.2, 0, none⟩)), (14, .agg #[.int .i64 a0_0, s_.1, .slice none 0 0, s_.2.1])]) (fun s_ w' => (w'.cell? ⟨gb394, 0, none⟩ = some (.int .i64 a0_0) ∧ w'.cell? ⟨gb394, 1, none⟩ = some (.slice A0_1 l0_1.length c0_1) ∧ w'.cell? ⟨gb394, 2, none⟩ = some (.slice A0_2 l0_2.length c0_2) ∧ w'.cell? ⟨gb394, 3, none⟩ = some (.slice A0_3 l0_3.length c0_3)) ∧ (Kd.R (Kd.int .i64) 3 w' w.heap.size (fun k_ => some k_ ≠ (s_.2.1 : Value).ownBlock) s_.1 t396) ∧ (Kd.R (Kd.int .i64) 3 w' w.heap.size (fun k_ => some k_ ≠ (s_.1 : Value).ownBlock) s_.2.1 t399) ∧ (w'.heap[gb394]? = some (.cells #[.int .i64 a0_0, .slice A0_1 l0_1.length c0_1, .slice A0_2 l0_2.length c0_2, .slice A0_3 l0_3.length c0_3] 30 (0, 0))) ∧ (w'.heap[gb395]? = some (.cells #[.int .i64 0, .slice none 0 0, .slice none 0 0, .slice none 0 0] 30 (0, 0))) ∧ (w'.heap[s_.2.2]? = some (.cells #[.int .i64 0, .slice none 0 0, .slice none 0 0, .slice none 0 0] 30 (0, 0))) ∧ (w.heap.size ≤ s_.2.2) ∧ (w.heap.size ≤ s_.2.2) ∧ (gb394 ≠ s_.2.2) ∧ (s_.2.2 ≠ gb394) ∧ (gb395 ≠ s_.2.2) ∧ (s_.2.2 ≠ gb395) ∧ (Below w.heap.size w w')) ?_ ?_
 rotate_left
 ·intro hCont
  refine two_ (i := 4) (j := 9) (Ni := some 10) (Nj := some 3) #[true, true, true, true, true, true, true, false, false, false, false] #[true, true, true, true, false, true, true, false, false, true, false] rfl rfl rfl rfl (two_of HT_.out (by kernel_rfl)) (by decide) (by decide) (fun K hK => ?_) (fun K hK => ?_)
  ·skip
   refine goes_ Try.func72 (by kernel_rfl) rfl #[.slice A0_1 l0_1.length c0_1] (by rfl) rfl rfl ar_ ?_
   with_reducible refine (impl_clone_int.calls _ _ l0_1 t396 _ ?side1 ?side2 A2.out).mono ?_
   (case side1 => exact kC_ (Kd.C_below HR0_1.out HB.out))
   (case side2 => exact HC0_1.out)
   rintro e w7 ⟨v397, rfl, ho0, hb⟩
   refine ⟨_, rfl, ?_⟩
   have HO398 := Aside0.mk (Kd.R_lower ho0 (below_size (hbA_ HB.out))); replace BK394 := (bbA_ BK394 hb); replace BK395 := (bbA_ BK395 hb); replace HB := (bs_ HB hb); (try clear hb); (try clear hb2); (try clear hk); (try clear hi); (try clear ho0)
   refine hK.out _ _ (cz4 BK394.out) (fun hHeld => ?_)
   clear hK K; refine nm_ 10 ?_
   refine two_ (i := 7) (j := 9) (Ni := some 13) (Nj := some 3) #[true, true, true, true, true, true, true, true, false, false, false] #[true, true, true, true, true, true, true, false, false, true, false] rfl rfl rfl rfl (two_of HT_.out (by kernel_rfl)) (by decide) (by decide) (fun K hK => ?_) (fun K hK => ?_)
   ·skip
    refine goes_ Try.func72 (by kernel_rfl) rfl #[.slice A0_3 l0_3.length c0_3] (by rfl) rfl rfl ar_ ?_
    with_reducible refine (impl_clone_int.calls _ _ l0_3 t399 _ ?side1 ?side2 A3.out).mono ?_
    (case side1 => exact kC_ (Kd.C_below HR0_3.out HB.out))
    (case side2 => exact HC0_3.out)
    rintro e w8 ⟨v400, rfl, ho0, hb⟩
    refine ⟨_, rfl, ?_⟩
    have HO401 := Aside0.mk (Kd.R_lower (Kd.R_new' ho0 (Kd.R_lt (kR_ HO398.out))) (below_size (hbA_ HB.out))); replace HO398 := Aside0.mk (Kd.R_elder' (kR_ HO398.out) (Kd.R_base ho0) hb); replace BK394 := (bbA_ BK394 hb); replace BK395 := (bbA_ BK395 hb); replace HB := (bs_ HB hb); (try clear hb); (try clear hb2); (try clear hk); (try clear hi); (try clear ho0)
    obtain ⟨Ao9, co9, eo9⟩ := Kd.R_slice HO401.out
    (first | subst eo9 | (injection eo9 with f1_ f2_ f3_; have f4_ := f1_.symm; have f5_ := f3_.symm; clear f1_ f2_ f3_; subst f4_; subst f5_))
    obtain ⟨Ao10, co10, eo10⟩ := Kd.R_slice HO398.out
    (first | subst eo10 | (injection eo10 with f1_ f2_ f3_; have f4_ := f1_.symm; have f5_ := f3_.symm; clear f1_ f2_ f3_; subst f4_; subst f5_))
    refine hK.out _ _ (cz4 BK394.out) (fun hHeld => ?_)
    clear hK K; refine nm_ 13 ?_; refine pu_ (i := 8) (N := some 14) HT_ ?_
    refine on_ (i := 9) (N := some 3) HT_ (fun K hK => ?_)
    refine box_step ?hg (N := 3) ?hd (cs := #[.int .i64 0, .slice none 0 0, .slice none 0 0, .slice none 0 0]) (t := 30) ?hr ?_; (case hd => rfl); (case hg => rfl); (case hr => first | (go_simp; done) | (go_simp; rfl))
    intro gb402 hg w11 hbox hb
    have n0_ := Aside0.mk (Kd.R_below (kR_ HO398.out) hb); have n1_ := Aside0.mk (Kd.R_below (kR_ HO401.out) hb); have n2_ := (bbA_ BK394 hb); have n3_ := (bbA_ BK395 hb); have n4_ := (bs_ HB hb); have n5_ := Aside0.mk (hbox); have n6_ := ge_ hg HB; have n7_ := ge_ hg HB; have n8_ := nl_ hg BK394; have n9_ := ng_ hg BK394; have n10_ := nl_ hg BK395; have n11_ := ng_ hg BK395; clear HO398 HO401 BK394 BK395 HB; have HO398 := n0_; have HO401 := n1_; have BK394 := n2_; have BK395 := n3_; have HB := n4_; have BK402 := n5_; have GW402 := n6_; have GE402 := n7_; have NB394_402 := n8_; have NB402_394 := n9_; have NB395_402 := n10_; have NB402_395 := n11_; clear n0_ n1_ n2_ n3_ n4_ n5_ n6_ n7_ n8_ n9_ n10_ n11_ hb hbox hg
    refine hK.out _ _ (cz4 BK394.out) (fun hHeld => ?_)
    clear hK K; refine nm_ 3 ?_
    exact norm_ (by simp only [putAll, Act.put, List.setIfInBounds_toArray, List.set_cons_zero, List.set_cons_succ]) (hCont (.slice Ao10 t396.length co10, .slice Ao9 t399.length co9, gb402) _ ⟨hHeld, (by refine kR_ ?_; first | exact Kd.R_mono HO398.out (fun _ hk => hk.2) | exact Kd.R_mono HO398.out (fun _ _ => trivial)), (by refine kR_ ?_; first | exact Kd.R_mono HO401.out (fun _ hk => hk.2) | exact Kd.R_mono HO401.out (fun _ _ => trivial)), (kb_ BK394.out), (kb_ BK395.out), (kb_ BK402.out), GW402.out, GE402.out, NB394_402.out, NB402_394.out, NB395_402.out, NB402_395.out, (hbA_ HB.out)⟩)
   ·skip
    refine box_step ?hg (N := 3) ?hd (cs := #[.int .i64 0, .slice none 0 0, .slice none 0 0, .slice none 0 0]) (t := 30) ?hr ?_; (case hd => rfl); (case hg => rfl); (case hr => first | (go_simp; done) | (go_simp; rfl))
    intro gb402 hg w8 hbox hb
    have n0_ := Aside0.mk (Kd.R_below (kR_ HO398.out) hb); have n1_ := (bbA_ BK394 hb); have n2_ := (bbA_ BK395 hb); have n3_ := (bs_ HB hb); have n4_ := Aside0.mk (hbox); have n5_ := ge_ hg HB; have n6_ := ge_ hg HB; have n7_ := nl_ hg BK394; have n8_ := ng_ hg BK394; have n9_ := nl_ hg BK395; have n10_ := ng_ hg BK395; clear HO398 BK394 BK395 HB; have HO398 := n0_; have BK394 := n1_; have BK395 := n2_; have HB := n3_; have BK402 := n4_; have GW402 := n5_; have GE402 := n6_; have NB394_402 := n7_; have NB402_394 := n8_; have NB395_402 := n9_; have NB402_395 := n10_; clear n0_ n1_ n2_ n3_ n4_ n5_ n6_ n7_ n8_ n9_ n10_ hb hbox hg
    refine hK.out _ _ (cz4 BK394.out) (fun hHeld => ?_)
    clear hK K; refine nm_ 3 ?_
    refine on_ (i := 7) (N := some 13) HT_ (fun K hK => ?_)
    refine goes_ Try.func72 (by kernel_rfl) rfl #[.slice A0_3 l0_3.length c0_3] (by rfl) rfl rfl ar_ ?_
    with_reducible refine (impl_clone_int.calls _ _ l0_3 t399 _ ?side1 ?side2 A3.out).mono ?_
    (case side1 => exact kC_ (Kd.C_below HR0_3.out HB.out))
    (case side2 => exact HC0_3.out)
    rintro e w9 ⟨v400, rfl, ho0, hb⟩
    refine ⟨_, rfl, ?_⟩
    have HO401 := Aside0.mk (Kd.R_lower (Kd.R_new' ho0 (Kd.R_lt (kR_ HO398.out))) (below_size (hbA_ HB.out))); replace HO398 := Aside0.mk (Kd.R_elder' (kR_ HO398.out) (Kd.R_base ho0) hb); replace BK394 := (bbA_ BK394 hb); replace BK395 := (bbA_ BK395 hb); replace BK402 := (bbA_ BK402 hb); replace HB := (bs_ HB hb); (try clear hb); (try clear hb2); (try clear hk); (try clear hi); (try clear ho0)
    obtain ⟨Ao10, co10, eo10⟩ := Kd.R_slice HO401.out
    (first | subst eo10 | (injection eo10 with f1_ f2_ f3_; have f4_ := f1_.symm; have f5_ := f3_.symm; clear f1_ f2_ f3_; subst f4_; subst f5_))
    obtain ⟨Ao11, co11, eo11⟩ := Kd.R_slice HO398.out
    (first | subst eo11 | (injection eo11 with f1_ f2_ f3_; have f4_ := f1_.symm; have f5_ := f3_.symm; clear f1_ f2_ f3_; subst f4_; subst f5_))
    refine hK.out _ _ (cz4 BK394.out) (fun hHeld => ?_)
    clear hK K; refine nm_ 13 ?_; refine pu_ (i := 8) (N := some 14) HT_ ?_
    exact norm_ (by simp only [putAll, Act.put, List.setIfInBounds_toArray, List.set_cons_zero, List.set_cons_succ]) (hCont (.slice Ao11 t396.length co11, .slice Ao10 t399.length co10, gb402) _ ⟨hHeld, (by refine kR_ ?_; first | exact Kd.R_mono HO398.out (fun _ hk => hk.2) | exact Kd.R_mono HO398.out (fun _ _ => trivial)), (by refine kR_ ?_; first | exact Kd.R_mono HO401.out (fun _ hk => hk.2) | exact Kd.R_mono HO401.out (fun _ _ => trivial)), (kb_ BK394.out), (kb_ BK395.out), (kb_ BK402.out), GW402.out, GE402.out, NB394_402.out, NB402_394.out, NB395_402.out, NB402_395.out, (hbA_ HB.out)⟩)
  ·skip
   refine box_step ?hg (N := 3) ?hd (cs := #[.int .i64 0, .slice none 0 0, .slice none 0 0, .slice none 0 0]) (t := 30) ?hr ?_; (case hd => rfl); (case hg => rfl); (case hr => first | (go_simp; done) | (go_simp; rfl))
   intro gb402 hg w7 hbox hb
   have n0_ := (bbA_ BK394 hb); have n1_ := (bbA_ BK395 hb); have n2_ := (bs_ HB hb); have n3_ := Aside0.mk (hbox); have n4_ := ge_ hg HB; have n5_ := ge_ hg HB; have n6_ := nl_ hg BK394; have n7_ := ng_ hg BK394; have n8_ := nl_ hg BK395; have n9_ := ng_ hg BK395; clear BK394 BK395 HB; have BK394 := n0_; have BK395 := n1_; have HB := n2_; have BK402 := n3_; have GW402 := n4_; have GE402 := n5_; have NB394_402 := n6_; have NB402_394 := n7_; have NB395_402 := n8_; have NB402_395 := n9_; clear n0_ n1_ n2_ n3_ n4_ n5_ n6_ n7_ n8_ n9_ hb hbox hg
   refine hK.out _ _ (cz4 BK394.out) (fun hHeld => ?_)
   clear hK K; refine nm_ 3 ?_
   refine on_ (i := 4) (N := some 10) HT_ (fun K hK => ?_)
   refine goes_ Try.func72 (by kernel_rfl) rfl #[.slice A0_1 l0_1.length c0_1] (by rfl) rfl rfl ar_ ?_
   with_reducible refine (impl_clone_int.calls _ _ l0_1 t396 _ ?side1 ?side2 A2.out).mono ?_
   (case side1 => exact kC_ (Kd.C_below HR0_1.out HB.out))
   (case side2 => exact HC0_1.out)
   rintro e w8 ⟨v397, rfl, ho0, hb⟩
   refine ⟨_, rfl, ?_⟩
   have HO398 := Aside0.mk (Kd.R_lower ho0 (below_size (hbA_ HB.out))); replace BK394 := (bbA_ BK394 hb); replace BK395 := (bbA_ BK395 hb); replace BK402 := (bbA_ BK402 hb); replace HB := (bs_ HB hb); (try clear hb); (try clear hb2); (try clear hk); (try clear hi); (try clear ho0)
   refine hK.out _ _ (cz4 BK394.out) (fun hHeld => ?_)
   clear hK K; refine nm_ 10 ?_
   refine on_ (i := 7) (N := some 13) HT_ (fun K hK => ?_)
   refine goes_ Try.func72 (by kernel_rfl) rfl #[.slice A0_3 l0_3.length c0_3] (by rfl) rfl rfl ar_ ?_
   with_reducible refine (impl_clone_int.calls _ _ l0_3 t399 _ ?side1 ?side2 A3.out).mono ?_
   (case side1 => exact kC_ (Kd.C_below HR0_3.out HB.out))
   (case side2 => exact HC0_3.out)
   rintro e w9 ⟨v400, rfl, ho0, hb⟩
   refine ⟨_, rfl, ?_⟩
   have HO401 := Aside0.mk (Kd.R_lower (Kd.R_new' ho0 (Kd.R_lt (kR_ HO398.out))) (below_size (hbA_ HB.out))); replace HO398 := Aside0.mk (Kd.R_elder' (kR_ HO398.out) (Kd.R_base ho0) hb); replace BK394 := (bbA_ BK394 hb); replace BK395 := (bbA_ BK395 hb); replace BK402 := (bbA_ BK402 hb); replace HB := (bs_ HB hb); (try clear hb); (try clear hb2); (try clear hk); (try clear hi); (try clear ho0)
   obtain ⟨Ao10, co10, eo10⟩ := Kd.R_slice HO401.out
   (first | subst eo10 | (injection eo10 with f1_ f2_ f3_; have f4_ := f1_.symm; have f5_ := f3_.symm; clear f1_ f2_ f3_; subst f4_; subst f5_))
   obtain ⟨Ao11, co11, eo11⟩ := Kd.R_slice HO398.out
   (first | subst eo11 | (injection eo11 with f1_ f2_ f3_; have f4_ := f1_.symm; have f5_ := f3_.symm; clear f1_ f2_ f3_; subst f4_; subst f5_))
   refine hK.out _ _ (cz4 BK394.out) (fun hHeld => ?_)
   clear hK K; refine nm_ 13 ?_; refine pu_ (i := 8) (N := some 14) HT_ ?_
   exact norm_ (by simp only [putAll, Act.put, List.setIfInBounds_toArray, List.set_cons_zero, List.set_cons_succ]) (hCont (.slice Ao11 t396.length co11, .slice Ao10 t399.length co10, gb402) _ ⟨hHeld, (by refine kR_ ?_; first | exact Kd.R_mono HO398.out (fun _ hk => hk.2) | exact Kd.R_mono HO398.out (fun _ _ => trivial)), (by refine kR_ ?_; first | exact Kd.R_mono HO401.out (fun _ hk => hk.2) | exact Kd.R_mono HO401.out (fun _ _ => trivial)), (kb_ BK394.out), (kb_ BK395.out), (kb_ BK402.out), GW402.out, GE402.out, NB394_402.out, NB402_394.out, NB395_402.out, NB402_395.out, (hbA_ HB.out)⟩)
 rintro ⟨v397, v400, gb402⟩ w12 ⟨hS_, h0_, h1_, h2_, h3_, h4_, h5_, h6_, h7_, h8_, h9_, h10_, h11_⟩
 have n0_ : Aside0 (Kd.R (Kd.int .i64) 3 w12 w.heap.size (fun k_ => some k_ ≠ (v400 : Value).ownBlock) v397 t396) := ⟨h0_⟩
 have n1_ : Aside0 (Kd.R (Kd.int .i64) 3 w12 w.heap.size (fun k_ => some k_ ≠ (v397 : Value).ownBlock) v400 t399) := ⟨h1_⟩
 have n2_ : Aside0 (w12.heap[gb394]? = some (.cells #[.int .i64 a0_0, .slice A0_1 l0_1.length c0_1, .slice A0_2 l0_2.length c0_2, .slice A0_3 l0_3.length c0_3] 30 (0, 0))) := ⟨h2_⟩
 have n3_ : Aside0 (w12.heap[gb395]? = some (.cells #[.int .i64 0, .slice none 0 0, .slice none 0 0, .slice none 0 0] 30 (0, 0))) := ⟨h3_⟩
 have n4_ : Aside0 (w12.heap[gb402]? = some (.cells #[.int .i64 0, .slice none 0 0, .slice none 0 0, .slice none 0 0] 30 (0, 0))) := ⟨h4_⟩
 have n5_ : Aside0 (w.heap.size ≤ gb402) := ⟨h5_⟩
 have n6_ : Aside0 (w.heap.size ≤ gb402) := ⟨h6_⟩
 have n7_ : Aside0 (gb394 ≠ gb402) := ⟨h7_⟩
 have n8_ : Aside0 (gb402 ≠ gb394) := ⟨h8_⟩
 have n9_ : Aside0 (gb395 ≠ gb402) := ⟨h9_⟩
 have n10_ : Aside0 (gb402 ≠ gb395) := ⟨h10_⟩
 have n11_ : Aside0 (Below w.heap.size w w12) := ⟨h11_⟩
 clear BK394 BK395 HB h0_ h1_ h2_ h3_ h4_ h5_ h6_ h7_ h8_ h9_ h10_ h11_; have HO398 := n0_; have HO401 := n1_; have BK394 := n2_; have BK395 := n3_; have BK402 := n4_; have GW402 := n5_; have GE402 := n6_; have NB394_402 := n7_; have NB402_394 := n8_; have NB395_402 := n9_; have NB402_395 := n10_; have HB := n11_; clear n0_ n1_ n2_ n3_ n4_ n5_ n6_ n7_ n8_ n9_ n10_ n11_
 have hHeld : w12.cell? ⟨gb394, 0, none⟩ = some (.int .i64 a0_0) ∧ w12.cell? ⟨gb394, 1, none⟩ = some (.slice A0_1 l0_1.length c0_1) ∧ w12.cell? ⟨gb394, 2, none⟩ = some (.slice A0_2 l0_2.length c0_2) ∧ w12.cell? ⟨gb394, 3, none⟩ = some (.slice A0_3 l0_3.length c0_3) := hS_
 obtain ⟨Ao13, co13, eo13⟩ := Kd.R_slice HO401.out
 (first | subst eo13 | (injection eo13 with f1_ f2_ f3_; have f4_ := f1_.symm; have f5_ := f3_.symm; clear f1_ f2_ f3_; subst f4_; subst f5_))
 obtain ⟨Ao14, co14, eo14⟩ := Kd.R_slice HO398.out
 (first | subst eo14 | (injection eo14 with f1_ f2_ f3_; have f4_ := f1_.symm; have f5_ := f3_.symm; clear f1_ f2_ f3_; subst f4_; subst f5_))
 refine norm_ (a' := ?_) ?_ ?_
 rotate_left
 ·simp only [putAll, Act.put, List.setIfInBounds_toArray, List.set_cons_zero, List.set_cons_succ]
  rfl
 refine on_ (i := 10) (N := none) HT_ (fun K hK => ?_)
 have hs15 : w12.cell? ⟨gb402, 0, none⟩ = some (.int .i64 0) := bc_ BK402 0
 have hfs15 := blk_frozen BK402.out 0
 have hns15_0 := NB394_402.out; have hns15_1 := NB395_402.out; have hms15_0 := NB402_394.out; have hms15_1 := NB402_395.out
 have hs16 : w12.cell? ⟨gb402, 1, none⟩ = some (.slice none 0 0) := bc_ BK402 1
 have hfs16 := blk_frozen BK402.out 1
 have hns16_0 := NB394_402.out; have hns16_1 := NB395_402.out; have hms16_0 := NB402_394.out; have hms16_1 := NB402_395.out
 have hs17 : w12.cell? ⟨gb402, 2, none⟩ = some (.slice none 0 0) := bc_ BK402 2
 have hfs17 := blk_frozen BK402.out 2
 have hns17_0 := NB394_402.out; have hns17_1 := NB395_402.out; have hms17_0 := NB402_394.out; have hms17_1 := NB402_395.out
 have hs18 : w12.cell? ⟨gb402, 3, none⟩ = some (.slice none 0 0) := bc_ BK402 3
 have hfs18 := blk_frozen BK402.out 3
 have hns18_0 := NB394_402.out; have hns18_1 := NB395_402.out; have hms18_0 := NB402_394.out; have hms18_1 := NB402_395.out
 refine skip_ (w1 := ?_) (by rfl) rfl ?_ ?_
 rotate_left
 ·go_simp
  rfl
 refine hK.out _ _ ⟨((cell_far (p := ⟨gb402, _, none⟩) NB394_402.out _).trans (((cell_far (p := ⟨gb402, _, none⟩) NB394_402.out _).trans (((cell_far (p := ⟨gb402, _, none⟩) NB394_402.out _).trans (((cell_far (p := ⟨gb402, _, none⟩) NB394_402.out _).trans (hHeld.1)))))))), ((cell_far (p := ⟨gb402, _, none⟩) NB394_402.out _).trans (((cell_far (p := ⟨gb402, _, none⟩) NB394_402.out _).trans (((cell_far (p := ⟨gb402, _, none⟩) NB394_402.out _).trans (((cell_far (p := ⟨gb402, _, none⟩) NB394_402.out _).trans (hHeld.2.1)))))))), ((cell_far (p := ⟨gb402, _, none⟩) NB394_402.out _).trans (((cell_far (p := ⟨gb402, _, none⟩) NB394_402.out _).trans (((cell_far (p := ⟨gb402, _, none⟩) NB394_402.out _).trans (((cell_far (p := ⟨gb402, _, none⟩) NB394_402.out _).trans (hHeld.2.2.1)))))))), ((cell_far (p := ⟨gb402, _, none⟩) NB394_402.out _).trans (((cell_far (p := ⟨gb402, _, none⟩) NB394_402.out _).trans (((cell_far (p := ⟨gb402, _, none⟩) NB394_402.out _).trans (((cell_far (p := ⟨gb402, _, none⟩) NB394_402.out _).trans (hHeld.2.2.2))))))))⟩ (fun hHeld => ?_)
 clear hK K
 refine done_ (done_of HT_.out (by kernel_rfl)) ?_
 have hnb19 := NB394_395.out; have hnc19 := NB395_394.out; have hnb20 := NB394_402.out; have hnc20 := NB402_394.out; have Z21 := zz4 BK394
 try go_wp2
 go_loopg [18] k (fun kq v18 w' => ∃ (x18_1 : Int) (x403002_1 : List (S41)) (u403002 : Value), v18 = .int .i64 x18_1 ∧ Aside0 (impl_Client_copy.l0 kq l0_2 (l0_2.length : Int) x18_1 a0_0 t396 x403002_1 t399 = some (r1, r2, r3, r4)) ∧ Aside0 (kq ≤ k) ∧ Aside0 (Kd.R (Kd.int .i64) 3 w' w.heap.size (fun k_ => some k_ ≠ ((.slice Ao13 t399.length co13) : Value).ownBlock) (.slice Ao14 t396.length co14) t396) ∧ Aside0 (Kd.S k41 41 w' w.heap.size (fun _ => True) u403002 x403002_1) ∧ Aside0 (Kd.R (Kd.int .i64) 3 w' w.heap.size (fun k_ => some k_ ≠ ((.slice Ao14 t396.length co14) : Value).ownBlock) (.slice Ao13 t399.length co13) t399) ∧ Aside0 (w'.heap[gb394]? = some (.cells #[.int .i64 a0_0, (.slice A0_1 l0_1.length c0_1), (.slice A0_2 l0_2.length c0_2), (.slice A0_3 l0_3.length c0_3)] 30 (0, 0))) ∧ Aside0 (w'.heap[gb395]? = some (.cells #[.int .i64 0, (.slice none 0 0), (.slice none 0 0), (.slice none 0 0)] 30 (0, 0))) ∧ Aside0 (w'.heap[gb402]? = some (.cells #[.int .i64 a0_0, (.slice Ao14 t396.length co14), u403002, (.slice Ao13 t399.length co13)] 30 (0, 0))) ∧ Aside0 (Below w.heap.size w w'))
 case atStart => exact ⟨(0), (([] : List (S41))), (.slice none 0 0), (by first | rfl | (simp; done) | (simp [*]; done)), H', ⟨Nat.le_refl _⟩, ⟨by refine kR_ ?_; exact rfm_ ((Kd.R_types HO398.out BK402.out (by decide))) (fun _ hk => hk.1)⟩, ⟨by first | exact Kd.S_nil _ _ _ _ _ | exact Kd.N_nil _ _ _ _ _ | exact Kd.V_nil _ _ _ _ _ | exact Kd.Q_nil _ _ _ _ _ | exact Kd.R_nil _ _ _ _ _⟩, ⟨by refine kR_ ?_; exact rfm_ ((Kd.R_types HO401.out BK402.out (by decide))) (fun _ hk => hk.1)⟩, ⟨by exact kf_ BK394.out⟩, ⟨by exact kf_ BK395.out⟩, ⟨by refine kb_ ?_; refine pz4 (cs := #[.int .i64 0, .slice none 0 0, .slice none 0 0, .slice none 0 0]) ?_; refine kb_ ?_; exact BK402.out⟩, ⟨hbA_ HB.out⟩⟩
 case round =>
  clear H'; (try clear c1); (try clear c2); (try clear p2); (try clear c5); (try clear c7); (try clear c19); (try clear c20); (try clear Z21)
  obtain ⟨x18_1, x403002_1, u403002, rfl, HA, HK1, HO_403001, HO_403002, HO_403003, BK394, BK395, BK402, HB⟩ := hrel
  cases gk with
  | zero => exact absurd HA.out (by simp [impl_Client_copy.l0])
  | succ k1 =>
   have H := HA.out; clear HA
   simp only [impl_Client_copy.l0] at H
   by_cases c22 : x18_1 < (l0_2.length : Int)
   ·rw [if_pos c22] at H
    have c22b0 : decide (x18_1 < (l0_2.length : Int)) = true := decide_eq_true c22
    clear c22
    by_cases c23 : 0 ≤ x18_1
    ·rw [if_pos c23] at H
     have c23b0 : decide (0 ≤ x18_1) = true := decide_eq_true c23
     clear c23
     by_cases c24 : x18_1 < (l0_2.length : Int)
     ·rw [if_pos c24] at H
      have c24b0 : decide (x18_1 < (l0_2.length : Int)) = true := decide_eq_true c24
      clear c24
      replace H := Option.bind_eq_some_iff.mp H
      obtain ⟨t405, A250, H⟩ := H
      (try dsimp only at H)
      have A25 := Aside0.mk A250; clear A250
      by_cases c26 : x403002_1.length < 4398046511104
      ·rw [if_pos c26] at H
       have LMc26 := Aside0.mk c26; clear c26
       obtain ⟨y408, hy408⟩ : ∃ y_ : List (S41), y_ = (x403002_1 ++ [(⟨(rd_T41 l0_2 x18_1).f0, t405⟩ : S41)]) := ⟨_, rfl⟩
       (first | replace H := sb_ hy408 H | rw [← hy408] at H)
       have Ny408 := Aside0.mk hy408; clear hy408
       have H' := Aside0.mk H
       clear H
       have p403 : 0 ≤ (x18_1 : Int) := of_decide_eq_true (by first | (with_reducible assumption) | assumption)
       have q403 : x18_1 < (l0_2.length : Int) := of_decide_eq_true (by first | (with_reducible assumption) | assumption)
       obtain ⟨ad403, A403_1, c403_1, e403, hx403_0, hx403_1, hl403_1, hi403_1⟩ := at_T41 HR0_2.out x18_1 p403 q403
       cases e403
       replace hx403_0 := cc_ HB hx403_0
       replace hx403_1 := cc_ HB hx403_1
       have HR403_1 := Aside0.mk hi403_1; have HC403_1 := Aside0.mk hl403_1; clear hi403_1 hl403_1
       replace p403 := eq_true p403
       replace q403 := eq_true q403
       try go_wp2_with (first | ((with_reducible refine gate_dst (N := 5) rfl ?_); refine box_ (N := 5) (cs := #[.int .i64 0, .slice none 0 0]) (t := 41) (fun gb404 hg w27 hbox hb => ?_); replace HO_403001 := Aside0.mk (Kd.R_below (kR_ HO_403001.out) hb); replace HO_403002 := Aside0.mk (Kd.S_below (Kd.S_elderB (kS_ HO_403002.out) gb404 (Nat.le_of_eq hg.symm)) hb); replace HO_403003 := Aside0.mk (Kd.R_below (kR_ HO_403003.out) hb); have BK404 := Aside0.mk (hbox); have GW404 := ge_ hg HB; have GE404 := ge_ hg HB; replace HB := (bs_ HB hb); have NB394_404 := nl_ hg BK394; have NB404_394 := ng_ hg BK394; replace BK394 := (bbA_ BK394 hb); have NB395_404 := nl_ hg BK395; have NB404_395 := ng_ hg BK395; replace BK395 := (bbA_ BK395 hb); have NB402_404 := nl_ hg BK402; have NB404_402 := ng_ hg BK402; replace BK402 := (bbA_ BK402 hb); clear hb hbox hg; have hnb28 := NB404_394.out; have hnc28 := NB394_404.out; have hnb29 := NB404_395.out; have hnc29 := NB395_404.out; have hnb30 := NB404_402.out; have hnc30 := NB402_404.out; have Z31 := zz2 BK404))
       obtain ⟨w32, h_w32⟩ : ∃ w_, ((w27.setCell ⟨gb404, 0, none⟩ (.int .i64 ((rd_T41 l0_2 x18_1).f0))).setCell ⟨gb404, 1, none⟩ (.slice A403_1 ((rd_T41 l0_2 x18_1).f1).length c403_1)) = w_ := ⟨_, rfl⟩
       have n0_ : Aside0 (Kd.R (Kd.int .i64) 3 w32 w.heap.size (fun k_ => some k_ ≠ (.slice Ao13 t399.length co13 : Value).ownBlock) (.slice Ao14 t396.length co14) t396) := ⟨by subst h_w32; refine kR_ ?_; exact rfm_ ((Kd.R_types HO_403001.out BK404.out (by decide))) (fun _ hk => hk.1)⟩
       have n1_ : Aside0 (Kd.S k41 41 w32 w.heap.size (fun k_ => k_ ≠ gb404) u403002 x403002_1) := ⟨by subst h_w32; refine kS_ ?_; exact nfS_ gb404 HO_403002.out (fun _ hk => hk.2) (fun _ hk => hk.1.2)⟩
       have n2_ : Aside0 (Kd.R (Kd.int .i64) 3 w32 w.heap.size (fun k_ => some k_ ≠ (.slice Ao14 t396.length co14 : Value).ownBlock) (.slice Ao13 t399.length co13) t399) := ⟨by subst h_w32; refine kR_ ?_; exact rfm_ ((Kd.R_types HO_403003.out BK404.out (by decide))) (fun _ hk => hk.1)⟩
       have n3_ : Aside0 (w32.heap[gb394]? = some (.cells #[.int .i64 a0_0, .slice A0_1 l0_1.length c0_1, .slice (some ad403) l0_2.length c0_2, .slice A0_3 l0_3.length c0_3] 30 (0, 0))) := ⟨by subst h_w32; exact kf_ BK394.out⟩
       have n4_ : Aside0 (w32.heap[gb395]? = some (.cells #[.int .i64 0, .slice none 0 0, .slice none 0 0, .slice none 0 0] 30 (0, 0))) := ⟨by subst h_w32; exact kf_ BK395.out⟩
       have n5_ : Aside0 (w32.heap[gb402]? = some (.cells #[.int .i64 a0_0, .slice Ao14 t396.length co14, u403002, .slice Ao13 t399.length co13] 30 (0, 0))) := ⟨by subst h_w32; exact kf_ BK402.out⟩
       have n6_ : Aside0 (w32.heap[gb404]? = some (.cells #[.int .i64 ((rd_T41 l0_2 x18_1).f0), .slice A403_1 ((rd_T41 l0_2 x18_1).f1).length c403_1] 41 (0, 0))) := ⟨by subst h_w32; refine kb_ ?_; refine pz2 (cs := #[.int .i64 0, .slice none 0 0]) ?_; refine kb_ ?_; exact BK404.out⟩
       have n7_ : Aside0 (Below w.heap.size w w32) := ⟨by subst h_w32; exact hbA_ HB.out⟩
       (try clear HO_403001); (try clear HO_403002); (try clear HO_403003); (try clear BK394); (try clear BK395); (try clear BK402); (try clear BK404); (try clear HB)
       (try rw [h_w32]); clear h_w32
       have HO_403001 := n0_; have HO_403002 := n1_; have HO_403003 := n2_; have BK394 := n3_; have BK395 := n4_; have BK402 := n5_; have BK404 := n6_; have HB := n7_; clear n0_ n1_ n2_ n3_ n4_ n5_ n6_ n7_; replace HO_403001 := Aside0.mk (Kd.R_drew HO_403001.out); replace HO_403002 := Aside0.mk (Kd.S_drew HO_403002.out); replace HO_403003 := Aside0.mk (Kd.R_drew HO_403003.out); replace BK394 := Aside0.mk (blk_drew BK394.out); replace BK395 := Aside0.mk (blk_drew BK395.out); replace BK402 := Aside0.mk (blk_drew BK402.out); replace BK404 := Aside0.mk (blk_drew BK404.out); replace HB := (bd_ HB)
       refine start_ (n := 12) (S := fun w' => w'.cell? ⟨gb402, 0, none⟩ = some (.int .i64 a0_0) ∧ w'.cell? ⟨gb402, 1, none⟩ = some (.slice Ao14 t396.length co14) ∧ w'.cell? ⟨gb402, 2, none⟩ = some (u403002) ∧ w'.cell? ⟨gb402, 3, none⟩ = some (.slice Ao13 t399.length co13) ∧ w'.cell? ⟨gb404, 0, none⟩ = some (.int .i64 ((rd_T41 l0_2 x18_1).f0)) ∧ w'.cell? ⟨gb404, 1, none⟩ = some (.slice A403_1 ((rd_T41 l0_2 x18_1).f1).length c403_1)) (ds := [11]) #[false, false, false, false, false, false, false, false, false, false, false, false] (by kernel_rfl) rfl rfl ⟨bc_ BK402 0, bc_ BK402 1, bc_ BK402 2, bc_ BK402 3, bc_ BK404 0, bc_ BK404 1⟩ (fun hHeld => ?_); refine with_tabW impl_Client_copy.tab5 impl_Client_copy.bits5 (fun HT_ HW_ => ?_)
       generalize w32.drew = w33 at HO_403001 HO_403002 HO_403003 BK394 BK395 BK402 BK404 HB hHeld ⊢
       refine pu_ (i := 0) (N := some 22) HT_ ?_; refine pu_ (i := 2) (N := some 24) HT_ ?_; refine pu_ (i := 4) (N := some 26) HT_ ?_; refine tk_ (i := 1) (N := some 23) HT_ HW_ hHeld ?_; refine tk_ (i := 3) (N := some 25) HT_ HW_ hHeld ?_; refine tk_ (i := 5) (N := some 27) HT_ HW_ hHeld ?_
       refine on_ (i := 6) (N := some 28) HT_ (fun K hK => ?_)
       refine goes_ Try.func66 (by kernel_rfl) rfl #[.slice A403_1 ((rd_T41 l0_2 x18_1).f1).length c403_1] (by rfl) rfl rfl ar_ ?_
       with_reducible refine (impl_clone_byte.calls _ _ ((rd_T41 l0_2 x18_1).f1) t405 _ ?side1 ?side2 A25.out).mono ?_
       (case side1 => exact kC_ (Kd.C_below HR403_1.out HB.out))
       (case side2 => exact HC403_1.out)
       rintro e w34 ⟨v406, rfl, ho0, hb⟩
       refine ⟨_, rfl, ?_⟩
       replace HO_403001 := Aside0.mk (Kd.R_below (kR_ HO_403001.out) hb); replace HO_403002 := Aside0.mk (Kd.S_elder' (kS_ HO_403002.out) (Kd.R_base ho0) hb); replace HO_403003 := Aside0.mk (Kd.R_below (kR_ HO_403003.out) hb); have HO407 := Aside0.mk (Kd.R_lower ho0 (below_size (hbA_ HB.out))); replace BK394 := (bbA_ BK394 hb); replace BK395 := (bbA_ BK395 hb); replace BK402 := (bbA_ BK402 hb); replace BK404 := (bbA_ BK404 hb); replace HB := (bs_ HB hb); (try clear hb); (try clear hb2); (try clear hk); (try clear hi); (try clear ho0)
       obtain ⟨Ao35, co35, eo35⟩ := Kd.R_slice HO407.out
       (first | subst eo35 | (injection eo35 with f1_ f2_ f3_; have f4_ := f1_.symm; have f5_ := f3_.symm; clear f1_ f2_ f3_; subst f4_; subst f5_))
       refine hK.out _ _ ⟨bc_ BK402 0, bc_ BK402 1, bc_ BK402 2, bc_ BK402 3, bc_ BK404 0, bc_ BK404 1⟩ (fun hHeld => ?_)
       clear hK K; refine nm_ 28 ?_; refine pu_ (i := 7) (N := some 29) HT_ ?_
       refine on_ (i := 8) (N := some 30) HT_ (fun K hK => ?_)
       refine value_ (w1 := ?_) (v := ?_) (by rfl) rfl ?_ ?_
       rotate_left 2
       ·go_simp
        constructor
        ·rfl
        ·rfl
       refine hK.out _ _ ⟨(blk_cell (blk_alloc BK402.out _) 0).trans rfl, (blk_cell (blk_alloc BK402.out _) 1).trans rfl, (blk_cell (blk_alloc BK402.out _) 2).trans rfl, (blk_cell (blk_alloc BK402.out _) 3).trans rfl, (blk_cell (blk_alloc BK404.out _) 0).trans rfl, (blk_cell (blk_alloc BK404.out _) 1).trans rfl⟩ (fun hHeld => ?_)
       clear hK K; refine nm_ 30 ?_
       refine on_ (i := 9) (N := some 31) HT_ (fun K hK => ?_)
       refine Kd.S_append_step k41 (w0 := w) w.heap.size (by rfl) (.tmp 23) (.tmp 30) 28 41 (.agg #[(.int .i64 0), (.slice none 0 0)]) 32 rfl Try.underlying28 info41 rfl (by decide) (by omega) u403002 x403002_1 (⟨(rd_T41 l0_2 x18_1).f0, t405⟩ : S41) [.int .i64 ((rd_T41 l0_2 x18_1).f0), .slice Ao35 t405.length co35] (fun k_ => k_ ≠ gb404) (fun k_ => some k_ = (.slice Ao35 t405.length co35 : Value).ownBlock) rfl rfl ?aP (fun k_ hk_ => ((Kd.R_mono (ok' := fun k_ => ((fun k_ => k_ ≠ gb404)) k_ ∧ some k_ ≠ (u403002 : Value).ownBlock) (Kd.R_types (Kd.R_apart' (HO407.out) (Kd.S_typed HO_403002.out) (by decide)) BK404.out (by decide)) (fun k_ hk => ⟨hk.2, hk.1.2⟩))).1 k_ hk_.symm) ?aF ?aO ?aB ?aS ?aL ?_
       (case aP => exact k41_mkM _ _ _ (⟨(rd_T41 l0_2 x18_1).f0, t405⟩ : S41) (Kd.R_mono (Kd.R_tight rfl (Kd.R_mono (ok' := fun k_ => ((fun k_ => k_ ≠ gb404)) k_ ∧ some k_ ≠ (u403002 : Value).ownBlock) (Kd.R_types (Kd.R_apart' (HO407.out) (Kd.S_typed HO_403002.out) (by decide)) BK404.out (by decide)) (fun k_ hk => ⟨hk.2, hk.1.2⟩))) (fun _ h_ => h_)))
       (case aB => exact (hbA_ HB.out))
       (case aF => exact (fun k_ hk => fb_ BK404 k_ hk))
       (case aO => exact (by refine kS_ ?_; exact Kd.S_mono HO_403002.out (fun k_ hk => ⟨hk.1, fun e_ => hk.2 e_⟩)))
       (case aS => exact (below_size (hbA_ HB.out)))
       (case aL => have := LMc26.out; omega)
       intro v409 w36 ho hb hg hat
       rw [← Ny408.out] at ho
       have n0_ := Aside0.mk (Kd.R_over' (kR_ HO_403001.out) (Kd.S_typed (kS_ HO_403002.out)) (by decide) hg); have n1_ := Aside0.mk (Kd.R_over' (kR_ HO_403003.out) (Kd.S_typed (kS_ HO_403002.out)) (by decide) hg); have n2_ := (bgA_ BK394 hg (Kd.S_ne HO_403002.out BK394.out (by decide))); have n3_ := (bgA_ BK395 hg (Kd.S_ne HO_403002.out BK395.out (by decide))); have n4_ := (bgA_ BK402 hg (Kd.S_ne HO_403002.out BK402.out (by decide))); have n5_ := (bgA_ BK404 hg (Kd.S_away HO_403002.out (fun _ hk => hk.1))); have n6_ := Aside0.mk (hb); have n7_ := Aside0.mk (ho); clear HO_403001 HO_403003 BK394 BK395 BK402 BK404 HB HO_403002 HO407; have HO_403001 := n0_; have HO_403003 := n1_; have BK394 := n2_; have BK395 := n3_; have BK402 := n4_; have BK404 := n5_; have HB := n6_; have HO410 := n7_; clear n0_ n1_ n2_ n3_ n4_ n5_ n6_ n7_ ho hb hg hat
       obtain ⟨Ao37, co37, eo37⟩ := Kd.S_slice HO410.out
       (first | subst eo37 | (injection eo37 with f1_ f2_ f3_; have f4_ := f1_.symm; have f5_ := f3_.symm; clear f1_ f2_ f3_; subst f4_; subst f5_))
       refine hK.out _ _ ⟨bc_ BK402 0, bc_ BK402 1, bc_ BK402 2, bc_ BK402 3, bc_ BK404 0, bc_ BK404 1⟩ (fun hHeld => ?_)
       clear hK K; refine nm_ 31 ?_; refine pu_ (i := 10) (N := some 32) HT_ ?_
       refine last_ (i := 11) (N := none) #[true, true, true, true, true, true, true, true, true, true, true, true] rfl rfl (one_of HT_.out (by kernel_rfl)) (by decide) (fun K hK => ?_)
       have hs38 : w36.cell? ⟨gb402, 2, none⟩ = some (u403002) := bc_ BK402 2
       have hfs38 := blk_frozen BK402.out 2
       have hns38_0 := NB394_402.out; have hns38_1 := NB395_402.out; have hns38_3 := NB404_402.out; have hms38_0 := NB402_394.out; have hms38_1 := NB402_395.out; have hms38_3 := NB402_404.out
       refine skip_ (w1 := ?_) (by rfl) rfl ?_ ?_
       rotate_left
       ·go_simp
        rfl
       refine hK.out _ _ ?_
       clear hK K
       refine done_ (done_of HT_.out (by kernel_rfl)) ?_
       try go_wp2
       go_roundg k1
       case measure => have := HK1.out; omega
       case rel => exact ⟨(wrap64 (x18_1 + 1)), (y408), (.slice Ao37 y408.length co37), (by first | rfl | (simp; done) | (simp [*]; done)), H', ⟨by have := HK1.out; omega⟩, ⟨by refine kR_ ?_; exact Kd.R_mono (Kd.R_f gb402 2 (.slice Ao37 y408.length co37) (Kd.R_types HO_403001.out BK402.out (by decide))) (fun _ hk => hk.1)⟩, ⟨by refine kS_ ?_; exact Kd.S_mono (Kd.S_far (p := ⟨gb402, 2, none⟩) (Kd.S_types HO410.out BK402.out (by decide)) (fun _ hk => hk.2) (.slice Ao37 y408.length co37)) (fun _ hk => trivial)⟩, ⟨by refine kR_ ?_; exact Kd.R_mono (Kd.R_f gb402 2 (.slice Ao37 y408.length co37) (Kd.R_types HO_403003.out BK402.out (by decide))) (fun _ hk => hk.1)⟩, ⟨by exact kf_ BK394.out⟩, ⟨by exact kf_ BK395.out⟩, ⟨by refine kb_ ?_; refine blk_put (cs := #[.int .i64 a0_0, .slice Ao14 t396.length co14, u403002, .slice Ao13 t399.length co13]) ?_ 2 _ rfl; refine kb_ ?_; exact BK402.out⟩, ⟨hbA_ HB.out⟩⟩
      ·rw [if_neg c26] at H
       exact absurd H (by simp)
     ·rw [if_neg c24] at H
      exact absurd H (by simp)
    ·rw [if_neg c23] at H
     exact absurd H (by simp)
   ·rw [if_neg c22] at H
    have c22b0 : decide (x18_1 < (l0_2.length : Int)) = false := decide_eq_false c22
    clear c22
    simp only [Option.some.injEq, Prod.mk.injEq] at H
    obtain ⟨rfl, rfl, rfl, rfl⟩ := H
    have hnb39 := NB402_394.out; have hnc39 := NB394_402.out; have hnb40 := NB402_395.out; have hnc40 := NB395_402.out; have Z41 := zz4 BK402
    obtain ⟨Ao42, co42, eo42⟩ := Kd.S_slice HO_403002.out
    subst eo42
    have hq43 := (Kd.S_reads' HO_403002.out).2.1
    have hr43 := Aside0.mk (Kd.S_clip HO_403002.out (Nat.le_refl _) hq43)
    clear HO_403002; have HO412 := hr43; clear hr43
    go_wp2_with (first | (go_at_call 65; (with_reducible refine (impl_Words.calls _ _ _ _ hq43).mono ?_); rintro e w' ⟨rfl, rfl⟩; have hnb44 := NB395_394.out; have hnc44 := NB394_395.out; have Z45 := zz4 BK395))
    refine bodyPost_ret (results_cell_row rfl _ _ gb395 30 #[.int .i64 a0_0, .slice Ao14 t396.length co14, .slice Ao42 x403002_1.length x403002_1.length, .slice Ao13 t399.length co13] (0, 0) _ rfl (by refine kb_ ?_; refine pz4 (cs := #[.int .i64 0, .slice none 0 0, .slice none 0 0, .slice none 0 0]) ?_; exact kf_ BK395.out) Try.underlying30 rfl (by kernel_rfl)) rfl ?_
    exact ⟨_, _, _, by first | rfl | (simp [errW_none, errW_some] <;> rfl) | (simp [*, errW_none, errW_some] <;> rfl), by refine kR_ ?_; exact rfm_ ((Kd.R_far (p := ⟨gb402, 2, none⟩) (Kd.R_types (Kd.R_types HO_403001.out BK402.out (by decide)) BK395.out (by decide)) (fun _ hk => hk.1.2) (.slice Ao42 x403002_1.length x403002_1.length))) (fun _ hk => hk.1.1), by refine kS_ ?_; exact Kd.S_mono (Kd.S_far (p := ⟨gb395, 3, none⟩) (Kd.S_far (p := ⟨gb395, 2, none⟩) (Kd.S_far (p := ⟨gb395, 1, none⟩) (Kd.S_far (p := ⟨gb395, 0, none⟩) (Kd.S_far (p := ⟨gb402, 2, none⟩) (Kd.S_types (Kd.S_types HO412.out BK402.out (by decide)) BK395.out (by decide)) (fun _ hk => hk.1.2) (.slice Ao42 x403002_1.length x403002_1.length)) (fun _ hk => hk.2) (.int .i64 a0_0)) (fun _ hk => hk.2) (.slice Ao14 t396.length co14)) (fun _ hk => hk.2) (.slice Ao42 x403002_1.length x403002_1.length)) (fun _ hk => hk.2) (.slice Ao13 t399.length co13)) (fun _ hk => trivial), by refine kR_ ?_; exact rfm_ ((Kd.R_far (p := ⟨gb402, 2, none⟩) (Kd.R_types (Kd.R_types HO_403003.out BK402.out (by decide)) BK395.out (by decide)) (fun _ hk => hk.1.2) (.slice Ao42 x403002_1.length x403002_1.length))) (fun _ hk => hk.1.1), hbA_ HB.out⟩
def impl_ClientOver.f (k : Nat) (a0_0 : Int) (l0_1 : List Int) (l0_2 : List (S41)) (l0_3 : List Int) : Option (Int × List Int × (List (S41)) × List Int) := (impl_ClientOk.f k a0_0 l0_1 l0_2 l0_3).bind fun t415 => (if t415 = true then ((impl_Client_copy.f k a0_0 l0_1 l0_2 l0_3).bind fun bt416 => (if bt416.2.2.2.length + bt416.2.1.length < 17592186044416 then ((impl_Client_copy.f k bt416.1 ([] : List Int) bt416.2.2.1 (bt416.2.2.2 ++ bt416.2.1)).bind fun bt430 => (some (bt430.1, bt430.2.1, bt430.2.2.1, bt430.2.2.2))) else (none))) else (some (0, ([] : List Int), ([] : List (S41)), ([] : List Int))))
theorem impl_ClientOver.mono : ∀ a0 a1 a2 a3 k, LeO (impl_ClientOver.f k a0 a1 a2 a3) (impl_ClientOver.f (k + 1) a0 a1 a2 a3) := by
 intro a0 a1 a2 a3 k
 unfold impl_ClientOver.f
 repeat' first | (with_reducible first | apply impl_ClientOk.mono | apply impl_Client_copy.mono | exact LeO.refl _ | exact LeO.none _ | refine LeO.ite ?_ ?_ | refine LeO.bind ?_ fun _ => ?_) | apply impl_ClientOk.mono | apply impl_Client_copy.mono | exact LeO.none _ | refine LeO.ite ?_ ?_ | refine LeO.bind ?_ fun _ => ?_
set_option maxHeartbeats 8000000 in
set_option maxRecDepth 100000 in
theorem impl_ClientOver.calls (k : Nat) (a0_0 : Int) (A0_1 : Option Addr) (c0_1 : Nat) (l0_1 : List Int) (A0_2 : Option Addr) (c0_2 : Nat) (l0_2 : List (S41)) (A0_3 : Option Addr) (c0_3 : Nat) (l0_3 : List Int) (r1 : Int) (r2 : List Int) (r3 : List (S41)) (r4 : List Int) (w : World) (hr0_1 : Kd.C (Kd.int .i64) w A0_1 l0_1.length l0_1) (hc0_1 : l0_1.length ≤ c0_1) (hr0_2 : Kd.C k41 w A0_2 l0_2.length l0_2) (hc0_2 : l0_2.length ≤ c0_2) (hr0_3 : Kd.C (Kd.int .i64) w A0_3 l0_3.length l0_3) (hc0_3 : l0_3.length ≤ c0_3) (h : impl_ClientOver.f k a0_0 l0_1 l0_2 l0_3 = some (r1, r2, r3, r4)) :
  Calls Try.prog 17 #[.agg #[.int .i64 a0_0, .slice A0_1 l0_1.length c0_1, .slice A0_2 l0_2.length c0_2, .slice A0_3 l0_3.length c0_3]] w fun e w' => ∃ v1_ v2_ v3_ : Value, e = .returned (.agg #[.int .i64 r1, v1_, v2_, v3_]) ∧ Kd.R (Kd.int .i64) 3 w' w.heap.size (fun k_ => some k_ ≠ (v3_ : Value).ownBlock) v1_ r2 ∧ Kd.S k41 41 w' w.heap.size (fun _ => True) v2_ r3 ∧ Kd.R (Kd.int .i64) 3 w' w.heap.size (fun k_ => some k_ ≠ (v1_ : Value).ownBlock) v3_ r4 ∧ Below w.heap.size w w' := by
 have hu30 := Try.underlying30; have HR0_1 := Aside0.mk hr0_1; have HC0_1 := Aside0.mk hc0_1; clear hr0_1 hc0_1; have HR0_2 := Aside0.mk hr0_2; have HC0_2 := Aside0.mk hc0_2; clear hr0_2 hc0_2; have HR0_3 := Aside0.mk hr0_3; have HC0_3 := Aside0.mk hc0_3; clear hr0_3 hc0_3
 have HB := Aside0.mk (Below.refl w.heap.size w)
 have H : ((impl_ClientOk.f k a0_0 l0_1 l0_2 l0_3).bind fun t415 => (if t415 = true then ((impl_Client_copy.f k a0_0 l0_1 l0_2 l0_3).bind fun bt416 => (if bt416.2.2.2.length + bt416.2.1.length < 17592186044416 then ((impl_Client_copy.f k bt416.1 ([] : List Int) bt416.2.2.1 (bt416.2.2.2 ++ bt416.2.1)).bind fun bt430 => (some (bt430.1, bt430.2.1, bt430.2.2.1, bt430.2.2.2))) else (none))) else (some (0, ([] : List Int), ([] : List (S41)), ([] : List Int))))) = some (r1, r2, r3, r4) := h
 clear h
 replace H := Option.bind_eq_some_iff.mp H
 obtain ⟨t415, A20, H⟩ := H
 (try dsimp only at H)
 have A2 := Aside0.mk A20; clear A20
 by_cases c3 : t415 = true
 ·subst c3
  rw [if_pos rfl] at H
  replace H := Option.bind_eq_some_iff.mp H
  obtain ⟨⟨t416, t417, t420, t423⟩, A40, H⟩ := H
  (try dsimp only at H)
  have A4 := Aside0.mk A40; clear A40
  by_cases c5 : t423.length + t417.length < 17592186044416
  ·rw [if_pos c5] at H
   have LMc5 := Aside0.mk c5; clear c5
   obtain ⟨y427, hy427⟩ : ∃ y_ : List Int, y_ = (t423 ++ t417) := ⟨_, rfl⟩
   (first | replace H := sb_ hy427 H | rw [← hy427] at H)
   have Ny427 := Aside0.mk hy427; clear hy427
   replace H := Option.bind_eq_some_iff.mp H
   obtain ⟨⟨t430, t431, t434, t437⟩, A60, H⟩ := H
   (try dsimp only at H)
   have A6 := Aside0.mk A60; clear A60
   simp only [Option.some.injEq, Prod.mk.injEq] at H
   obtain ⟨rfl, rfl, rfl, rfl⟩ := H
   go_enter Try.func17, Try.ntmps17
   go_wp2_with (first | ((with_reducible refine gate_dst (N := 1) rfl ?_); refine box_ (N := 1) (cs := #[.int .i64 a0_0, .slice A0_1 l0_1.length c0_1, .slice A0_2 l0_2.length c0_2, .slice A0_3 l0_3.length c0_3]) (t := 30) (fun gb413 hg w7 hbox hb => ?_); have BK413 := Aside0.mk (hbox); have GW413 := ge_ hg HB; have GE413 := ge_ hg HB; replace HB := (bs_ HB hb); clear hb hbox hg) | ((with_reducible refine gate_dst (N := 2) rfl ?_); refine box_ (N := 2) (cs := #[.int .i64 0, .slice none 0 0, .slice none 0 0, .slice none 0 0]) (t := 30) (fun gb414 hg w8 hbox hb => ?_); have BK414 := Aside0.mk (hbox); have GW414 := ge_ hg HB; have GE414 := ge_ hg HB; replace HB := (bs_ HB hb); have NB413_414 := nl_ hg BK413; have NB414_413 := ng_ hg BK413; replace BK413 := (bbA_ BK413 hb); clear hb hbox hg; have hnb9 := NB413_414.out; have hnc9 := NB414_413.out; have Z10 := zz4 BK413) | ((with_reducible refine gate_callee (f := 14) rfl ?_); refine goesL_ (some 5) rfl rfl Try.func14 (by kernel_rfl) rfl #[.agg #[.int .i64 a0_0, .slice A0_1 l0_1.length c0_1, .slice A0_2 l0_2.length c0_2, .slice A0_3 l0_3.length c0_3]] rfl ar_ ?_; (with_reducible refine (impl_ClientOk.calls k a0_0 _ _ l0_1 _ _ l0_2 _ _ l0_3 true _ ?side1 ?side2 ?side3 ?side4 ?side5 ?side6 A2.out).mono ?_); (case side1 => exact kC_ (Kd.C_below HR0_1.out HB.out)); (case side2 => exact HC0_1.out); (case side3 => exact kC_ (Kd.C_below HR0_2.out HB.out)); (case side4 => exact HC0_2.out); (case side5 => exact kC_ (Kd.C_below HR0_3.out HB.out)); (case side6 => exact HC0_3.out); rintro e w11 ⟨rfl, hb⟩; refine ⟨_, rfl, ?_⟩; replace BK413 := (bbA_ BK413 hb); replace BK414 := (bbA_ BK414 hb); replace HB := (bs_ HB hb); (try clear hb); (try clear hb2); (try clear hk); (try clear hi); have Z12 := zz4 BK413) | ((with_reducible refine gate_callee (f := 54) rfl ?_); refine goesL_ (some 9) rfl rfl Try.func54 (by kernel_rfl) rfl #[.agg #[.int .i64 a0_0, .slice A0_1 l0_1.length c0_1, .slice A0_2 l0_2.length c0_2, .slice A0_3 l0_3.length c0_3]] rfl ar_ ?_; (with_reducible refine (impl_Client_copy.calls k a0_0 _ _ l0_1 _ _ l0_2 _ _ l0_3 t416 t417 t420 t423 _ ?side1 ?side2 ?side3 ?side4 ?side5 ?side6 A4.out).mono ?_); (case side1 => exact kC_ (Kd.C_below HR0_1.out HB.out)); (case side2 => exact HC0_1.out); (case side3 => exact kC_ (Kd.C_below HR0_2.out HB.out)); (case side4 => exact HC0_2.out); (case side5 => exact kC_ (Kd.C_below HR0_3.out HB.out)); (case side6 => exact HC0_3.out); rintro e w13 ⟨v418, v421, v424, rfl, ho0, ho1, ho2, hb⟩; refine ⟨_, rfl, ?_⟩; have HO419 := Aside0.mk (Kd.R_lower ho0 (below_size (hbA_ HB.out))); have HO422 := Aside0.mk (Kd.S_lower ho1 (below_size (hbA_ HB.out))); have HO425 := Aside0.mk (Kd.R_lower ho2 (below_size (hbA_ HB.out))); replace BK413 := (bbA_ BK413 hb); replace BK414 := (bbA_ BK414 hb); replace HB := (bs_ HB hb); (try clear hb); (try clear hb2); (try clear hk); (try clear hi); (try clear ho0); (try clear ho1); (try clear ho2)) | ((with_reducible refine gate_dst (N := 3) rfl ?_); refine box_ (N := 3) (cs := #[.int .i64 0, .slice none 0 0, .slice none 0 0, .slice none 0 0]) (t := 30) (fun gb426 hg w14 hbox hb => ?_); replace HO419 := Aside0.mk (Kd.R_below (kR_ HO419.out) hb); replace HO422 := Aside0.mk (Kd.S_below (kS_ HO422.out) hb); replace HO425 := Aside0.mk (Kd.R_below (kR_ HO425.out) hb); have BK426 := Aside0.mk (hbox); have GW426 := ge_ hg HB; have GE426 := ge_ hg HB; replace HB := (bs_ HB hb); have NB413_426 := nl_ hg BK413; have NB426_413 := ng_ hg BK413; replace BK413 := (bbA_ BK413 hb); have NB414_426 := nl_ hg BK414; have NB426_414 := ng_ hg BK414; replace BK414 := (bbA_ BK414 hb); clear hb hbox hg; have hnb15 := NB426_413.out; have hnc15 := NB413_426.out; have hnb16 := NB426_414.out; have hnc16 := NB414_426.out; have Z17 := zz4 BK426; obtain ⟨Ao18, co18, eo18⟩ := Kd.R_slice HO419.out; subst eo18; obtain ⟨Ao19, co19, eo19⟩ := Kd.S_slice HO422.out; subst eo19; obtain ⟨Ao20, co20, eo20⟩ := Kd.R_slice HO425.out; subst eo20) | ((with_reducible refine gate_builtin (b := .append) (xs := #[.tmp 11, .tmp 13]) rfl ?_); at_builtin; refine Kd.R_append_rows (Kd.int .i64) (w0 := w) w.heap.size rfl (.tmp 11) (.tmp 13) 22 3 (.int .i64 0) 8 rfl Try.underlying22 info3 rfl (by decide) (by omega) (.slice Ao20 t423.length co20) t423 t417 _ _ _ (fun k_ => some k_ ≠ (.slice Ao18 t417.length co18 : Value).ownBlock) (fun _ => False) rfl rfl ?aO ?aR (fun _ _ h => h) (fun _ h => h.elim) ?aF ?aB ?aS ?aL ?_; (case aR => refine (Kd.R_reads' (e := 3) (base := w.heap.size) (ok := fun k_ => some k_ ≠ (.slice Ao20 t423.length co20 : Value).ownBlock) (n := t417.length) (c := co18) ?_).2.2; exact (by refine kR_ ?_; exact (rfm_ ((Kd.R_types HO419.out BK426.out (by decide))) (fun _ h_ => op1_ h_)))); (case aB => exact (hbA_ HB.out)); (case aF => exact (fun k_ hk => Kd.fresh' (Kd.R_lt (by refine kR_ ?_; exact (rfm_ ((Kd.R_types HO419.out BK426.out (by decide))) (fun _ h_ => op1_ h_)))) k_ hk)); (case aO => exact (by refine kR_ ?_; exact rfm_ ((Kd.R_types HO425.out BK426.out (by decide))) (fun _ hk => hk.1))); (case aS => exact (below_size (hbA_ HB.out))); (case aL => have := LMc5.out; omega); intro v428 w21 ho hb hg hat; rw [← Ny427.out] at ho; replace BK413 := Aside0.mk (blk_grown (g := gb413) (o := .cells #[.int .i64 a0_0, .slice A0_1 l0_1.length c0_1, .slice A0_2 l0_2.length c0_2, .slice A0_3 l0_3.length c0_3] 30 (0, 0)) (by exact kf_ BK413.out) hg (Kd.R_ne HO425.out BK413.out (by decide))); replace BK414 := Aside0.mk (blk_grown (g := gb414) (o := .cells #[.int .i64 0, .slice none 0 0, .slice none 0 0, .slice none 0 0] 30 (0, 0)) (by exact kf_ BK414.out) hg (Kd.R_ne HO425.out BK414.out (by decide))); replace HO419 := Aside0.mk (Kd.R_after (ok := (fun _ => True)) (by refine kR_ ?_; exact rfm_ ((Kd.R_types HO419.out BK426.out (by decide))) (fun _ hk => ⟨trivial, hk.1⟩)) hg hat); replace HO422 := Aside0.mk (Kd.S_over' (by refine kS_ ?_; exact (Kd.S_mono (Kd.S_far (p := ⟨gb426, 3, none⟩) (Kd.S_far (p := ⟨gb426, 2, none⟩) (Kd.S_far (p := ⟨gb426, 1, none⟩) (Kd.S_far (p := ⟨gb426, 0, none⟩) (Kd.S_types HO422.out BK426.out (by decide)) (fun _ hk => hk.2) (.int .i64 t416)) (fun _ hk => hk.2) (.slice Ao18 t417.length co18)) (fun _ hk => hk.2) (.slice Ao19 t420.length co19)) (fun _ hk => hk.2) (.slice Ao20 t423.length co20)) (fun _ h_ => op1_ h_))) (Kd.R_typed (by refine kR_ ?_; exact (rfm_ ((Kd.R_types HO425.out BK426.out (by decide))) (fun _ h_ => op1_ h_)))) (by decide) hg); replace BK426 := Aside0.mk (blk_grown (g := gb426) (o := .cells #[.int .i64 t416, .slice Ao18 t417.length co18, .slice Ao19 t420.length co19, .slice Ao20 t423.length co20] 30 (0, 0)) (by refine kb_ ?_; refine pz4 (cs := #[.int .i64 0, .slice none 0 0, .slice none 0 0, .slice none 0 0]) ?_; refine kb_ ?_; exact BK426.out) hg (Kd.R_ne HO425.out BK426.out (by decide))); replace HB := Aside0.mk (hb); have HO429 := Aside0.mk (ho); clear HO425; clear ho hb hg hat; obtain ⟨Ao22, co22, eo22⟩ := Kd.R_slice HO429.out; subst eo22; have Z23 := zz4 BK426) | ((with_reducible refine gate_callee (f := 54) rfl ?_); refine goesL_ (some 18) rfl rfl Try.func54 (by kernel_rfl) rfl #[.agg #[.int .i64 t416, .slice none 0 0, .slice Ao19 t420.length co19, .slice Ao22 y427.length co22]] rfl ar_ ?_; (refine (impl_Client_copy.calls k t416 _ _ ([] : List Int) _ _ t420 _ _ y427 t430 t431 t434 t437 _ ?side1 ?side2 ?side3 ?side4 ?side5 ?side6 A6.out).mono ?_); (case side1 => exact Kd.C_nil _ _); (case side2 => first | exact Nat.le_refl _ | exact ⟨rfl, rfl⟩); (case side3 => refine (Kd.S_reads' (e := 41) (base := w.heap.size) (ok := fun k_ => True) (n := t420.length) (c := co19) ?_).2.2; exact (by refine kS_ ?_; exact (Kd.S_mono (Kd.S_far (p := ⟨gb426, 1, none⟩) (Kd.S_far (p := ⟨gb426, 3, none⟩) (Kd.S_types HO422.out BK426.out (by decide)) (fun _ hk => hk.2) (.slice Ao22 y427.length co22)) (fun _ hk => hk.2) (.slice none 0 0)) (fun _ h_ => op1_ h_)))); (case side4 => exact (Kd.S_reads' HO422.out).2.1); (case side5 => refine (Kd.R_reads' (e := 3) (base := w.heap.size) (ok := fun k_ => some k_ ≠ (.slice Ao18 t417.length co18 : Value).ownBlock) (n := y427.length) (c := co22) ?_).2.2; exact (by refine kR_ ?_; exact (rfm_ ((Kd.R_types HO429.out BK426.out (by decide))) (fun _ h_ => op1_ h_)))); (case side6 => exact (Kd.R_reads' HO429.out).2.1); rintro e w24 ⟨v432, v435, v438, rfl, ho0, ho1, ho2, hb⟩; refine ⟨_, rfl, ?_⟩; have HO433 := Aside0.mk (Kd.R_lower (Kd.R_new' (Kd.R_new' ho0 (Kd.R_lt (by refine kR_ ?_; exact (rfm_ ((Kd.R_types HO419.out BK426.out (by decide))) (fun _ h_ => op1_ h_))))) (Kd.R_lt (by refine kR_ ?_; exact (rfm_ ((Kd.R_types HO429.out BK426.out (by decide))) (fun _ h_ => op1_ h_))))) (below_size (hbA_ HB.out))); have HO436 := Aside0.mk (Kd.S_lower (Kd.S_new' ho1 (Kd.S_lt (by refine kS_ ?_; exact (Kd.S_mono (Kd.S_far (p := ⟨gb426, 1, none⟩) (Kd.S_far (p := ⟨gb426, 3, none⟩) (Kd.S_types HO422.out BK426.out (by decide)) (fun _ hk => hk.2) (.slice Ao22 y427.length co22)) (fun _ hk => hk.2) (.slice none 0 0)) (fun _ h_ => op1_ h_))))) (below_size (hbA_ HB.out))); replace HO422 := Aside0.mk (Kd.S_elder' (by refine kS_ ?_; exact (Kd.S_mono (Kd.S_far (p := ⟨gb426, 1, none⟩) (Kd.S_far (p := ⟨gb426, 3, none⟩) (Kd.S_types HO422.out BK426.out (by decide)) (fun _ hk => hk.2) (.slice Ao22 y427.length co22)) (fun _ hk => hk.2) (.slice none 0 0)) (fun _ h_ => op1_ h_))) (Kd.S_base ho1) hb); have HO439 := Aside0.mk (Kd.R_lower (Kd.R_new' (Kd.R_new' ho2 (Kd.R_lt (by refine kR_ ?_; exact (rfm_ ((Kd.R_types HO419.out BK426.out (by decide))) (fun _ h_ => op1_ h_))))) (Kd.R_lt (by refine kR_ ?_; exact (rfm_ ((Kd.R_types HO429.out BK426.out (by decide))) (fun _ h_ => op1_ h_))))) (below_size (hbA_ HB.out))); replace HO419 := Aside0.mk (Kd.R_mono (Kd.R_told (Kd.R_told (Kd.R_old (by refine kR_ ?_; exact (rfm_ ((Kd.R_types HO419.out BK426.out (by decide))) (fun _ h_ => op1_ h_))) hb) (Kd.R_base ho0)) (Kd.R_base ho2)) (fun _ h_ => op1_ h_)); replace HO429 := Aside0.mk (Kd.R_mono (Kd.R_told (Kd.R_told (Kd.R_old (by refine kR_ ?_; exact (rfm_ ((Kd.R_types HO429.out BK426.out (by decide))) (fun _ h_ => op1_ h_))) hb) (Kd.R_base ho0)) (Kd.R_base ho2)) (fun _ h_ => op1_ h_)); replace BK413 := Aside0.mk (blk_below (g := gb413) (o := .cells #[.int .i64 a0_0, .slice A0_1 l0_1.length c0_1, .slice A0_2 l0_2.length c0_2, .slice A0_3 l0_3.length c0_3] 30 (0, 0)) (by exact kf_ BK413.out) hb); replace BK414 := Aside0.mk (blk_below (g := gb414) (o := .cells #[.int .i64 0, .slice none 0 0, .slice none 0 0, .slice none 0 0] 30 (0, 0)) (by exact kf_ BK414.out) hb); replace BK426 := Aside0.mk (blk_below (g := gb426) (o := .cells #[.int .i64 t416, .slice none 0 0, .slice Ao19 t420.length co19, .slice Ao22 y427.length co22] 30 (0, 0)) (by refine kb_ ?_; refine blk_put (cs := #[.int .i64 t416, .slice Ao18 t417.length co18, .slice Ao19 t420.length co19, .slice Ao22 y427.length co22]) ?_ 1 _ rfl; refine kb_ ?_; refine blk_put (cs := #[.int .i64 t416, .slice Ao18 t417.length co18, .slice Ao19 t420.length co19, .slice Ao20 t423.length co20]) ?_ 3 _ rfl; refine kb_ ?_; exact BK426.out) hb); replace HB := (bs_ HB hb); (try clear hb); (try clear hb2); (try clear hk); (try clear hi); (try clear ho0); (try clear ho1); (try clear ho2); have Z25 := zz4 BK414; obtain ⟨Ao26, co26, eo26⟩ := Kd.R_slice HO433.out; subst eo26; obtain ⟨Ao27, co27, eo27⟩ := Kd.S_slice HO436.out; subst eo27; obtain ⟨Ao28, co28, eo28⟩ := Kd.R_slice HO439.out; subst eo28))
   refine bodyPost_ret (results_cell_row rfl _ _ gb414 30 #[.int .i64 t430, .slice Ao26 t431.length co26, .slice Ao27 t434.length co27, .slice Ao28 t437.length co28] (0, 0) _ rfl (by refine kb_ ?_; refine pz4 (cs := #[.int .i64 0, .slice none 0 0, .slice none 0 0, .slice none 0 0]) ?_; refine kb_ ?_; exact BK414.out) Try.underlying30 rfl (by kernel_rfl)) rfl ?_
   exact ⟨_, _, _, by first | rfl | (simp [errW_none, errW_some] <;> rfl) | (simp [*, errW_none, errW_some] <;> rfl), by refine kR_ ?_; exact rfm_ ((Kd.R_types HO433.out BK414.out (by decide))) (fun _ hk => hk.1.1.1), by refine kS_ ?_; exact Kd.S_mono (Kd.S_far (p := ⟨gb414, 3, none⟩) (Kd.S_far (p := ⟨gb414, 2, none⟩) (Kd.S_far (p := ⟨gb414, 1, none⟩) (Kd.S_far (p := ⟨gb414, 0, none⟩) (Kd.S_types HO436.out BK414.out (by decide)) (fun _ hk => hk.2) (.int .i64 t430)) (fun _ hk => hk.2) (.slice Ao26 t431.length co26)) (fun _ hk => hk.2) (.slice Ao27 t434.length co27)) (fun _ hk => hk.2) (.slice Ao28 t437.length co28)) (fun _ hk => trivial), by refine kR_ ?_; exact rfm_ ((Kd.R_types HO439.out BK414.out (by decide))) (fun _ hk => hk.1.1.1), hbA_ HB.out⟩
  ·rw [if_neg c5] at H
   exact absurd H (by simp)
 ·replace c3 := Bool.eq_false_iff.mpr c3
  subst c3
  rw [if_neg (show ¬ (false = true) by decide)] at H
  simp only [Option.some.injEq, Prod.mk.injEq] at H
  obtain ⟨rfl, rfl, rfl, rfl⟩ := H
  go_enter Try.func17, Try.ntmps17
  go_wp2_with (first | ((with_reducible refine gate_dst (N := 1) rfl ?_); refine box_ (N := 1) (cs := #[.int .i64 a0_0, .slice A0_1 l0_1.length c0_1, .slice A0_2 l0_2.length c0_2, .slice A0_3 l0_3.length c0_3]) (t := 30) (fun gb413 hg w29 hbox hb => ?_); have BK413 := Aside0.mk (hbox); have GW413 := ge_ hg HB; have GE413 := ge_ hg HB; replace HB := (bs_ HB hb); clear hb hbox hg) | ((with_reducible refine gate_dst (N := 2) rfl ?_); refine box_ (N := 2) (cs := #[.int .i64 0, .slice none 0 0, .slice none 0 0, .slice none 0 0]) (t := 30) (fun gb414 hg w30 hbox hb => ?_); have BK414 := Aside0.mk (hbox); have GW414 := ge_ hg HB; have GE414 := ge_ hg HB; replace HB := (bs_ HB hb); have NB413_414 := nl_ hg BK413; have NB414_413 := ng_ hg BK413; replace BK413 := (bbA_ BK413 hb); clear hb hbox hg; have hnb31 := NB413_414.out; have hnc31 := NB414_413.out; have Z32 := zz4 BK413) | ((with_reducible refine gate_callee (f := 14) rfl ?_); refine goesL_ (some 5) rfl rfl Try.func14 (by kernel_rfl) rfl #[.agg #[.int .i64 a0_0, .slice A0_1 l0_1.length c0_1, .slice A0_2 l0_2.length c0_2, .slice A0_3 l0_3.length c0_3]] rfl ar_ ?_; (with_reducible refine (impl_ClientOk.calls k a0_0 _ _ l0_1 _ _ l0_2 _ _ l0_3 false _ ?side1 ?side2 ?side3 ?side4 ?side5 ?side6 A2.out).mono ?_); (case side1 => exact kC_ (Kd.C_below HR0_1.out HB.out)); (case side2 => exact HC0_1.out); (case side3 => exact kC_ (Kd.C_below HR0_2.out HB.out)); (case side4 => exact HC0_2.out); (case side5 => exact kC_ (Kd.C_below HR0_3.out HB.out)); (case side6 => exact HC0_3.out); rintro e w33 ⟨rfl, hb⟩; refine ⟨_, rfl, ?_⟩; replace BK413 := (bbA_ BK413 hb); replace BK414 := (bbA_ BK414 hb); replace HB := (bs_ HB hb); (try clear hb); (try clear hb2); (try clear hk); (try clear hi); have Z34 := zz4 BK414))
  refine bodyPost_ret (results_cell_row rfl _ _ gb414 30 #[.int .i64 0, .slice none 0 0, .slice none 0 0, .slice none 0 0] (0, 0) _ rfl (by refine kb_ ?_; refine pz4 (cs := #[.int .i64 0, .slice none 0 0, .slice none 0 0, .slice none 0 0]) ?_; refine kb_ ?_; exact BK414.out) Try.underlying30 rfl (by kernel_rfl)) rfl ?_
  exact ⟨_, _, _, by first | rfl | (simp [errW_none, errW_some] <;> rfl) | (simp [*, errW_none, errW_some] <;> rfl), by first | exact Kd.R_nil _ _ _ _ _ | exact Kd.N_nil _ _ _ _ _ | exact Kd.V_nil _ _ _ _ _ | exact Kd.Q_nil _ _ _ _ _ | exact Kd.S_nil _ _ _ _ _, by first | exact Kd.S_nil _ _ _ _ _ | exact Kd.N_nil _ _ _ _ _ | exact Kd.V_nil _ _ _ _ _ | exact Kd.Q_nil _ _ _ _ _ | exact Kd.R_nil _ _ _ _ _, by first | exact Kd.R_nil _ _ _ _ _ | exact Kd.N_nil _ _ _ _ _ | exact Kd.V_nil _ _ _ _ _ | exact Kd.Q_nil _ _ _ _ _ | exact Kd.S_nil _ _ _ _ _, hbA_ HB.out⟩
def laws_sameBytes.f (l0 : List Int) (l1 : List Int) : Option (Bool) := some ((strOfNums l0).toList == (strOfNums l1).toList)
set_option maxHeartbeats 8000000 in
set_option maxRecDepth 100000 in
theorem laws_sameBytes.calls (A0 : Option Addr) (c0 : Nat) (l0 : List Int) (A1 : Option Addr) (c1 : Nat) (l1 : List Int) (r : Bool) (w : World) (hr0 : Kd.C (Kd.int .u8) w A0 l0.length l0) (hc0 : l0.length ≤ c0) (hr1 : Kd.C (Kd.int .u8) w A1 l1.length l1) (hc1 : l1.length ≤ c1) (h : laws_sameBytes.f l0 l1 = some r) :
  Calls Try.prog 28 #[.slice A0 l0.length c0, .slice A1 l1.length c1] w fun e w' => e = .returned (.bool r) ∧ Drawn0 w w' := by
 have HR0 := Aside0.mk hr0; have HC0 := Aside0.mk hc0; clear hr0 hc0; have HR1 := Aside0.mk hr1; have HC1 := Aside0.mk hc1; clear hr1 hc1
 have H : (some ((strOfNums l0).toList == (strOfNums l1).toList)) = some r := h
 clear h
 obtain rfl := Option.some.inj H
 have hcv3 := Kd.C_string (P := Try.prog) (A := A0) (c := c0) Try.underlying34 Try.underlying5 Try.underlying9 HR0.out
 have hcv4 := Kd.C_string (P := Try.prog) (A := A1) (c := c1) Try.underlying34 Try.underlying5 Try.underlying9 HR1.out
 go_enter Try.func28, Try.ntmps28
 go_wp2
 go_ret
 exact ⟨by first | rfl | (simp; done) | (simp [*]; done), by repeat (first | exact Drawn0.refl _ | apply Drawn0.step)⟩
def laws_sameInts.l0 : Nat → List Int → List Int → Int → Option (Bool)
 | 0, _, _, _ => none
 | k + 1, x0, x1, x5 => if x5 < (x0.length : Int) then (if 0 ≤ x5 then (if x5 < (x1.length : Int) then (if (rd x0 x5) = (rd x1 x5) then (laws_sameInts.l0 k x0 x1 (wrap64 (x5 + 1))) else (some false)) else (none)) else (none)) else (some true)
def laws_sameInts.f (k : Nat) (l0 : List Int) (l1 : List Int) : Option (Bool) := if (l0.length : Int) = (l1.length : Int) then (laws_sameInts.l0 k l0 l1 0) else (some false)
theorem laws_sameInts.mono_l : ∀ k, (∀ y0 y1 y2, LeO (laws_sameInts.l0 k y0 y1 y2) (laws_sameInts.l0 (k + 1) y0 y1 y2))
 | 0 => fun _ _ _ r h => by simp [laws_sameInts.l0] at h
 | k + 1 => by
  have ih0 := laws_sameInts.mono_l k
  ·intro y0 y1 y2
   unfold laws_sameInts.l0
   repeat' first | (with_reducible first | apply ih0 | exact LeO.refl _ | exact LeO.none _ | refine LeO.ite ?_ ?_ | refine LeO.bind ?_ fun _ => ?_) | apply ih0 | exact LeO.none _ | refine LeO.ite ?_ ?_ | refine LeO.bind ?_ fun _ => ?_
theorem laws_sameInts.mono : ∀ a0 a1 k, LeO (laws_sameInts.f k a0 a1) (laws_sameInts.f (k + 1) a0 a1) := by
 intro a0 a1 k
 have ih0 := laws_sameInts.mono_l k
 unfold laws_sameInts.f
 repeat' first | (with_reducible first | apply ih0 | exact LeO.refl _ | exact LeO.none _ | refine LeO.ite ?_ ?_ | refine LeO.bind ?_ fun _ => ?_) | apply ih0 | exact LeO.none _ | refine LeO.ite ?_ ?_ | refine LeO.bind ?_ fun _ => ?_
set_option maxHeartbeats 8000000 in
set_option maxRecDepth 100000 in
theorem laws_sameInts.calls (k : Nat) (A0 : Option Addr) (c0 : Nat) (l0 : List Int) (A1 : Option Addr) (c1 : Nat) (l1 : List Int) (r : Bool) (w : World) (hr0 : Kd.C (Kd.int .i64) w A0 l0.length l0) (hc0 : l0.length ≤ c0) (hr1 : Kd.C (Kd.int .i64) w A1 l1.length l1) (hc1 : l1.length ≤ c1) (h : laws_sameInts.f k l0 l1 = some r) :
  Calls Try.prog 55 #[.slice A0 l0.length c0, .slice A1 l1.length c1] w fun e w' => e = .returned (.bool r) ∧ Drawn0 w w' := by
 have HR0 := Aside0.mk hr0; have HC0 := Aside0.mk hc0; clear hr0 hc0; have HR1 := Aside0.mk hr1; have HC1 := Aside0.mk hc1; clear hr1 hc1
 have H : (if (l0.length : Int) = (l1.length : Int) then (laws_sameInts.l0 k l0 l1 0) else (some false)) = some r := h
 clear h
 by_cases c3 : (l0.length : Int) = (l1.length : Int)
 ·rw [if_pos c3] at H
  have c3b0 : ((l0.length : Int) == (l1.length : Int)) = true := beq_iff_eq.mpr c3
  have c3b1 : ((l0.length : Int) != (l1.length : Int)) = false := bne_eq_false_iff_eq.mpr c3
  have c3b2 : (l0.length == l1.length) = true := by first | simpa using c3 | (simp at c3 ⊢; omega)
  clear c3
  have H' := Aside0.mk H
  clear H
  go_enter Try.func55, Try.ntmps55
  go_wp2
  repeat (go_quiet (fail); try go_wp2)
  go_loopg [5] k (fun kq v5 w' => ∃ (x5_1 : Int), v5 = .int .i64 x5_1 ∧ Aside0 (laws_sameInts.l0 kq l0 l1 x5_1 = some r) ∧ Aside0 (kq ≤ k) ∧ Drawn0 w w')
  case atStart => exact ⟨(0), (by first | rfl | (simp; done) | (simp [*]; done)), H', ⟨Nat.le_refl _⟩, by repeat (first | exact Drawn0.refl _ | apply Drawn0.step)⟩
  case round =>
   clear H'; (try clear c1); (try clear p2); (try clear c3); (try clear c3b0); (try clear c3b1); (try clear c3b2)
   obtain ⟨x5_1, rfl, HA, HK1, ⟨m1, rfl⟩⟩ := hrel
   cases gk with
   | zero => exact absurd HA.out (by simp [laws_sameInts.l0])
   | succ k1 =>
    have H := HA.out; clear HA
    simp only [laws_sameInts.l0] at H
    by_cases c4 : x5_1 < (l0.length : Int)
    ·rw [if_pos c4] at H
     have c4b0 : decide (x5_1 < (l0.length : Int)) = true := decide_eq_true c4
     clear c4
     by_cases c5 : 0 ≤ x5_1
     ·rw [if_pos c5] at H
      have c5b0 : decide (0 ≤ x5_1) = true := decide_eq_true c5
      clear c5
      by_cases c6 : x5_1 < (l1.length : Int)
      ·rw [if_pos c6] at H
       have c6b0 : decide (x5_1 < (l1.length : Int)) = true := decide_eq_true c6
       clear c6
       by_cases c7 : (rd l0 x5_1) = (rd l1 x5_1)
       ·rw [if_pos c7] at H
        have c7b0 : ((rd l0 x5_1) == (rd l1 x5_1)) = true := beq_iff_eq.mpr c7
        have c7b1 : ((rd l0 x5_1) != (rd l1 x5_1)) = false := bne_eq_false_iff_eq.mpr c7
        clear c7
        have H' := Aside0.mk H
        clear H
        have p440 : 0 ≤ (x5_1 : Int) := of_decide_eq_true (by first | (with_reducible assumption) | assumption)
        have q440 : x5_1 < (l0.length : Int) := of_decide_eq_true (by first | (with_reducible assumption) | assumption)
        obtain ⟨ad440, e440, hx440_0⟩ := Kd.at_int HR0.out x5_1 p440 q440
        cases e440
        replace p440 := eq_true p440
        replace q440 := eq_true q440
        have p441 : 0 ≤ (x5_1 : Int) := of_decide_eq_true (by first | (with_reducible assumption) | assumption)
        have q441 : x5_1 < (l1.length : Int) := of_decide_eq_true (by first | (with_reducible assumption) | assumption)
        obtain ⟨ad441, e441, hx441_0⟩ := Kd.at_int HR1.out x5_1 p441 q441
        cases e441
        replace p441 := eq_true p441
        replace q441 := eq_true q441
        go_wp2
        repeat (go_quiet (fail); try go_wp2)
        go_roundg k1
        case measure => have := HK1.out; omega
        case rel => exact ⟨(wrap64 (x5_1 + 1)), (by first | rfl | (simp; done) | (simp [*]; done)), H', ⟨by have := HK1.out; omega⟩, by repeat (first | exact Drawn0.refl _ | apply Drawn0.step)⟩
       ·rw [if_neg c7] at H
        have c7b0 : ((rd l0 x5_1) == (rd l1 x5_1)) = false := beq_eq_false_iff_ne.mpr c7
        have c7b1 : ((rd l0 x5_1) != (rd l1 x5_1)) = true := bne_iff_ne.mpr c7
        obtain rfl := Option.some.inj H
        have p440 : 0 ≤ (x5_1 : Int) := of_decide_eq_true (by first | (with_reducible assumption) | assumption)
        have q440 : x5_1 < (l0.length : Int) := of_decide_eq_true (by first | (with_reducible assumption) | assumption)
        obtain ⟨ad440, e440, hx440_0⟩ := Kd.at_int HR0.out x5_1 p440 q440
        cases e440
        replace p440 := eq_true p440
        replace q440 := eq_true q440
        have p441 : 0 ≤ (x5_1 : Int) := of_decide_eq_true (by first | (with_reducible assumption) | assumption)
        have q441 : x5_1 < (l1.length : Int) := of_decide_eq_true (by first | (with_reducible assumption) | assumption)
        obtain ⟨ad441, e441, hx441_0⟩ := Kd.at_int HR1.out x5_1 p441 q441
        cases e441
        replace p441 := eq_true p441
        replace q441 := eq_true q441
        go_wp2
        repeat (go_quiet (fail); try go_wp2)
        go_ret
        exact ⟨by first | rfl | (simp; done) | (simp [*]; done), by repeat (first | exact Drawn0.refl _ | apply Drawn0.step)⟩
      ·rw [if_neg c6] at H
       exact absurd H (by simp)
     ·rw [if_neg c5] at H
      exact absurd H (by simp)
    ·rw [if_neg c4] at H
     have c4b0 : decide (x5_1 < (l0.length : Int)) = false := decide_eq_false c4
     clear c4
     obtain rfl := Option.some.inj H
     go_wp2
     repeat (go_quiet (fail); try go_wp2)
     go_ret
     exact ⟨by first | rfl | (simp; done) | (simp [*]; done), by repeat (first | exact Drawn0.refl _ | apply Drawn0.step)⟩
 ·rw [if_neg c3] at H
  have c3b0 : ((l0.length : Int) == (l1.length : Int)) = false := beq_eq_false_iff_ne.mpr c3
  have c3b1 : ((l0.length : Int) != (l1.length : Int)) = true := bne_iff_ne.mpr c3
  have c3b2 : (l0.length == l1.length) = false := by first | simpa using c3 | (simp at c3 ⊢; omega)
  obtain rfl := Option.some.inj H
  go_enter Try.func55, Try.ntmps55
  go_wp2
  repeat (go_quiet (fail); try go_wp2)
  go_ret
  exact ⟨by first | rfl | (simp; done) | (simp [*]; done), by repeat (first | exact Drawn0.refl _ | apply Drawn0.step)⟩
mutual
def laws_sameClient.j0 : Nat → Bool → Int → List Int → List (S41) → List Int → Int → List Int → List (S41) → List Int → Option (Bool)
 | 0, _, _, _, _, _, _, _, _, _ => none
 | k + 1, x35, x443000, x443001, x443002, x443003, x444000, x444001, x444002, x444003 => if x35 = true then (some false) else (laws_sameClient.l0 k 0 x443000 x443001 x443002 x443003 x444000 x444001 x444002 x444003)
def laws_sameClient.l0 : Nat → Int → Int → List Int → List (S41) → List Int → Int → List Int → List (S41) → List Int → Option (Bool)
 | 0, _, _, _, _, _, _, _, _, _ => none
 | k + 1, x5, x443000, x443001, x443002, x443003, x444000, x444001, x444002, x444003 => if x5 < (x443002.length : Int) then (if 0 ≤ x5 then (if x5 < (x444002.length : Int) then (if ((rd_T41 x443002 x5).f0) = ((rd_T41 x444002 x5).f0) then ((laws_sameBytes.f ((rd_T41 x443002 x5).f1) ((rd_T41 x444002 x5).f1)).bind fun t450 => (if t450 = true then (laws_sameClient.l0 k (wrap64 (x5 + 1)) x443000 x443001 x443002 x443003 x444000 x444001 x444002 x444003) else (some false))) else (some false)) else (none)) else (none)) else (some true)
end
def laws_sameClient.f (k : Nat) (a0_0 : Int) (l0_1 : List Int) (l0_2 : List (S41)) (l0_3 : List Int) (a1_0 : Int) (l1_1 : List Int) (l1_2 : List (S41)) (l1_3 : List Int) : Option (Bool) := if a0_0 = a1_0 then ((laws_sameInts.f k l0_1 l1_1).bind fun t444 => (if t444 = true then ((laws_sameInts.f k l0_3 l1_3).bind fun t445 => (if t445 = true then (laws_sameClient.j0 k ((l0_2.length : Int) != (l1_2.length : Int)) a0_0 l0_1 l0_2 l0_3 a1_0 l1_1 l1_2 l1_3) else (laws_sameClient.j0 k true a0_0 l0_1 l0_2 l0_3 a1_0 l1_1 l1_2 l1_3))) else (laws_sameClient.j0 k true a0_0 l0_1 l0_2 l0_3 a1_0 l1_1 l1_2 l1_3))) else (laws_sameClient.j0 k true a0_0 l0_1 l0_2 l0_3 a1_0 l1_1 l1_2 l1_3)
theorem laws_sameClient.mono_l : ∀ k, (∀ y0 y1 y2 y3 y4 y5 y6 y7 y8, LeO (laws_sameClient.j0 k y0 y1 y2 y3 y4 y5 y6 y7 y8) (laws_sameClient.j0 (k + 1) y0 y1 y2 y3 y4 y5 y6 y7 y8)) ∧ (∀ y0 y1 y2 y3 y4 y5 y6 y7 y8, LeO (laws_sameClient.l0 k y0 y1 y2 y3 y4 y5 y6 y7 y8) (laws_sameClient.l0 (k + 1) y0 y1 y2 y3 y4 y5 y6 y7 y8))
 | 0 => ⟨fun _ _ _ _ _ _ _ _ _ r h => by simp [laws_sameClient.j0] at h, fun _ _ _ _ _ _ _ _ _ r h => by simp [laws_sameClient.l0] at h⟩
 | k + 1 => by
  obtain ⟨ih0, ih1⟩ := laws_sameClient.mono_l k
  refine ⟨?_, ?_⟩
  ·intro y0 y1 y2 y3 y4 y5 y6 y7 y8
   unfold laws_sameClient.j0
   repeat' first | (with_reducible first | apply ih0 | apply ih1 | apply laws_sameInts.mono | exact LeO.refl _ | exact LeO.none _ | refine LeO.ite ?_ ?_ | refine LeO.bind ?_ fun _ => ?_) | apply ih0 | apply ih1 | apply laws_sameInts.mono | exact LeO.none _ | refine LeO.ite ?_ ?_ | refine LeO.bind ?_ fun _ => ?_
  ·intro y0 y1 y2 y3 y4 y5 y6 y7 y8
   unfold laws_sameClient.l0
   repeat' first | (with_reducible first | apply ih0 | apply ih1 | apply laws_sameInts.mono | exact LeO.refl _ | exact LeO.none _ | refine LeO.ite ?_ ?_ | refine LeO.bind ?_ fun _ => ?_) | apply ih0 | apply ih1 | apply laws_sameInts.mono | exact LeO.none _ | refine LeO.ite ?_ ?_ | refine LeO.bind ?_ fun _ => ?_
theorem laws_sameClient.mono : ∀ a0 a1 a2 a3 a4 a5 a6 a7 k, LeO (laws_sameClient.f k a0 a1 a2 a3 a4 a5 a6 a7) (laws_sameClient.f (k + 1) a0 a1 a2 a3 a4 a5 a6 a7) := by
 intro a0 a1 a2 a3 a4 a5 a6 a7 k
 obtain ⟨ih0, ih1⟩ := laws_sameClient.mono_l k
 unfold laws_sameClient.f
 repeat' first | (with_reducible first | apply ih0 | apply ih1 | apply laws_sameInts.mono | exact LeO.refl _ | exact LeO.none _ | refine LeO.ite ?_ ?_ | refine LeO.bind ?_ fun _ => ?_) | apply ih0 | apply ih1 | apply laws_sameInts.mono | exact LeO.none _ | refine LeO.ite ?_ ?_ | refine LeO.bind ?_ fun _ => ?_
set_option maxHeartbeats 8000000 in
set_option maxRecDepth 100000 in
theorem laws_sameClient.calls (k : Nat) (a0_0 : Int) (A0_1 : Option Addr) (c0_1 : Nat) (l0_1 : List Int) (A0_2 : Option Addr) (c0_2 : Nat) (l0_2 : List (S41)) (A0_3 : Option Addr) (c0_3 : Nat) (l0_3 : List Int) (a1_0 : Int) (A1_1 : Option Addr) (c1_1 : Nat) (l1_1 : List Int) (A1_2 : Option Addr) (c1_2 : Nat) (l1_2 : List (S41)) (A1_3 : Option Addr) (c1_3 : Nat) (l1_3 : List Int) (r : Bool) (w : World) (hr0_1 : Kd.C (Kd.int .i64) w A0_1 l0_1.length l0_1) (hc0_1 : l0_1.length ≤ c0_1) (hr0_2 : Kd.C k41 w A0_2 l0_2.length l0_2) (hc0_2 : l0_2.length ≤ c0_2) (hr0_3 : Kd.C (Kd.int .i64) w A0_3 l0_3.length l0_3) (hc0_3 : l0_3.length ≤ c0_3) (hr1_1 : Kd.C (Kd.int .i64) w A1_1 l1_1.length l1_1) (hc1_1 : l1_1.length ≤ c1_1) (hr1_2 : Kd.C k41 w A1_2 l1_2.length l1_2) (hc1_2 : l1_2.length ≤ c1_2) (hr1_3 : Kd.C (Kd.int .i64) w A1_3 l1_3.length l1_3) (hc1_3 : l1_3.length ≤ c1_3) (h : laws_sameClient.f k a0_0 l0_1 l0_2 l0_3 a1_0 l1_1 l1_2 l1_3 = some r) :
  Calls Try.prog 18 #[.agg #[.int .i64 a0_0, .slice A0_1 l0_1.length c0_1, .slice A0_2 l0_2.length c0_2, .slice A0_3 l0_3.length c0_3], .agg #[.int .i64 a1_0, .slice A1_1 l1_1.length c1_1, .slice A1_2 l1_2.length c1_2, .slice A1_3 l1_3.length c1_3]] w fun e w' => e = .returned (.bool r) ∧ Below w.heap.size w w' := by
 have hu30 := Try.underlying30; have HR0_1 := Aside0.mk hr0_1; have HC0_1 := Aside0.mk hc0_1; clear hr0_1 hc0_1; have HR0_2 := Aside0.mk hr0_2; have HC0_2 := Aside0.mk hc0_2; clear hr0_2 hc0_2; have HR0_3 := Aside0.mk hr0_3; have HC0_3 := Aside0.mk hc0_3; clear hr0_3 hc0_3; have HR1_1 := Aside0.mk hr1_1; have HC1_1 := Aside0.mk hc1_1; clear hr1_1 hc1_1; have HR1_2 := Aside0.mk hr1_2; have HC1_2 := Aside0.mk hc1_2; clear hr1_2 hc1_2; have HR1_3 := Aside0.mk hr1_3; have HC1_3 := Aside0.mk hc1_3; clear hr1_3 hc1_3
 have HB := Aside0.mk (Below.refl w.heap.size w)
 have H : (if a0_0 = a1_0 then ((laws_sameInts.f k l0_1 l1_1).bind fun t444 => (if t444 = true then ((laws_sameInts.f k l0_3 l1_3).bind fun t445 => (if t445 = true then (laws_sameClient.j0 k ((l0_2.length : Int) != (l1_2.length : Int)) a0_0 l0_1 l0_2 l0_3 a1_0 l1_1 l1_2 l1_3) else (laws_sameClient.j0 k true a0_0 l0_1 l0_2 l0_3 a1_0 l1_1 l1_2 l1_3))) else (laws_sameClient.j0 k true a0_0 l0_1 l0_2 l0_3 a1_0 l1_1 l1_2 l1_3))) else (laws_sameClient.j0 k true a0_0 l0_1 l0_2 l0_3 a1_0 l1_1 l1_2 l1_3)) = some r := h
 clear h; have HC3 := Aside0.mk H; clear H
 go_enter Try.func18, Try.ntmps18
 go_upto_region 1 with (first | ((with_reducible refine gate_dst (N := 2) rfl ?_); (try (refine gate_guard (by rfl) ?_; dsimp only)); refine box_ (N := 2) (cs := #[.int .i64 a0_0, .slice A0_1 l0_1.length c0_1, .slice A0_2 l0_2.length c0_2, .slice A0_3 l0_3.length c0_3]) (t := 30) (fun gb442 hg w4 hbox hb => ?_); have BK442 := Aside0.mk (hbox); have GW442 := ge_ hg HB; have GE442 := ge_ hg HB; replace HB := (bs_ HB hb); clear hb hbox hg) | ((with_reducible refine gate_dst (N := 3) rfl ?_); (try (refine gate_guard (by rfl) ?_; dsimp only)); refine box_ (N := 3) (cs := #[.int .i64 a1_0, .slice A1_1 l1_1.length c1_1, .slice A1_2 l1_2.length c1_2, .slice A1_3 l1_3.length c1_3]) (t := 30) (fun gb443 hg w5 hbox hb => ?_); have BK443 := Aside0.mk (hbox); have GW443 := ge_ hg HB; have GE443 := ge_ hg HB; replace HB := (bs_ HB hb); have NB442_443 := nl_ hg BK442; have NB443_442 := ng_ hg BK442; replace BK442 := (bbA_ BK442 hb); clear hb hbox hg))
 repeat (go_quiet (first | ((with_reducible refine gate_dst (N := 2) rfl ?_); (try (refine gate_guard (by rfl) ?_; dsimp only)); refine box_ (N := 2) (cs := #[.int .i64 a0_0, .slice A0_1 l0_1.length c0_1, .slice A0_2 l0_2.length c0_2, .slice A0_3 l0_3.length c0_3]) (t := 30) (fun gb442 hg w4 hbox hb => ?_); have BK442 := Aside0.mk (hbox); have GW442 := ge_ hg HB; have GE442 := ge_ hg HB; replace HB := (bs_ HB hb); clear hb hbox hg) | ((with_reducible refine gate_dst (N := 3) rfl ?_); (try (refine gate_guard (by rfl) ?_; dsimp only)); refine box_ (N := 3) (cs := #[.int .i64 a1_0, .slice A1_1 l1_1.length c1_1, .slice A1_2 l1_2.length c1_2, .slice A1_3 l1_3.length c1_3]) (t := 30) (fun gb443 hg w5 hbox hb => ?_); have BK443 := Aside0.mk (hbox); have GW443 := ge_ hg HB; have GE443 := ge_ hg HB; replace HB := (bs_ HB hb); have NB442_443 := nl_ hg BK442; have NB443_442 := ng_ hg BK442; replace BK442 := (bbA_ BK442 hb); clear hb hbox hg)); go_upto_region 1 with (first | ((with_reducible refine gate_dst (N := 2) rfl ?_); (try (refine gate_guard (by rfl) ?_; dsimp only)); refine box_ (N := 2) (cs := #[.int .i64 a0_0, .slice A0_1 l0_1.length c0_1, .slice A0_2 l0_2.length c0_2, .slice A0_3 l0_3.length c0_3]) (t := 30) (fun gb442 hg w4 hbox hb => ?_); have BK442 := Aside0.mk (hbox); have GW442 := ge_ hg HB; have GE442 := ge_ hg HB; replace HB := (bs_ HB hb); clear hb hbox hg) | ((with_reducible refine gate_dst (N := 3) rfl ?_); (try (refine gate_guard (by rfl) ?_; dsimp only)); refine box_ (N := 3) (cs := #[.int .i64 a1_0, .slice A1_1 l1_1.length c1_1, .slice A1_2 l1_2.length c1_2, .slice A1_3 l1_3.length c1_3]) (t := 30) (fun gb443 hg w5 hbox hb => ?_); have BK443 := Aside0.mk (hbox); have GW443 := ge_ hg HB; have GE443 := ge_ hg HB; replace HB := (bs_ HB hb); have NB442_443 := nl_ hg BK442; have NB443_442 := ng_ hg BK442; replace BK442 := (bbA_ BK442 hb); clear hb hbox hg)))
 (try simp only [Act.put, List.setIfInBounds_toArray, List.set_cons_zero, List.set_cons_succ])
 go_cut [35] (fun v35 wc => ∃ (kq : Nat) (x35_2 : Bool), v35 = .bool x35_2 ∧ Aside0 (laws_sameClient.j0 kq x35_2 a0_0 l0_1 l0_2 l0_3 a1_0 l1_1 l1_2 l1_3 = some r) ∧ Aside0 (kq ≤ k) ∧ Aside0 (wc.heap[gb442]? = some (.cells #[.int .i64 a0_0, (.slice A0_1 l0_1.length c0_1), (.slice A0_2 l0_2.length c0_2), (.slice A0_3 l0_3.length c0_3)] 30 (0, 0))) ∧ Aside0 (wc.heap[gb443]? = some (.cells #[.int .i64 a1_0, (.slice A1_1 l1_1.length c1_1), (.slice A1_2 l1_2.length c1_2), (.slice A1_3 l1_3.length c1_3)] 30 (0, 0))) ∧ Aside0 (Below w.heap.size w wc))
 case first =>
  have H := HC3.out; clear HC3
  by_cases c6 : a0_0 = a1_0
  ·rw [if_pos c6] at H
   have c6b0 : (a0_0 == a1_0) = true := beq_iff_eq.mpr c6
   have c6b1 : (a0_0 != a1_0) = false := bne_eq_false_iff_eq.mpr c6
   clear c6
   (first | rw [c6b0] | (simp only [i64_w, i32_w]; rw [c6b0]) | skip)
   replace H := Option.bind_eq_some_iff.mp H
   obtain ⟨t444, A70, H⟩ := H
   (try dsimp only at H)
   have A7 := Aside0.mk A70; clear A70
   by_cases c8 : t444 = true
   ·subst c8
    rw [if_pos rfl] at H
    replace H := Option.bind_eq_some_iff.mp H
    obtain ⟨t445, A90, H⟩ := H
    (try dsimp only at H)
    have A9 := Aside0.mk A90; clear A90
    by_cases c10 : t445 = true
    ·subst c10
     rw [if_pos rfl] at H
     have H' := Aside0.mk H
     clear H; have hnb11 := NB442_443.out; have hnc11 := NB443_442.out; have Z12 := zz4 BK442; have Z13 := zz4 BK443
     go_wp2_with (first | (go_at_call 55; (with_reducible refine (laws_sameInts.calls k _ _ l0_1 _ _ l1_1 true _ ?side1 ?side2 ?side3 ?side4 A7.out).mono ?_); (case side1 => exact kC_ (Kd.C_below HR0_1.out HB.out)); (case side2 => exact HC0_1.out); (case side3 => exact kC_ (Kd.C_below HR1_1.out HB.out)); (case side4 => exact HC1_1.out); rintro e w' ⟨rfl, ⟨nd, rfl⟩⟩; (try first | exact ⟨rfl, _, World.drewN_drewN _ _ _⟩ | exact ⟨rfl, _, Eq.trans (World.drewN_drewN _ _ _) (congrArg (World.drewN _) (Nat.add_assoc _ _ _))⟩)) | (go_at_call 55; (with_reducible refine (laws_sameInts.calls k _ _ l0_3 _ _ l1_3 true _ ?side1 ?side2 ?side3 ?side4 A9.out).mono ?_); (case side1 => exact kC_ (Kd.C_below HR0_3.out (hbA_ HB.out))); (case side2 => exact HC0_3.out); (case side3 => exact kC_ (Kd.C_below HR1_3.out (hbA_ HB.out))); (case side4 => exact HC1_3.out); rintro e w' ⟨rfl, ⟨nd, rfl⟩⟩; (try first | exact ⟨rfl, _, World.drewN_drewN _ _ _⟩ | exact ⟨rfl, _, Eq.trans (World.drewN_drewN _ _ _) (congrArg (World.drewN _) (Nat.add_assoc _ _ _))⟩)))
     repeat (go_quiet (first | (go_at_call 55; (with_reducible refine (laws_sameInts.calls k _ _ l0_1 _ _ l1_1 true _ ?side1 ?side2 ?side3 ?side4 A7.out).mono ?_); (case side1 => exact kC_ (Kd.C_below HR0_1.out HB.out)); (case side2 => exact HC0_1.out); (case side3 => exact kC_ (Kd.C_below HR1_1.out HB.out)); (case side4 => exact HC1_1.out); rintro e w' ⟨rfl, ⟨nd, rfl⟩⟩; (try first | exact ⟨rfl, _, World.drewN_drewN _ _ _⟩ | exact ⟨rfl, _, Eq.trans (World.drewN_drewN _ _ _) (congrArg (World.drewN _) (Nat.add_assoc _ _ _))⟩)) | (go_at_call 55; (with_reducible refine (laws_sameInts.calls k _ _ l0_3 _ _ l1_3 true _ ?side1 ?side2 ?side3 ?side4 A9.out).mono ?_); (case side1 => exact kC_ (Kd.C_below HR0_3.out (hbA_ HB.out))); (case side2 => exact HC0_3.out); (case side3 => exact kC_ (Kd.C_below HR1_3.out (hbA_ HB.out))); (case side4 => exact HC1_3.out); rintro e w' ⟨rfl, ⟨nd, rfl⟩⟩; (try first | exact ⟨rfl, _, World.drewN_drewN _ _ _⟩ | exact ⟨rfl, _, Eq.trans (World.drewN_drewN _ _ _) (congrArg (World.drewN _) (Nat.add_assoc _ _ _))⟩))); try go_wp2_with (first | (go_at_call 55; (with_reducible refine (laws_sameInts.calls k _ _ l0_1 _ _ l1_1 true _ ?side1 ?side2 ?side3 ?side4 A7.out).mono ?_); (case side1 => exact kC_ (Kd.C_below HR0_1.out HB.out)); (case side2 => exact HC0_1.out); (case side3 => exact kC_ (Kd.C_below HR1_1.out HB.out)); (case side4 => exact HC1_1.out); rintro e w' ⟨rfl, ⟨nd, rfl⟩⟩; (try first | exact ⟨rfl, _, World.drewN_drewN _ _ _⟩ | exact ⟨rfl, _, Eq.trans (World.drewN_drewN _ _ _) (congrArg (World.drewN _) (Nat.add_assoc _ _ _))⟩)) | (go_at_call 55; (with_reducible refine (laws_sameInts.calls k _ _ l0_3 _ _ l1_3 true _ ?side1 ?side2 ?side3 ?side4 A9.out).mono ?_); (case side1 => exact kC_ (Kd.C_below HR0_3.out (hbA_ HB.out))); (case side2 => exact HC0_3.out); (case side3 => exact kC_ (Kd.C_below HR1_3.out (hbA_ HB.out))); (case side4 => exact HC1_3.out); rintro e w' ⟨rfl, ⟨nd, rfl⟩⟩; (try first | exact ⟨rfl, _, World.drewN_drewN _ _ _⟩ | exact ⟨rfl, _, Eq.trans (World.drewN_drewN _ _ _) (congrArg (World.drewN _) (Nat.add_assoc _ _ _))⟩))))
     go_meet
     case rel => exact ⟨_, (((l0_2.length : Int) != (l1_2.length : Int))), (by first | rfl | (simp; done) | (simp [*]; done)), H', ⟨by first | omega | exact Nat.le_refl _⟩, ⟨by refine kb_ ?_; exact BK442.out⟩, ⟨by refine kb_ ?_; exact BK443.out⟩, ⟨hbA_ HB.out⟩⟩
    ·replace c10 := Bool.eq_false_iff.mpr c10
     subst c10
     rw [if_neg (show ¬ (false = true) by decide)] at H
     have H' := Aside0.mk H
     clear H; have hnb14 := NB442_443.out; have hnc14 := NB443_442.out; have Z15 := zz4 BK442; have Z16 := zz4 BK443
     go_wp2_with (first | (go_at_call 55; (with_reducible refine (laws_sameInts.calls k _ _ l0_1 _ _ l1_1 true _ ?side1 ?side2 ?side3 ?side4 A7.out).mono ?_); (case side1 => exact kC_ (Kd.C_below HR0_1.out HB.out)); (case side2 => exact HC0_1.out); (case side3 => exact kC_ (Kd.C_below HR1_1.out HB.out)); (case side4 => exact HC1_1.out); rintro e w' ⟨rfl, ⟨nd, rfl⟩⟩; (try first | exact ⟨rfl, _, World.drewN_drewN _ _ _⟩ | exact ⟨rfl, _, Eq.trans (World.drewN_drewN _ _ _) (congrArg (World.drewN _) (Nat.add_assoc _ _ _))⟩)) | (go_at_call 55; (with_reducible refine (laws_sameInts.calls k _ _ l0_3 _ _ l1_3 false _ ?side1 ?side2 ?side3 ?side4 A9.out).mono ?_); (case side1 => exact kC_ (Kd.C_below HR0_3.out (hbA_ HB.out))); (case side2 => exact HC0_3.out); (case side3 => exact kC_ (Kd.C_below HR1_3.out (hbA_ HB.out))); (case side4 => exact HC1_3.out); rintro e w' ⟨rfl, ⟨nd, rfl⟩⟩; (try first | exact ⟨rfl, _, World.drewN_drewN _ _ _⟩ | exact ⟨rfl, _, Eq.trans (World.drewN_drewN _ _ _) (congrArg (World.drewN _) (Nat.add_assoc _ _ _))⟩)))
     repeat (go_quiet (first | (go_at_call 55; (with_reducible refine (laws_sameInts.calls k _ _ l0_1 _ _ l1_1 true _ ?side1 ?side2 ?side3 ?side4 A7.out).mono ?_); (case side1 => exact kC_ (Kd.C_below HR0_1.out HB.out)); (case side2 => exact HC0_1.out); (case side3 => exact kC_ (Kd.C_below HR1_1.out HB.out)); (case side4 => exact HC1_1.out); rintro e w' ⟨rfl, ⟨nd, rfl⟩⟩; (try first | exact ⟨rfl, _, World.drewN_drewN _ _ _⟩ | exact ⟨rfl, _, Eq.trans (World.drewN_drewN _ _ _) (congrArg (World.drewN _) (Nat.add_assoc _ _ _))⟩)) | (go_at_call 55; (with_reducible refine (laws_sameInts.calls k _ _ l0_3 _ _ l1_3 false _ ?side1 ?side2 ?side3 ?side4 A9.out).mono ?_); (case side1 => exact kC_ (Kd.C_below HR0_3.out (hbA_ HB.out))); (case side2 => exact HC0_3.out); (case side3 => exact kC_ (Kd.C_below HR1_3.out (hbA_ HB.out))); (case side4 => exact HC1_3.out); rintro e w' ⟨rfl, ⟨nd, rfl⟩⟩; (try first | exact ⟨rfl, _, World.drewN_drewN _ _ _⟩ | exact ⟨rfl, _, Eq.trans (World.drewN_drewN _ _ _) (congrArg (World.drewN _) (Nat.add_assoc _ _ _))⟩))); try go_wp2_with (first | (go_at_call 55; (with_reducible refine (laws_sameInts.calls k _ _ l0_1 _ _ l1_1 true _ ?side1 ?side2 ?side3 ?side4 A7.out).mono ?_); (case side1 => exact kC_ (Kd.C_below HR0_1.out HB.out)); (case side2 => exact HC0_1.out); (case side3 => exact kC_ (Kd.C_below HR1_1.out HB.out)); (case side4 => exact HC1_1.out); rintro e w' ⟨rfl, ⟨nd, rfl⟩⟩; (try first | exact ⟨rfl, _, World.drewN_drewN _ _ _⟩ | exact ⟨rfl, _, Eq.trans (World.drewN_drewN _ _ _) (congrArg (World.drewN _) (Nat.add_assoc _ _ _))⟩)) | (go_at_call 55; (with_reducible refine (laws_sameInts.calls k _ _ l0_3 _ _ l1_3 false _ ?side1 ?side2 ?side3 ?side4 A9.out).mono ?_); (case side1 => exact kC_ (Kd.C_below HR0_3.out (hbA_ HB.out))); (case side2 => exact HC0_3.out); (case side3 => exact kC_ (Kd.C_below HR1_3.out (hbA_ HB.out))); (case side4 => exact HC1_3.out); rintro e w' ⟨rfl, ⟨nd, rfl⟩⟩; (try first | exact ⟨rfl, _, World.drewN_drewN _ _ _⟩ | exact ⟨rfl, _, Eq.trans (World.drewN_drewN _ _ _) (congrArg (World.drewN _) (Nat.add_assoc _ _ _))⟩))))
     go_meet
     case rel => exact ⟨_, (true), (by first | rfl | (simp; done) | (simp [*]; done)), H', ⟨by first | omega | exact Nat.le_refl _⟩, ⟨by refine kb_ ?_; exact BK442.out⟩, ⟨by refine kb_ ?_; exact BK443.out⟩, ⟨hbA_ HB.out⟩⟩
   ·replace c8 := Bool.eq_false_iff.mpr c8
    subst c8
    rw [if_neg (show ¬ (false = true) by decide)] at H
    have H' := Aside0.mk H
    clear H; have hnb17 := NB442_443.out; have hnc17 := NB443_442.out; have Z18 := zz4 BK442; have Z19 := zz4 BK443
    go_wp2_with (first | (go_at_call 55; (with_reducible refine (laws_sameInts.calls k _ _ l0_1 _ _ l1_1 false _ ?side1 ?side2 ?side3 ?side4 A7.out).mono ?_); (case side1 => exact kC_ (Kd.C_below HR0_1.out HB.out)); (case side2 => exact HC0_1.out); (case side3 => exact kC_ (Kd.C_below HR1_1.out HB.out)); (case side4 => exact HC1_1.out); rintro e w' ⟨rfl, ⟨nd, rfl⟩⟩; (try first | exact ⟨rfl, _, World.drewN_drewN _ _ _⟩ | exact ⟨rfl, _, Eq.trans (World.drewN_drewN _ _ _) (congrArg (World.drewN _) (Nat.add_assoc _ _ _))⟩)))
    repeat (go_quiet (first | (go_at_call 55; (with_reducible refine (laws_sameInts.calls k _ _ l0_1 _ _ l1_1 false _ ?side1 ?side2 ?side3 ?side4 A7.out).mono ?_); (case side1 => exact kC_ (Kd.C_below HR0_1.out HB.out)); (case side2 => exact HC0_1.out); (case side3 => exact kC_ (Kd.C_below HR1_1.out HB.out)); (case side4 => exact HC1_1.out); rintro e w' ⟨rfl, ⟨nd, rfl⟩⟩; (try first | exact ⟨rfl, _, World.drewN_drewN _ _ _⟩ | exact ⟨rfl, _, Eq.trans (World.drewN_drewN _ _ _) (congrArg (World.drewN _) (Nat.add_assoc _ _ _))⟩))); try go_wp2_with (first | (go_at_call 55; (with_reducible refine (laws_sameInts.calls k _ _ l0_1 _ _ l1_1 false _ ?side1 ?side2 ?side3 ?side4 A7.out).mono ?_); (case side1 => exact kC_ (Kd.C_below HR0_1.out HB.out)); (case side2 => exact HC0_1.out); (case side3 => exact kC_ (Kd.C_below HR1_1.out HB.out)); (case side4 => exact HC1_1.out); rintro e w' ⟨rfl, ⟨nd, rfl⟩⟩; (try first | exact ⟨rfl, _, World.drewN_drewN _ _ _⟩ | exact ⟨rfl, _, Eq.trans (World.drewN_drewN _ _ _) (congrArg (World.drewN _) (Nat.add_assoc _ _ _))⟩))))
    go_meet
    case rel => exact ⟨_, (true), (by first | rfl | (simp; done) | (simp [*]; done)), H', ⟨by first | omega | exact Nat.le_refl _⟩, ⟨by refine kb_ ?_; exact BK442.out⟩, ⟨by refine kb_ ?_; exact BK443.out⟩, ⟨hbA_ HB.out⟩⟩
  ·rw [if_neg c6] at H
   have c6b0 : (a0_0 == a1_0) = false := beq_eq_false_iff_ne.mpr c6
   have c6b1 : (a0_0 != a1_0) = true := bne_iff_ne.mpr c6
   (first | rw [c6b0] | (simp only [i64_w, i32_w]; rw [c6b0]) | skip)
   have H' := Aside0.mk H
   clear H; have hnb20 := NB442_443.out; have hnc20 := NB443_442.out; have Z21 := zz4 BK442; have Z22 := zz4 BK443
   go_wp2
   repeat (go_quiet (fail); try go_wp2)
   go_meet
   case rel => exact ⟨_, (true), (by first | rfl | (simp; done) | (simp [*]; done)), H', ⟨by first | omega | exact Nat.le_refl _⟩, ⟨by refine kb_ ?_; exact BK442.out⟩, ⟨by refine kb_ ?_; exact BK443.out⟩, ⟨hbA_ HB.out⟩⟩
 case rest =>
  clear HC3; (try clear c1); (try clear c2); (try clear p2); (try clear c6); (try clear c6b0); (try clear c6b1); (try clear c8); (try clear c10); (try clear c11); (try clear c14); (try clear c17); (try clear c18); (try clear c20); (try clear Z12); (try clear Z13); (try clear Z15); (try clear Z16); (try clear Z18); (try clear Z19); (try clear Z21); (try clear Z22)
  obtain ⟨kq, x35_2, rfl, HA, HJ2, BK442, BK443, HB⟩ := hcut
  cases kq with
  | zero => exact absurd HA.out (by simp [laws_sameClient.j0])
  | succ kj2 =>
   have H := HA.out; clear HA
   simp only [laws_sameClient.j0] at H
   by_cases c23 : x35_2 = true
   ·subst c23
    rw [if_pos rfl] at H
    obtain rfl := Option.some.inj H
    go_wp2
    repeat (go_quiet (fail); try go_wp2)
    go_ret
    exact ⟨by first | rfl | (simp [errW_none, errW_some] <;> rfl) | (simp [*, errW_none, errW_some] <;> rfl), hbA_ HB.out⟩
   ·replace c23 := Bool.eq_false_iff.mpr c23
    subst c23
    rw [if_neg (show ¬ (false = true) by decide)] at H
    have H' := Aside0.mk H
    clear H
    go_wp2
    repeat (go_quiet (fail); try go_wp2)
    go_loopg [5] kj2 (fun kq v5 w' => ∃ (x5_2 : Int), v5 = .int .i64 x5_2 ∧ Aside0 (laws_sameClient.l0 kq x5_2 a0_0 l0_1 l0_2 l0_3 a1_0 l1_1 l1_2 l1_3 = some r) ∧ Aside0 (kq ≤ kj2) ∧ Aside0 (w'.heap[gb442]? = some (.cells #[.int .i64 a0_0, (.slice A0_1 l0_1.length c0_1), (.slice A0_2 l0_2.length c0_2), (.slice A0_3 l0_3.length c0_3)] 30 (0, 0))) ∧ Aside0 (w'.heap[gb443]? = some (.cells #[.int .i64 a1_0, (.slice A1_1 l1_1.length c1_1), (.slice A1_2 l1_2.length c1_2), (.slice A1_3 l1_3.length c1_3)] 30 (0, 0))) ∧ Aside0 (Below w.heap.size w w'))
    case atStart => exact ⟨(0), (by first | rfl | (simp; done) | (simp [*]; done)), H', ⟨Nat.le_refl _⟩, ⟨by refine kb_ ?_; exact BK442.out⟩, ⟨by refine kb_ ?_; exact BK443.out⟩, ⟨hbA_ HB.out⟩⟩
    case round =>
     clear H'; (try clear c1); (try clear c2); (try clear p2); (try clear c6); (try clear c6b0); (try clear c6b1); (try clear c8); (try clear c10); (try clear c11); (try clear c14); (try clear c17); (try clear c18); (try clear c20); (try clear c23); (try clear Z12); (try clear Z13); (try clear Z15); (try clear Z16); (try clear Z18); (try clear Z19); (try clear Z21); (try clear Z22); (try clear p2)
     obtain ⟨x5_2, rfl, HA, HK2, BK442, BK443, HB⟩ := hrel
     cases gk with
     | zero => exact absurd HA.out (by simp [laws_sameClient.l0])
     | succ k2 =>
      have H := HA.out; clear HA
      simp only [laws_sameClient.l0] at H
      by_cases c24 : x5_2 < (l0_2.length : Int)
      ·rw [if_pos c24] at H
       have c24b0 : decide (x5_2 < (l0_2.length : Int)) = true := decide_eq_true c24
       clear c24
       by_cases c25 : 0 ≤ x5_2
       ·rw [if_pos c25] at H
        have c25b0 : decide (0 ≤ x5_2) = true := decide_eq_true c25
        clear c25
        by_cases c26 : x5_2 < (l1_2.length : Int)
        ·rw [if_pos c26] at H
         have c26b0 : decide (x5_2 < (l1_2.length : Int)) = true := decide_eq_true c26
         clear c26
         by_cases c27 : ((rd_T41 l0_2 x5_2).f0) = ((rd_T41 l1_2 x5_2).f0)
         ·rw [if_pos c27] at H
          have c27b0 : (((rd_T41 l0_2 x5_2).f0) == ((rd_T41 l1_2 x5_2).f0)) = true := beq_iff_eq.mpr c27
          have c27b1 : (((rd_T41 l0_2 x5_2).f0) != ((rd_T41 l1_2 x5_2).f0)) = false := bne_eq_false_iff_eq.mpr c27
          clear c27
          replace H := Option.bind_eq_some_iff.mp H
          obtain ⟨t450, A280, H⟩ := H
          (try dsimp only at H)
          have A28 := Aside0.mk A280; clear A280
          by_cases c29 : t450 = true
          ·subst c29
           rw [if_pos rfl] at H
           have H' := Aside0.mk H
           clear H; have hnb30 := NB442_443.out; have hnc30 := NB443_442.out; have Z31 := zz4 BK442
           have p446 : 0 ≤ (x5_2 : Int) := of_decide_eq_true (by first | (with_reducible assumption) | assumption)
           have q446 : x5_2 < (l0_2.length : Int) := of_decide_eq_true (by first | (with_reducible assumption) | assumption)
           obtain ⟨ad446, A446_1, c446_1, e446, hx446_0, hx446_1, hl446_1, hi446_1⟩ := at_T41 HR0_2.out x5_2 p446 q446
           cases e446
           replace hx446_0 := cc_ HB hx446_0
           replace hx446_1 := cc_ HB hx446_1
           have HR446_1 := Aside0.mk hi446_1; have HC446_1 := Aside0.mk hl446_1; clear hi446_1 hl446_1
           replace p446 := eq_true p446
           replace q446 := eq_true q446
           have Z32 := zz4 BK443
           have p447 : 0 ≤ (x5_2 : Int) := of_decide_eq_true (by first | (with_reducible assumption) | assumption)
           have q447 : x5_2 < (l1_2.length : Int) := of_decide_eq_true (by first | (with_reducible assumption) | assumption)
           obtain ⟨ad447, A447_1, c447_1, e447, hx447_0, hx447_1, hl447_1, hi447_1⟩ := at_T41 HR1_2.out x5_2 p447 q447
           cases e447
           replace hx447_0 := cc_ HB hx447_0
           replace hx447_1 := cc_ HB hx447_1
           have HR447_1 := Aside0.mk hi447_1; have HC447_1 := Aside0.mk hl447_1; clear hi447_1 hl447_1
           replace p447 := eq_true p447
           replace q447 := eq_true q447
           have p448 : 0 ≤ (x5_2 : Int) := of_decide_eq_true (by first | (with_reducible assumption) | assumption)
           have q448 : x5_2 < (l0_2.length : Int) := of_decide_eq_true (by first | (with_reducible assumption) | assumption)
           obtain ⟨ad448, A448_1, c448_1, e448, hx448_0, hx448_1, hl448_1, hi448_1⟩ := at_T41 HR0_2.out x5_2 p448 q448
           obtain rfl : ad446 = ad448 := (by injection e448)
           replace hx448_0 := cc_ HB hx448_0
           replace hx448_1 := cc_ HB hx448_1
           have HR448_1 := Aside0.mk hi448_1; have HC448_1 := Aside0.mk hl448_1; clear hi448_1 hl448_1
           replace p448 := eq_true p448
           replace q448 := eq_true q448
           have ea_ := Option.some.inj (hx446_1.symm.trans hx448_1)
           injection ea_ with ea_ en_ ec_
           subst ea_; subst ec_; clear en_
           have p449 : 0 ≤ (x5_2 : Int) := of_decide_eq_true (by first | (with_reducible assumption) | assumption)
           have q449 : x5_2 < (l1_2.length : Int) := of_decide_eq_true (by first | (with_reducible assumption) | assumption)
           obtain ⟨ad449, A449_1, c449_1, e449, hx449_0, hx449_1, hl449_1, hi449_1⟩ := at_T41 HR1_2.out x5_2 p449 q449
           obtain rfl : ad447 = ad449 := (by injection e449)
           replace hx449_0 := cc_ HB hx449_0
           replace hx449_1 := cc_ HB hx449_1
           have HR449_1 := Aside0.mk hi449_1; have HC449_1 := Aside0.mk hl449_1; clear hi449_1 hl449_1
           replace p449 := eq_true p449
           replace q449 := eq_true q449
           have ea_ := Option.some.inj (hx447_1.symm.trans hx449_1)
           injection ea_ with ea_ en_ ec_
           subst ea_; subst ec_; clear en_
           go_wp2_with (first | (go_at_call 28; (with_reducible refine (laws_sameBytes.calls _ _ ((rd_T41 l0_2 x5_2).f1) _ _ ((rd_T41 l1_2 x5_2).f1) true _ ?side1 ?side2 ?side3 ?side4 A28.out).mono ?_); (case side1 => exact kC_ (Kd.C_below HR448_1.out HB.out)); (case side2 => exact HC448_1.out); (case side3 => exact kC_ (Kd.C_below HR449_1.out HB.out)); (case side4 => exact HC449_1.out); rintro e w' ⟨rfl, ⟨nd, rfl⟩⟩; (try first | exact ⟨rfl, _, World.drewN_drewN _ _ _⟩ | exact ⟨rfl, _, Eq.trans (World.drewN_drewN _ _ _) (congrArg (World.drewN _) (Nat.add_assoc _ _ _))⟩)))
           repeat (go_quiet (first | (go_at_call 28; (with_reducible refine (laws_sameBytes.calls _ _ ((rd_T41 l0_2 x5_2).f1) _ _ ((rd_T41 l1_2 x5_2).f1) true _ ?side1 ?side2 ?side3 ?side4 A28.out).mono ?_); (case side1 => exact kC_ (Kd.C_below HR448_1.out HB.out)); (case side2 => exact HC448_1.out); (case side3 => exact kC_ (Kd.C_below HR449_1.out HB.out)); (case side4 => exact HC449_1.out); rintro e w' ⟨rfl, ⟨nd, rfl⟩⟩; (try first | exact ⟨rfl, _, World.drewN_drewN _ _ _⟩ | exact ⟨rfl, _, Eq.trans (World.drewN_drewN _ _ _) (congrArg (World.drewN _) (Nat.add_assoc _ _ _))⟩))); try go_wp2_with (first | (go_at_call 28; (with_reducible refine (laws_sameBytes.calls _ _ ((rd_T41 l0_2 x5_2).f1) _ _ ((rd_T41 l1_2 x5_2).f1) true _ ?side1 ?side2 ?side3 ?side4 A28.out).mono ?_); (case side1 => exact kC_ (Kd.C_below HR448_1.out HB.out)); (case side2 => exact HC448_1.out); (case side3 => exact kC_ (Kd.C_below HR449_1.out HB.out)); (case side4 => exact HC449_1.out); rintro e w' ⟨rfl, ⟨nd, rfl⟩⟩; (try first | exact ⟨rfl, _, World.drewN_drewN _ _ _⟩ | exact ⟨rfl, _, Eq.trans (World.drewN_drewN _ _ _) (congrArg (World.drewN _) (Nat.add_assoc _ _ _))⟩))))
           go_roundg k2
           case measure => have := HJ2.out; have := HK2.out; omega
           case rel => exact ⟨(wrap64 (x5_2 + 1)), (by first | rfl | (simp; done) | (simp [*]; done)), H', ⟨by have := HJ2.out; have := HK2.out; omega⟩, ⟨by refine kb_ ?_; exact BK442.out⟩, ⟨by refine kb_ ?_; exact BK443.out⟩, ⟨hbA_ HB.out⟩⟩
          ·replace c29 := Bool.eq_false_iff.mpr c29
           subst c29
           rw [if_neg (show ¬ (false = true) by decide)] at H
           obtain rfl := Option.some.inj H
           have hnb33 := NB442_443.out; have hnc33 := NB443_442.out; have Z34 := zz4 BK442
           have p446 : 0 ≤ (x5_2 : Int) := of_decide_eq_true (by first | (with_reducible assumption) | assumption)
           have q446 : x5_2 < (l0_2.length : Int) := of_decide_eq_true (by first | (with_reducible assumption) | assumption)
           obtain ⟨ad446, A446_1, c446_1, e446, hx446_0, hx446_1, hl446_1, hi446_1⟩ := at_T41 HR0_2.out x5_2 p446 q446
           cases e446
           replace hx446_0 := cc_ HB hx446_0
           replace hx446_1 := cc_ HB hx446_1
           have HR446_1 := Aside0.mk hi446_1; have HC446_1 := Aside0.mk hl446_1; clear hi446_1 hl446_1
           replace p446 := eq_true p446
           replace q446 := eq_true q446
           have Z35 := zz4 BK443
           have p447 : 0 ≤ (x5_2 : Int) := of_decide_eq_true (by first | (with_reducible assumption) | assumption)
           have q447 : x5_2 < (l1_2.length : Int) := of_decide_eq_true (by first | (with_reducible assumption) | assumption)
           obtain ⟨ad447, A447_1, c447_1, e447, hx447_0, hx447_1, hl447_1, hi447_1⟩ := at_T41 HR1_2.out x5_2 p447 q447
           cases e447
           replace hx447_0 := cc_ HB hx447_0
           replace hx447_1 := cc_ HB hx447_1
           have HR447_1 := Aside0.mk hi447_1; have HC447_1 := Aside0.mk hl447_1; clear hi447_1 hl447_1
           replace p447 := eq_true p447
           replace q447 := eq_true q447
           have p448 : 0 ≤ (x5_2 : Int) := of_decide_eq_true (by first | (with_reducible assumption) | assumption)
           have q448 : x5_2 < (l0_2.length : Int) := of_decide_eq_true (by first | (with_reducible assumption) | assumption)
           obtain ⟨ad448, A448_1, c448_1, e448, hx448_0, hx448_1, hl448_1, hi448_1⟩ := at_T41 HR0_2.out x5_2 p448 q448
           obtain rfl : ad446 = ad448 := (by injection e448)
           replace hx448_0 := cc_ HB hx448_0
           replace hx448_1 := cc_ HB hx448_1
           have HR448_1 := Aside0.mk hi448_1; have HC448_1 := Aside0.mk hl448_1; clear hi448_1 hl448_1
           replace p448 := eq_true p448
           replace q448 := eq_true q448
           have ea_ := Option.some.inj (hx446_1.symm.trans hx448_1)
           injection ea_ with ea_ en_ ec_
           subst ea_; subst ec_; clear en_
           have p449 : 0 ≤ (x5_2 : Int) := of_decide_eq_true (by first | (with_reducible assumption) | assumption)
           have q449 : x5_2 < (l1_2.length : Int) := of_decide_eq_true (by first | (with_reducible assumption) | assumption)
           obtain ⟨ad449, A449_1, c449_1, e449, hx449_0, hx449_1, hl449_1, hi449_1⟩ := at_T41 HR1_2.out x5_2 p449 q449
           obtain rfl : ad447 = ad449 := (by injection e449)
           replace hx449_0 := cc_ HB hx449_0
           replace hx449_1 := cc_ HB hx449_1
           have HR449_1 := Aside0.mk hi449_1; have HC449_1 := Aside0.mk hl449_1; clear hi449_1 hl449_1
           replace p449 := eq_true p449
           replace q449 := eq_true q449
           have ea_ := Option.some.inj (hx447_1.symm.trans hx449_1)
           injection ea_ with ea_ en_ ec_
           subst ea_; subst ec_; clear en_
           go_wp2_with (first | (go_at_call 28; (with_reducible refine (laws_sameBytes.calls _ _ ((rd_T41 l0_2 x5_2).f1) _ _ ((rd_T41 l1_2 x5_2).f1) false _ ?side1 ?side2 ?side3 ?side4 A28.out).mono ?_); (case side1 => exact kC_ (Kd.C_below HR448_1.out HB.out)); (case side2 => exact HC448_1.out); (case side3 => exact kC_ (Kd.C_below HR449_1.out HB.out)); (case side4 => exact HC449_1.out); rintro e w' ⟨rfl, ⟨nd, rfl⟩⟩; (try first | exact ⟨rfl, _, World.drewN_drewN _ _ _⟩ | exact ⟨rfl, _, Eq.trans (World.drewN_drewN _ _ _) (congrArg (World.drewN _) (Nat.add_assoc _ _ _))⟩)))
           repeat (go_quiet (first | (go_at_call 28; (with_reducible refine (laws_sameBytes.calls _ _ ((rd_T41 l0_2 x5_2).f1) _ _ ((rd_T41 l1_2 x5_2).f1) false _ ?side1 ?side2 ?side3 ?side4 A28.out).mono ?_); (case side1 => exact kC_ (Kd.C_below HR448_1.out HB.out)); (case side2 => exact HC448_1.out); (case side3 => exact kC_ (Kd.C_below HR449_1.out HB.out)); (case side4 => exact HC449_1.out); rintro e w' ⟨rfl, ⟨nd, rfl⟩⟩; (try first | exact ⟨rfl, _, World.drewN_drewN _ _ _⟩ | exact ⟨rfl, _, Eq.trans (World.drewN_drewN _ _ _) (congrArg (World.drewN _) (Nat.add_assoc _ _ _))⟩))); try go_wp2_with (first | (go_at_call 28; (with_reducible refine (laws_sameBytes.calls _ _ ((rd_T41 l0_2 x5_2).f1) _ _ ((rd_T41 l1_2 x5_2).f1) false _ ?side1 ?side2 ?side3 ?side4 A28.out).mono ?_); (case side1 => exact kC_ (Kd.C_below HR448_1.out HB.out)); (case side2 => exact HC448_1.out); (case side3 => exact kC_ (Kd.C_below HR449_1.out HB.out)); (case side4 => exact HC449_1.out); rintro e w' ⟨rfl, ⟨nd, rfl⟩⟩; (try first | exact ⟨rfl, _, World.drewN_drewN _ _ _⟩ | exact ⟨rfl, _, Eq.trans (World.drewN_drewN _ _ _) (congrArg (World.drewN _) (Nat.add_assoc _ _ _))⟩))))
           go_ret
           exact ⟨by first | rfl | (simp [errW_none, errW_some] <;> rfl) | (simp [*, errW_none, errW_some] <;> rfl), hbA_ HB.out⟩
         ·rw [if_neg c27] at H
          have c27b0 : (((rd_T41 l0_2 x5_2).f0) == ((rd_T41 l1_2 x5_2).f0)) = false := beq_eq_false_iff_ne.mpr c27
          have c27b1 : (((rd_T41 l0_2 x5_2).f0) != ((rd_T41 l1_2 x5_2).f0)) = true := bne_iff_ne.mpr c27
          obtain rfl := Option.some.inj H
          have hnb36 := NB442_443.out; have hnc36 := NB443_442.out; have Z37 := zz4 BK442
          have p446 : 0 ≤ (x5_2 : Int) := of_decide_eq_true (by first | (with_reducible assumption) | assumption)
          have q446 : x5_2 < (l0_2.length : Int) := of_decide_eq_true (by first | (with_reducible assumption) | assumption)
          obtain ⟨ad446, A446_1, c446_1, e446, hx446_0, hx446_1, hl446_1, hi446_1⟩ := at_T41 HR0_2.out x5_2 p446 q446
          cases e446
          replace hx446_0 := cc_ HB hx446_0
          replace hx446_1 := cc_ HB hx446_1
          have HR446_1 := Aside0.mk hi446_1; have HC446_1 := Aside0.mk hl446_1; clear hi446_1 hl446_1
          replace p446 := eq_true p446
          replace q446 := eq_true q446
          have Z38 := zz4 BK443
          have p447 : 0 ≤ (x5_2 : Int) := of_decide_eq_true (by first | (with_reducible assumption) | assumption)
          have q447 : x5_2 < (l1_2.length : Int) := of_decide_eq_true (by first | (with_reducible assumption) | assumption)
          obtain ⟨ad447, A447_1, c447_1, e447, hx447_0, hx447_1, hl447_1, hi447_1⟩ := at_T41 HR1_2.out x5_2 p447 q447
          cases e447
          replace hx447_0 := cc_ HB hx447_0
          replace hx447_1 := cc_ HB hx447_1
          have HR447_1 := Aside0.mk hi447_1; have HC447_1 := Aside0.mk hl447_1; clear hi447_1 hl447_1
          replace p447 := eq_true p447
          replace q447 := eq_true q447
          go_wp2
          repeat (go_quiet (fail); try go_wp2)
          go_ret
          exact ⟨by first | rfl | (simp [errW_none, errW_some] <;> rfl) | (simp [*, errW_none, errW_some] <;> rfl), hbA_ HB.out⟩
        ·rw [if_neg c26] at H
         exact absurd H (by simp)
       ·rw [if_neg c25] at H
        exact absurd H (by simp)
      ·rw [if_neg c24] at H
       have c24b0 : decide (x5_2 < (l0_2.length : Int)) = false := decide_eq_false c24
       clear c24
       obtain rfl := Option.some.inj H
       have hnb39 := NB442_443.out; have hnc39 := NB443_442.out; have Z40 := zz4 BK442
       go_wp2
       repeat (go_quiet (fail); try go_wp2)
       go_ret
       exact ⟨by first | rfl | (simp [errW_none, errW_some] <;> rfl) | (simp [*, errW_none, errW_some] <;> rfl), hbA_ HB.out⟩
def impl_bytesOf.l0 : Nat → Int → List Int → Int → Option (List Int)
 | 0, _, _, _ => none
 | k + 1, x0, x5, x6 => if x6 ≥ 0 then (if 0 ≤ x6 then (if x6 < (x5.length : Int) then (impl_bytesOf.l0 k (x0 / 256) (x5.set (x6 : Int).toNat ((x0) % 256)) (wrap64 (x6 - 1))) else (none)) else (none)) else (some x5)
def impl_bytesOf.f (k : Nat) (a0 : Int) (a1 : Int) : Option (List Int) := if 0 ≤ a1 then (if (a1 : Int).toNat ≤ 281474976710656 then (impl_bytesOf.l0 k a0 (List.replicate (a1 : Int).toNat 0) (wrap64 (a1 - 1))) else (none)) else (none)
theorem impl_bytesOf.mono_l : ∀ k, (∀ y0 y1 y2, LeO (impl_bytesOf.l0 k y0 y1 y2) (impl_bytesOf.l0 (k + 1) y0 y1 y2))
 | 0 => fun _ _ _ r h => by simp [impl_bytesOf.l0] at h
 | k + 1 => by
  have ih0 := impl_bytesOf.mono_l k
  ·intro y0 y1 y2
   unfold impl_bytesOf.l0
   repeat' first | (with_reducible first | apply ih0 | exact LeO.refl _ | exact LeO.none _ | refine LeO.ite ?_ ?_ | refine LeO.bind ?_ fun _ => ?_) | apply ih0 | exact LeO.none _ | refine LeO.ite ?_ ?_ | refine LeO.bind ?_ fun _ => ?_
theorem impl_bytesOf.mono : ∀ a0 a1 k, LeO (impl_bytesOf.f k a0 a1) (impl_bytesOf.f (k + 1) a0 a1) := by
 intro a0 a1 k
 have ih0 := impl_bytesOf.mono_l k
 unfold impl_bytesOf.f
 repeat' first | (with_reducible first | apply ih0 | exact LeO.refl _ | exact LeO.none _ | refine LeO.ite ?_ ?_ | refine LeO.bind ?_ fun _ => ?_) | apply ih0 | exact LeO.none _ | refine LeO.ite ?_ ?_ | refine LeO.bind ?_ fun _ => ?_
set_option maxHeartbeats 8000000 in
set_option maxRecDepth 100000 in
theorem impl_bytesOf.calls (k : Nat) (a0 : Int) (a1 : Int) (r : List Int) (w : World) (h : impl_bytesOf.f k a0 a1 = some r) :
  Calls Try.prog 73 #[.int .i64 a0, .int .i64 a1] w fun e w' => ∃ v0_ : Value, e = .returned (v0_) ∧ Kd.R (Kd.int .u8) 5 w' w.heap.size (fun _ => True) v0_ r ∧ Below w.heap.size w w' := by
 have HB := Aside0.mk (Below.refl w.heap.size w)
 have H : (if 0 ≤ a1 then (if (a1 : Int).toNat ≤ 281474976710656 then (impl_bytesOf.l0 k a0 (List.replicate (a1 : Int).toNat 0) (wrap64 (a1 - 1))) else (none)) else (none)) = some r := h
 clear h
 by_cases c3 : 0 ≤ a1
 ·rw [if_pos c3] at H
  have c3b0 := eq_true c3
  have c3b1 : decide (0 ≤ a1) = true := decide_eq_true c3
  clear c3
  by_cases c4 : (a1 : Int).toNat ≤ 281474976710656
  ·rw [if_pos c4] at H
   have c4b0 := eq_true c4
   have c4b1 : decide ((a1 : Int).toNat ≤ 281474976710656) = true := decide_eq_true c4
   clear c4
   obtain ⟨y451, hy451⟩ : ∃ y_ : List Int, y_ = (List.replicate (a1 : Int).toNat 0) := ⟨_, rfl⟩
   (first | replace H := sb_ hy451 H | rw [← hy451] at H)
   have Ny451 := Aside0.mk hy451; clear hy451
   have H' := Aside0.mk H
   clear H
   go_enter Try.func73, Try.ntmps73
   go_wp2_with (first | ((with_reducible refine gate_dst (N := 8) rfl ?_); refine Kd.R_make (Kd.int .u8) _ 5 rfl (N := 8) rfl 34 _ _ rfl a1 rfl rfl Try.underlying34 (.int .u8 0) 1 info5 rfl (by decide) (by omega) 0 (ok := fun _ => True) (okp := fun _ => True) rfl (fun _ hk => hk) trivial (of_decide_eq_true (by first | (with_reducible assumption) | assumption)) (Nat.le_trans (Nat.mul_le_mul_right _ (of_decide_eq_true (by first | (with_reducible assumption) | assumption) : a1.toNat ≤ 281474976710656)) (by omega)) (Below.refl _ _) (Nat.le_refl _) ?_; intro v452 w5 ho6 hb hg_ hnew_; clear hg_ hnew_; (first | rw [← Ny451.out] at ho6 | (simp only [Int.reduceToNat] at ho6; rw [← Ny451.out] at ho6)); have HO453 := Aside0.mk (Kd.R_lower ho6 (below_size (hbA_ HB.out))); replace HB := (bs_ HB hb); clear hb ho6))
   go_loopg [0, 6] k (fun kq v0 v6 w' => ∃ (x0_1 : Int) (x5_1 : List Int) (x6_1 : Int), v0 = .int .i64 x0_1 ∧ v6 = .int .i64 x6_1 ∧ Aside0 (impl_bytesOf.l0 kq x0_1 x5_1 x6_1 = some r) ∧ Aside0 (kq ≤ k) ∧ Aside0 (Kd.R (Kd.int .u8) 5 w' w.heap.size (fun _ => True) v452 x5_1) ∧ Aside0 (Below w.heap.size w w'))
   case atStart => exact ⟨(a0), (y451), (wrap64 (a1 - 1)), (by first | rfl | (simp; done) | (simp [*]; done)), (by first | rfl | (simp; done) | (simp [*]; done)), H', ⟨Nat.le_refl _⟩, ⟨kR_ HO453.out⟩, ⟨hbA_ HB.out⟩⟩
   case round =>
    clear H'; (try clear p2); (try clear c3); (try clear c3b0); (try clear c3b1); (try clear c4); (try clear c4b0); (try clear c4b1); (try clear p6)
    obtain ⟨x0_1, x5_1, x6_1, rfl, rfl, HA, HK1, HO_5, HB⟩ := hrel
    cases gk with
    | zero => exact absurd HA.out (by simp [impl_bytesOf.l0])
    | succ k1 =>
     have H := HA.out; clear HA
     simp only [impl_bytesOf.l0] at H
     by_cases c7 : x6_1 ≥ 0
     ·rw [if_pos c7] at H
      have c7b0 : decide (0 ≤ x6_1) = true := decide_eq_true c7
      clear c7
      by_cases c8 : 0 ≤ x6_1
      ·rw [if_pos c8] at H
       have c8b0 : decide (0 ≤ x6_1) = true := decide_eq_true c8
       clear c8
       by_cases c9 : x6_1 < (x5_1.length : Int)
       ·rw [if_pos c9] at H
        have c9b0 : decide (x6_1 < (x5_1.length : Int)) = true := decide_eq_true c9
        clear c9
        obtain ⟨y454, hy454⟩ : ∃ y_ : List Int, y_ = (x5_1.set (x6_1 : Int).toNat ((x0_1) % 256)) := ⟨_, rfl⟩
        (first | replace H := sb_ hy454 H | rw [← hy454] at H)
        have Ny454 := Aside0.mk hy454; clear hy454
        have H' := Aside0.mk H
        clear H
        have p10 : 0 ≤ (x6_1 : Int) := of_decide_eq_true (by first | (with_reducible assumption) | assumption)
        have q10 : (x6_1 : Int) < ((x5_1.length : Int) : Int) := of_decide_eq_true (by first | (with_reducible assumption) | assumption)
        obtain ⟨go10, co10, eo10, gb10, gl10, cl10, HG10⟩ := Kd.R_form HO_5.out (by omega)
        (first | cases eo10 | (injection eo10 with ea_ en_ ec_; (first | subst ea_ | (injection ea_ with ea_; subst ea_)); subst ec_; clear en_))
        have GB10 := Aside0.mk gb10; have GG10 := Aside0.mk HG10; clear gb10 gl10 HG10
        obtain ⟨hx10_0, hf10_0⟩ := Kd.R_celln 0 HO_5.out (x6_1 : Int) p10 q10
        replace p10 := eq_true p10
        replace q10 := eq_true q10
        have HP11 := Kd.R_putg HO_5.out (x6_1 : Int) ((x0_1) % 256)
        go_wp2_with (first | ((with_reducible refine gate_store (t := 5) (p := 19) rfl ?_); refine store_event (t := 5) (p := 19) (v := ?vo_w12) (w1 := (wr.setCell ⟨go10, (x6_1 : Int).toNat, none⟩ (.int .u8 ((x0_1) % 256)))) ?hg ?ho ?hn ?hr ?_; (case ho => rfl); (case hg => rfl); (case hn => rfl); (case hr => first | (go_simp; done) | (go_simp; rfl)); intro w12 hw; have hg : wr.grownBy w12 (some go10) := (by rw [hw]; exact HP11.2); have hp_ : Kd.R (Kd.int .u8) 5 w12 w.heap.size (fun _ => True) (.slice (some ⟨go10, 0, none⟩) x5_1.length co10) y454 := (by rw [hw, Ny454.out]; exact HP11.1); clear HP11; replace HO_5 := Aside0.mk (hp_); replace HB := Aside0.mk ((by rw [hw]; exact below_set (HB.out) GB10.out : Below w.heap.size w w12)); clear hg hw hp_))
        go_roundg k1
        case measure => have := HK1.out; omega
        case rel => exact ⟨(x0_1 / 256), (y454), (wrap64 (x6_1 - 1)), (by first | rfl | (simp; done) | (simp [*]; done)), (by first | rfl | (simp; done) | (simp [*]; done)), H', ⟨by have := HK1.out; omega⟩, ⟨kR_ HO_5.out⟩, ⟨hbA_ HB.out⟩⟩
       ·rw [if_neg c9] at H
        exact absurd H (by simp)
      ·rw [if_neg c8] at H
       exact absurd H (by simp)
     ·rw [if_neg c7] at H
      have c7b0 : decide (0 ≤ x6_1) = false := decide_eq_false c7
      clear c7
      obtain rfl := Option.some.inj H
      go_wp2
      go_ret
      exact ⟨_, by first | rfl | (simp [errW_none, errW_some] <;> rfl) | (simp [*, errW_none, errW_some] <;> rfl), kR_ HO_5.out, hbA_ HB.out⟩
  ·rw [if_neg c4] at H
   exact absurd H (by simp)
 ·rw [if_neg c3] at H
  exact absurd H (by simp)
end Go.Proofs.Ytegchbdjbefdbaa.PFnClientOver
