/- Printed by wip/xp/xprint.sh out of the translation, for this claim: what each function answers, as a plain function, and that the machine does just that. No condition. -/
import Derived.Test.YtegchbdjbefdbaaPFnClientAskx0
import Derived.Test.YtegchbdjbefdbaaPFnClientAskx1
import Derived.Test.YtegchbdjbefdbaaPFnClientAskx6
namespace Go.Proofs.Ytegchbdjbefdbaa.PFnClientAsk
open Go.RowKit Go.Proofs.YtegchbdjbefdbaaW.PrintWords Go.Proofs.YtegchbdjbefdbaaW.PrintLast Go.Proofs.YtegchbdjbefdbaaW.PrintMore
attribute [local go_sem] max2_int min2_int max_two min_two max_three min_three max_four min_four   -- for this text's walks alone
set_option linter.unusedVariables false
set_option linter.unusedSimpArgs false
def impl_Client_copy.l0 : Nat → List (S41) → Int → Int → Int → List Int → List (S41) → List Int → Option (Int × List Int × (List (S41)) × List Int)
 | 0, _, _, _, _, _, _, _ => none
 | k + 1, x16, x17, x18, x436000, x436001, x436002, x436003 => if x18 < x17 then (if 0 ≤ x18 then (if x18 < (x16.length : Int) then ((impl_clone_byte.f ((rd_T41 x16 x18).f1)).bind fun t438 => (if x436002.length < 4398046511104 then (impl_Client_copy.l0 k x16 x17 (wrap64 (x18 + 1)) x436000 x436001 (x436002 ++ [(⟨(rd_T41 x16 x18).f0, t438⟩ : S41)]) x436003) else (none))) else (none)) else (none)) else (some (x436000, x436001, x436002, x436003))
def impl_Client_copy.f (k : Nat) (a0_0 : Int) (l0_1 : List Int) (l0_2 : List (S41)) (l0_3 : List Int) : Option (Int × List Int × (List (S41)) × List Int) := (impl_clone_int.f l0_1).bind fun t429 => ((impl_clone_int.f l0_3).bind fun t432 => (impl_Client_copy.l0 k l0_2 (l0_2.length : Int) 0 a0_0 t429 ([] : List (S41)) t432))
theorem impl_Client_copy.mono_l : ∀ k, (∀ y0 y1 y2 y3 y4 y5 y6, LeO (impl_Client_copy.l0 k y0 y1 y2 y3 y4 y5 y6) (impl_Client_copy.l0 (k + 1) y0 y1 y2 y3 y4 y5 y6))
 | 0 => fun _ _ _ _ _ _ _ r h => by simp [impl_Client_copy.l0] at h
 | k + 1 => by
  have ih0 := impl_Client_copy.mono_l k
  ·intro y0 y1 y2 y3 y4 y5 y6
   unfold impl_Client_copy.l0
   repeat' first | (with_reducible first | apply ih0 | exact LeO.refl _ | exact LeO.none _ | refine LeO.ite ?_ ?_ | refine LeO.bind ?_ fun _ => ?_) | apply ih0 | exact LeO.none _ | refine LeO.ite ?_ ?_ | refine LeO.bind ?_ fun _ => ?_
theorem impl_Client_copy.mono : ∀ a0 a1 a2 a3 k, LeO (impl_Client_copy.f k a0 a1 a2 a3) (impl_Client_copy.f (k + 1) a0 a1 a2 a3) := by
 intro a0 a1 a2 a3 k
 have ih0 := impl_Client_copy.mono_l k
 unfold impl_Client_copy.f
 repeat' first | (with_reducible first | apply ih0 | exact LeO.refl _ | exact LeO.none _ | refine LeO.ite ?_ ?_ | refine LeO.bind ?_ fun _ => ?_) | apply ih0 | exact LeO.none _ | refine LeO.ite ?_ ?_ | refine LeO.bind ?_ fun _ => ?_
def impl_Client_copy.T1 : Bool × List (List Nat × List Nat) := (true, [([], []), ([0], [0]), ([], []), ([2], [2]), ([3], [3]), ([], []), ([5], [5]), ([6, 4], [6]), ([1, 4, 7], [1, 4, 7]), ([], []), ([9, 8, 7, 0, 1, 2, 3, 4, 5, 6, 7, 8, 9], [8, 9])])
def impl_Client_copy.B1 : List Nat := [0, 1, 0, 4, 12, 0, 32, 124, 255, 0, 1023]
theorem impl_Client_copy.tab1 : rtab .any (opsOf Try.f54 1) = impl_Client_copy.T1 := by kernel_rfl
theorem impl_Client_copy.bits1 : waitsOk impl_Client_copy.T1.2 impl_Client_copy.B1 = true := by kernel_rfl
def impl_Client_copy.T5 : Bool × List (List Nat × List Nat) := (true, [([], []), ([0], [0]), ([], []), ([2], [2]), ([], []), ([4], [4]), ([5], [5]), ([3, 6], [3, 6]), ([7], [7]), ([1, 8, 6], [1, 8]), ([0, 1, 2, 3, 4, 5, 6, 7, 8, 9], []), ([10, 9, 9, 0, 1, 2, 3, 4, 5, 6, 7, 8, 9], [9, 10])])
def impl_Client_copy.B5 : List Nat := [0, 1, 0, 4, 0, 16, 48, 124, 252, 511, 1023, 2047]
theorem impl_Client_copy.tab5 : rtab .any (opsOf Try.f54 5) = impl_Client_copy.T5 := by kernel_rfl
theorem impl_Client_copy.bits5 : waitsOk impl_Client_copy.T5.2 impl_Client_copy.B5 = true := by kernel_rfl
set_option maxHeartbeats 8000000 in
set_option maxRecDepth 100000 in
theorem impl_Client_copy.calls (k : Nat) (a0_0 : Int) (A0_1 : Option Addr) (c0_1 : Nat) (l0_1 : List Int) (A0_2 : Option Addr) (c0_2 : Nat) (l0_2 : List (S41)) (A0_3 : Option Addr) (c0_3 : Nat) (l0_3 : List Int) (r1 : Int) (r2 : List Int) (r3 : List (S41)) (r4 : List Int) (w : World) (hr0_1 : Kd.C (Kd.int .i64) w A0_1 l0_1.length l0_1) (hc0_1 : l0_1.length ≤ c0_1) (hr0_2 : Kd.C k41 w A0_2 l0_2.length l0_2) (hc0_2 : l0_2.length ≤ c0_2) (hr0_3 : Kd.C (Kd.int .i64) w A0_3 l0_3.length l0_3) (hc0_3 : l0_3.length ≤ c0_3) (h : impl_Client_copy.f k a0_0 l0_1 l0_2 l0_3 = some (r1, r2, r3, r4)) :
  Calls Try.prog 54 #[.agg #[.int .i64 a0_0, .slice A0_1 l0_1.length c0_1, .slice A0_2 l0_2.length c0_2, .slice A0_3 l0_3.length c0_3]] w fun e w' => ∃ v1_ v2_ v3_ : Value, e = .returned (.agg #[.int .i64 r1, v1_, v2_, v3_]) ∧ Kd.R (Kd.int .i64) 3 w' w.heap.size (fun k_ => some k_ ≠ (v3_ : Value).ownBlock) v1_ r2 ∧ Kd.S k41 41 w' w.heap.size (fun _ => True) v2_ r3 ∧ Kd.R (Kd.int .i64) 3 w' w.heap.size (fun k_ => some k_ ≠ (v1_ : Value).ownBlock) v3_ r4 ∧ Below w.heap.size w w' := by
 have hu30 := Try.underlying30; have hu41 := Try.underlying41; have HR0_1 := Aside0.mk hr0_1; have HC0_1 := Aside0.mk hc0_1; clear hr0_1 hc0_1; have HR0_2 := Aside0.mk hr0_2; have HC0_2 := Aside0.mk hc0_2; clear hr0_2 hc0_2; have HR0_3 := Aside0.mk hr0_3; have HC0_3 := Aside0.mk hc0_3; clear hr0_3 hc0_3
 have HB := Aside0.mk (Below.refl w.heap.size w)
 have H : ((impl_clone_int.f l0_1).bind fun t429 => ((impl_clone_int.f l0_3).bind fun t432 => (impl_Client_copy.l0 k l0_2 (l0_2.length : Int) 0 a0_0 t429 ([] : List (S41)) t432))) = some (r1, r2, r3, r4) := h
 clear h
 replace H := Option.bind_eq_some_iff.mp H
 obtain ⟨t429, A20, H⟩ := H
 (try dsimp only at H)
 have A2 := Aside0.mk A20; clear A20
 replace H := Option.bind_eq_some_iff.mp H
 obtain ⟨t432, A30, H⟩ := H
 (try dsimp only at H)
 have A3 := Aside0.mk A30; clear A30
 have H' := Aside0.mk H
 clear H
 go_enter Try.func54, Try.ntmps54
 try go_wp2_with (first | ((with_reducible refine gate_dst (N := 1) rfl ?_); refine box_ (N := 1) (cs := #[.int .i64 a0_0, .slice A0_1 l0_1.length c0_1, .slice A0_2 l0_2.length c0_2, .slice A0_3 l0_3.length c0_3]) (t := 30) (fun gb427 hg w4 hbox hb => ?_); have BK427 := Aside0.mk (hbox); have GW427 := ge_ hg HB; have GE427 := ge_ hg HB; replace HB := (bs_ HB hb); clear hb hbox hg) | ((with_reducible refine gate_dst (N := 2) rfl ?_); refine box_ (N := 2) (cs := #[.int .i64 0, .slice none 0 0, .slice none 0 0, .slice none 0 0]) (t := 30) (fun gb428 hg w5 hbox hb => ?_); have BK428 := Aside0.mk (hbox); have GW428 := ge_ hg HB; have GE428 := ge_ hg HB; replace HB := (bs_ HB hb); have NB427_428 := nl_ hg BK427; have NB428_427 := ng_ hg BK427; replace BK427 := (bbA_ BK427 hb); clear hb hbox hg))
 replace BK427 := Aside0.mk (blk_drew BK427.out); replace BK428 := Aside0.mk (blk_drew BK428.out); replace HB := (bd_ HB)
 refine start_ (n := 11) (S := fun w' => w'.cell? ⟨gb427, 0, none⟩ = some (.int .i64 a0_0) ∧ w'.cell? ⟨gb427, 1, none⟩ = some (.slice A0_1 l0_1.length c0_1) ∧ w'.cell? ⟨gb427, 2, none⟩ = some (.slice A0_2 l0_2.length c0_2) ∧ w'.cell? ⟨gb427, 3, none⟩ = some (.slice A0_3 l0_3.length c0_3)) (ds := []) #[false, false, false, false, false, false, false, false, false, false, false] (by kernel_rfl) rfl rfl (cz4 BK427.out) (fun hHeld => ?_); refine with_tabW impl_Client_copy.tab1 impl_Client_copy.bits1 (fun HT_ HW_ => ?_)
 generalize w5.drew = w6 at BK427 BK428 HB hHeld ⊢
 refine pu_ (i := 0) (N := some 6) HT_ ?_; refine pu_ (i := 2) (N := some 8) HT_ ?_; refine pu_ (i := 5) (N := some 11) HT_ ?_; refine tk_ (i := 1) (N := some 7) HT_ HW_ hHeld ?_; refine tk_ (i := 3) (N := some 9) HT_ HW_ hHeld ?_; refine tk_ (i := 6) (N := some 12) HT_ HW_ hHeld ?_
 refine join_ (σ := Value × Value × Nat) 1 #[true, true, true, true, true, true, true, true, true, true, false] (fun s_ => [(10, s_.1), (13, s_.2.1), (3, .pointer (some ⟨s_.2.2, 0, none⟩)), (14, .agg #[.int .i64 a0_0, s_.1, .slice none 0 0, s_.2.1])]) (fun s_ w' => (w'.cell? ⟨gb427, 0, none⟩ = some (.int .i64 a0_0) ∧ w'.cell? ⟨gb427, 1, none⟩ = some (.slice A0_1 l0_1.length c0_1) ∧ w'.cell? ⟨gb427, 2, none⟩ = some (.slice A0_2 l0_2.length c0_2) ∧ w'.cell? ⟨gb427, 3, none⟩ = some (.slice A0_3 l0_3.length c0_3)) ∧ (Kd.R (Kd.int .i64) 3 w' w.heap.size (fun k_ => some k_ ≠ (s_.2.1 : Value).ownBlock) s_.1 t429) ∧ (Kd.R (Kd.int .i64) 3 w' w.heap.size (fun k_ => some k_ ≠ (s_.1 : Value).ownBlock) s_.2.1 t432) ∧ (w'.heap[gb427]? = some (.cells #[.int .i64 a0_0, .slice A0_1 l0_1.length c0_1, .slice A0_2 l0_2.length c0_2, .slice A0_3 l0_3.length c0_3] 30 (0, 0))) ∧ (w'.heap[gb428]? = some (.cells #[.int .i64 0, .slice none 0 0, .slice none 0 0, .slice none 0 0] 30 (0, 0))) ∧ (w'.heap[s_.2.2]? = some (.cells #[.int .i64 0, .slice none 0 0, .slice none 0 0, .slice none 0 0] 30 (0, 0))) ∧ (w.heap.size ≤ s_.2.2) ∧ (w.heap.size ≤ s_.2.2) ∧ (gb427 ≠ s_.2.2) ∧ (s_.2.2 ≠ gb427) ∧ (gb428 ≠ s_.2.2) ∧ (s_.2.2 ≠ gb428) ∧ (Below w.heap.size w w')) ?_ ?_
 rotate_left
 ·intro hCont
  refine two_ (i := 4) (j := 9) (Ni := some 10) (Nj := some 3) #[true, true, true, true, true, true, true, false, false, false, false] #[true, true, true, true, false, true, true, false, false, true, false] rfl rfl rfl rfl (two_of HT_.out (by kernel_rfl)) (by decide) (by decide) (fun K hK => ?_) (fun K hK => ?_)
  ·skip
   refine goes_ Try.func72 (by kernel_rfl) rfl #[.slice A0_1 l0_1.length c0_1] (by rfl) rfl rfl ar_ ?_
   with_reducible refine (impl_clone_int.calls _ _ l0_1 t429 _ ?side1 ?side2 A2.out).mono ?_
   (case side1 => exact kC_ (Kd.C_below HR0_1.out HB.out))
   (case side2 => exact HC0_1.out)
   rintro e w7 ⟨v430, rfl, ho0, hb⟩
   refine ⟨_, rfl, ?_⟩
   have HO431 := Aside0.mk (Kd.R_lower ho0 (below_size (hbA_ HB.out))); replace BK427 := (bbA_ BK427 hb); replace BK428 := (bbA_ BK428 hb); replace HB := (bs_ HB hb); (try clear hb); (try clear hb2); (try clear hk); (try clear hi); (try clear ho0)
   refine hK.out _ _ (cz4 BK427.out) (fun hHeld => ?_)
   clear hK K; refine nm_ 10 ?_
   refine two_ (i := 7) (j := 9) (Ni := some 13) (Nj := some 3) #[true, true, true, true, true, true, true, true, false, false, false] #[true, true, true, true, true, true, true, false, false, true, false] rfl rfl rfl rfl (two_of HT_.out (by kernel_rfl)) (by decide) (by decide) (fun K hK => ?_) (fun K hK => ?_)
   ·skip
    refine goes_ Try.func72 (by kernel_rfl) rfl #[.slice A0_3 l0_3.length c0_3] (by rfl) rfl rfl ar_ ?_
    with_reducible refine (impl_clone_int.calls _ _ l0_3 t432 _ ?side1 ?side2 A3.out).mono ?_
    (case side1 => exact kC_ (Kd.C_below HR0_3.out HB.out))
    (case side2 => exact HC0_3.out)
    rintro e w8 ⟨v433, rfl, ho0, hb⟩
    refine ⟨_, rfl, ?_⟩
    have HO434 := Aside0.mk (Kd.R_lower (Kd.R_new' ho0 (Kd.R_lt (kR_ HO431.out))) (below_size (hbA_ HB.out))); replace HO431 := Aside0.mk (Kd.R_elder' (kR_ HO431.out) (Kd.R_base ho0) hb); replace BK427 := (bbA_ BK427 hb); replace BK428 := (bbA_ BK428 hb); replace HB := (bs_ HB hb); (try clear hb); (try clear hb2); (try clear hk); (try clear hi); (try clear ho0)
    obtain ⟨Ao9, co9, eo9⟩ := Kd.R_slice HO434.out
    (first | subst eo9 | (injection eo9 with f1_ f2_ f3_; have f4_ := f1_.symm; have f5_ := f3_.symm; clear f1_ f2_ f3_; subst f4_; subst f5_))
    obtain ⟨Ao10, co10, eo10⟩ := Kd.R_slice HO431.out
    (first | subst eo10 | (injection eo10 with f1_ f2_ f3_; have f4_ := f1_.symm; have f5_ := f3_.symm; clear f1_ f2_ f3_; subst f4_; subst f5_))
    refine hK.out _ _ (cz4 BK427.out) (fun hHeld => ?_)
    clear hK K; refine nm_ 13 ?_; refine pu_ (i := 8) (N := some 14) HT_ ?_
    refine on_ (i := 9) (N := some 3) HT_ (fun K hK => ?_)
    refine box_step ?hg (N := 3) ?hd (cs := #[.int .i64 0, .slice none 0 0, .slice none 0 0, .slice none 0 0]) (t := 30) ?hr ?_; (case hd => rfl); (case hg => rfl); (case hr => first | (go_simp; done) | (go_simp; rfl))
    intro gb435 hg w11 hbox hb
    have n0_ := Aside0.mk (Kd.R_below (kR_ HO431.out) hb); have n1_ := Aside0.mk (Kd.R_below (kR_ HO434.out) hb); have n2_ := (bbA_ BK427 hb); have n3_ := (bbA_ BK428 hb); have n4_ := (bs_ HB hb); have n5_ := Aside0.mk (hbox); have n6_ := ge_ hg HB; have n7_ := ge_ hg HB; have n8_ := nl_ hg BK427; have n9_ := ng_ hg BK427; have n10_ := nl_ hg BK428; have n11_ := ng_ hg BK428; clear HO431 HO434 BK427 BK428 HB; have HO431 := n0_; have HO434 := n1_; have BK427 := n2_; have BK428 := n3_; have HB := n4_; have BK435 := n5_; have GW435 := n6_; have GE435 := n7_; have NB427_435 := n8_; have NB435_427 := n9_; have NB428_435 := n10_; have NB435_428 := n11_; clear n0_ n1_ n2_ n3_ n4_ n5_ n6_ n7_ n8_ n9_ n10_ n11_ hb hbox hg
    refine hK.out _ _ (cz4 BK427.out) (fun hHeld => ?_)
    clear hK K; refine nm_ 3 ?_
    exact norm_ (by simp only [putAll, Act.put, List.setIfInBounds_toArray, List.set_cons_zero, List.set_cons_succ]) (hCont (.slice Ao10 t429.length co10, .slice Ao9 t432.length co9, gb435) _ ⟨hHeld, (by refine kR_ ?_; first | exact Kd.R_mono HO431.out (fun _ hk => hk.2) | exact Kd.R_mono HO431.out (fun _ _ => trivial)), (by refine kR_ ?_; first | exact Kd.R_mono HO434.out (fun _ hk => hk.2) | exact Kd.R_mono HO434.out (fun _ _ => trivial)), (kb_ BK427.out), (kb_ BK428.out), (kb_ BK435.out), GW435.out, GE435.out, NB427_435.out, NB435_427.out, NB428_435.out, NB435_428.out, (hbA_ HB.out)⟩)
   ·skip
    refine box_step ?hg (N := 3) ?hd (cs := #[.int .i64 0, .slice none 0 0, .slice none 0 0, .slice none 0 0]) (t := 30) ?hr ?_; (case hd => rfl); (case hg => rfl); (case hr => first | (go_simp; done) | (go_simp; rfl))
    intro gb435 hg w8 hbox hb
    have n0_ := Aside0.mk (Kd.R_below (kR_ HO431.out) hb); have n1_ := (bbA_ BK427 hb); have n2_ := (bbA_ BK428 hb); have n3_ := (bs_ HB hb); have n4_ := Aside0.mk (hbox); have n5_ := ge_ hg HB; have n6_ := ge_ hg HB; have n7_ := nl_ hg BK427; have n8_ := ng_ hg BK427; have n9_ := nl_ hg BK428; have n10_ := ng_ hg BK428; clear HO431 BK427 BK428 HB; have HO431 := n0_; have BK427 := n1_; have BK428 := n2_; have HB := n3_; have BK435 := n4_; have GW435 := n5_; have GE435 := n6_; have NB427_435 := n7_; have NB435_427 := n8_; have NB428_435 := n9_; have NB435_428 := n10_; clear n0_ n1_ n2_ n3_ n4_ n5_ n6_ n7_ n8_ n9_ n10_ hb hbox hg
    refine hK.out _ _ (cz4 BK427.out) (fun hHeld => ?_)
    clear hK K; refine nm_ 3 ?_
    refine on_ (i := 7) (N := some 13) HT_ (fun K hK => ?_)
    refine goes_ Try.func72 (by kernel_rfl) rfl #[.slice A0_3 l0_3.length c0_3] (by rfl) rfl rfl ar_ ?_
    with_reducible refine (impl_clone_int.calls _ _ l0_3 t432 _ ?side1 ?side2 A3.out).mono ?_
    (case side1 => exact kC_ (Kd.C_below HR0_3.out HB.out))
    (case side2 => exact HC0_3.out)
    rintro e w9 ⟨v433, rfl, ho0, hb⟩
    refine ⟨_, rfl, ?_⟩
    have HO434 := Aside0.mk (Kd.R_lower (Kd.R_new' ho0 (Kd.R_lt (kR_ HO431.out))) (below_size (hbA_ HB.out))); replace HO431 := Aside0.mk (Kd.R_elder' (kR_ HO431.out) (Kd.R_base ho0) hb); replace BK427 := (bbA_ BK427 hb); replace BK428 := (bbA_ BK428 hb); replace BK435 := (bbA_ BK435 hb); replace HB := (bs_ HB hb); (try clear hb); (try clear hb2); (try clear hk); (try clear hi); (try clear ho0)
    obtain ⟨Ao10, co10, eo10⟩ := Kd.R_slice HO434.out
    (first | subst eo10 | (injection eo10 with f1_ f2_ f3_; have f4_ := f1_.symm; have f5_ := f3_.symm; clear f1_ f2_ f3_; subst f4_; subst f5_))
    obtain ⟨Ao11, co11, eo11⟩ := Kd.R_slice HO431.out
    (first | subst eo11 | (injection eo11 with f1_ f2_ f3_; have f4_ := f1_.symm; have f5_ := f3_.symm; clear f1_ f2_ f3_; subst f4_; subst f5_))
    refine hK.out _ _ (cz4 BK427.out) (fun hHeld => ?_)
    clear hK K; refine nm_ 13 ?_; refine pu_ (i := 8) (N := some 14) HT_ ?_
    exact norm_ (by simp only [putAll, Act.put, List.setIfInBounds_toArray, List.set_cons_zero, List.set_cons_succ]) (hCont (.slice Ao11 t429.length co11, .slice Ao10 t432.length co10, gb435) _ ⟨hHeld, (by refine kR_ ?_; first | exact Kd.R_mono HO431.out (fun _ hk => hk.2) | exact Kd.R_mono HO431.out (fun _ _ => trivial)), (by refine kR_ ?_; first | exact Kd.R_mono HO434.out (fun _ hk => hk.2) | exact Kd.R_mono HO434.out (fun _ _ => trivial)), (kb_ BK427.out), (kb_ BK428.out), (kb_ BK435.out), GW435.out, GE435.out, NB427_435.out, NB435_427.out, NB428_435.out, NB435_428.out, (hbA_ HB.out)⟩)
  ·skip
   refine box_step ?hg (N := 3) ?hd (cs := #[.int .i64 0, .slice none 0 0, .slice none 0 0, .slice none 0 0]) (t := 30) ?hr ?_; (case hd => rfl); (case hg => rfl); (case hr => first | (go_simp; done) | (go_simp; rfl))
   intro gb435 hg w7 hbox hb
   have n0_ := (bbA_ BK427 hb); have n1_ := (bbA_ BK428 hb); have n2_ := (bs_ HB hb); have n3_ := Aside0.mk (hbox); have n4_ := ge_ hg HB; have n5_ := ge_ hg HB; have n6_ := nl_ hg BK427; have n7_ := ng_ hg BK427; have n8_ := nl_ hg BK428; have n9_ := ng_ hg BK428; clear BK427 BK428 HB; have BK427 := n0_; have BK428 := n1_; have HB := n2_; have BK435 := n3_; have GW435 := n4_; have GE435 := n5_; have NB427_435 := n6_; have NB435_427 := n7_; have NB428_435 := n8_; have NB435_428 := n9_; clear n0_ n1_ n2_ n3_ n4_ n5_ n6_ n7_ n8_ n9_ hb hbox hg
   refine hK.out _ _ (cz4 BK427.out) (fun hHeld => ?_)
   clear hK K; refine nm_ 3 ?_
   refine on_ (i := 4) (N := some 10) HT_ (fun K hK => ?_)
   refine goes_ Try.func72 (by kernel_rfl) rfl #[.slice A0_1 l0_1.length c0_1] (by rfl) rfl rfl ar_ ?_
   with_reducible refine (impl_clone_int.calls _ _ l0_1 t429 _ ?side1 ?side2 A2.out).mono ?_
   (case side1 => exact kC_ (Kd.C_below HR0_1.out HB.out))
   (case side2 => exact HC0_1.out)
   rintro e w8 ⟨v430, rfl, ho0, hb⟩
   refine ⟨_, rfl, ?_⟩
   have HO431 := Aside0.mk (Kd.R_lower ho0 (below_size (hbA_ HB.out))); replace BK427 := (bbA_ BK427 hb); replace BK428 := (bbA_ BK428 hb); replace BK435 := (bbA_ BK435 hb); replace HB := (bs_ HB hb); (try clear hb); (try clear hb2); (try clear hk); (try clear hi); (try clear ho0)
   refine hK.out _ _ (cz4 BK427.out) (fun hHeld => ?_)
   clear hK K; refine nm_ 10 ?_
   refine on_ (i := 7) (N := some 13) HT_ (fun K hK => ?_)
   refine goes_ Try.func72 (by kernel_rfl) rfl #[.slice A0_3 l0_3.length c0_3] (by rfl) rfl rfl ar_ ?_
   with_reducible refine (impl_clone_int.calls _ _ l0_3 t432 _ ?side1 ?side2 A3.out).mono ?_
   (case side1 => exact kC_ (Kd.C_below HR0_3.out HB.out))
   (case side2 => exact HC0_3.out)
   rintro e w9 ⟨v433, rfl, ho0, hb⟩
   refine ⟨_, rfl, ?_⟩
   have HO434 := Aside0.mk (Kd.R_lower (Kd.R_new' ho0 (Kd.R_lt (kR_ HO431.out))) (below_size (hbA_ HB.out))); replace HO431 := Aside0.mk (Kd.R_elder' (kR_ HO431.out) (Kd.R_base ho0) hb); replace BK427 := (bbA_ BK427 hb); replace BK428 := (bbA_ BK428 hb); replace BK435 := (bbA_ BK435 hb); replace HB := (bs_ HB hb); (try clear hb); (try clear hb2); (try clear hk); (try clear hi); (try clear ho0)
   obtain ⟨Ao10, co10, eo10⟩ := Kd.R_slice HO434.out
   (first | subst eo10 | (injection eo10 with f1_ f2_ f3_; have f4_ := f1_.symm; have f5_ := f3_.symm; clear f1_ f2_ f3_; subst f4_; subst f5_))
   obtain ⟨Ao11, co11, eo11⟩ := Kd.R_slice HO431.out
   (first | subst eo11 | (injection eo11 with f1_ f2_ f3_; have f4_ := f1_.symm; have f5_ := f3_.symm; clear f1_ f2_ f3_; subst f4_; subst f5_))
   refine hK.out _ _ (cz4 BK427.out) (fun hHeld => ?_)
   clear hK K; refine nm_ 13 ?_; refine pu_ (i := 8) (N := some 14) HT_ ?_
   exact norm_ (by simp only [putAll, Act.put, List.setIfInBounds_toArray, List.set_cons_zero, List.set_cons_succ]) (hCont (.slice Ao11 t429.length co11, .slice Ao10 t432.length co10, gb435) _ ⟨hHeld, (by refine kR_ ?_; first | exact Kd.R_mono HO431.out (fun _ hk => hk.2) | exact Kd.R_mono HO431.out (fun _ _ => trivial)), (by refine kR_ ?_; first | exact Kd.R_mono HO434.out (fun _ hk => hk.2) | exact Kd.R_mono HO434.out (fun _ _ => trivial)), (kb_ BK427.out), (kb_ BK428.out), (kb_ BK435.out), GW435.out, GE435.out, NB427_435.out, NB435_427.out, NB428_435.out, NB435_428.out, (hbA_ HB.out)⟩)
 rintro ⟨v430, v433, gb435⟩ w12 ⟨hS_, h0_, h1_, h2_, h3_, h4_, h5_, h6_, h7_, h8_, h9_, h10_, h11_⟩
 have n0_ : Aside0 (Kd.R (Kd.int .i64) 3 w12 w.heap.size (fun k_ => some k_ ≠ (v433 : Value).ownBlock) v430 t429) := ⟨h0_⟩
 have n1_ : Aside0 (Kd.R (Kd.int .i64) 3 w12 w.heap.size (fun k_ => some k_ ≠ (v430 : Value).ownBlock) v433 t432) := ⟨h1_⟩
 have n2_ : Aside0 (w12.heap[gb427]? = some (.cells #[.int .i64 a0_0, .slice A0_1 l0_1.length c0_1, .slice A0_2 l0_2.length c0_2, .slice A0_3 l0_3.length c0_3] 30 (0, 0))) := ⟨h2_⟩
 have n3_ : Aside0 (w12.heap[gb428]? = some (.cells #[.int .i64 0, .slice none 0 0, .slice none 0 0, .slice none 0 0] 30 (0, 0))) := ⟨h3_⟩
 have n4_ : Aside0 (w12.heap[gb435]? = some (.cells #[.int .i64 0, .slice none 0 0, .slice none 0 0, .slice none 0 0] 30 (0, 0))) := ⟨h4_⟩
 have n5_ : Aside0 (w.heap.size ≤ gb435) := ⟨h5_⟩
 have n6_ : Aside0 (w.heap.size ≤ gb435) := ⟨h6_⟩
 have n7_ : Aside0 (gb427 ≠ gb435) := ⟨h7_⟩
 have n8_ : Aside0 (gb435 ≠ gb427) := ⟨h8_⟩
 have n9_ : Aside0 (gb428 ≠ gb435) := ⟨h9_⟩
 have n10_ : Aside0 (gb435 ≠ gb428) := ⟨h10_⟩
 have n11_ : Aside0 (Below w.heap.size w w12) := ⟨h11_⟩
 clear BK427 BK428 HB h0_ h1_ h2_ h3_ h4_ h5_ h6_ h7_ h8_ h9_ h10_ h11_; have HO431 := n0_; have HO434 := n1_; have BK427 := n2_; have BK428 := n3_; have BK435 := n4_; have GW435 := n5_; have GE435 := n6_; have NB427_435 := n7_; have NB435_427 := n8_; have NB428_435 := n9_; have NB435_428 := n10_; have HB := n11_; clear n0_ n1_ n2_ n3_ n4_ n5_ n6_ n7_ n8_ n9_ n10_ n11_
 have hHeld : w12.cell? ⟨gb427, 0, none⟩ = some (.int .i64 a0_0) ∧ w12.cell? ⟨gb427, 1, none⟩ = some (.slice A0_1 l0_1.length c0_1) ∧ w12.cell? ⟨gb427, 2, none⟩ = some (.slice A0_2 l0_2.length c0_2) ∧ w12.cell? ⟨gb427, 3, none⟩ = some (.slice A0_3 l0_3.length c0_3) := hS_
 obtain ⟨Ao13, co13, eo13⟩ := Kd.R_slice HO434.out
 (first | subst eo13 | (injection eo13 with f1_ f2_ f3_; have f4_ := f1_.symm; have f5_ := f3_.symm; clear f1_ f2_ f3_; subst f4_; subst f5_))
 obtain ⟨Ao14, co14, eo14⟩ := Kd.R_slice HO431.out
 (first | subst eo14 | (injection eo14 with f1_ f2_ f3_; have f4_ := f1_.symm; have f5_ := f3_.symm; clear f1_ f2_ f3_; subst f4_; subst f5_))
 refine norm_ (a' := ?_) ?_ ?_
 rotate_left
 ·simp only [putAll, Act.put, List.setIfInBounds_toArray, List.set_cons_zero, List.set_cons_succ]
  rfl
 refine on_ (i := 10) (N := none) HT_ (fun K hK => ?_)
 have hs15 : w12.cell? ⟨gb435, 0, none⟩ = some (.int .i64 0) := bc_ BK435 0
 have hfs15 := blk_frozen BK435.out 0
 have hns15_0 := NB427_435.out; have hns15_1 := NB428_435.out; have hms15_0 := NB435_427.out; have hms15_1 := NB435_428.out
 have hs16 : w12.cell? ⟨gb435, 1, none⟩ = some (.slice none 0 0) := bc_ BK435 1
 have hfs16 := blk_frozen BK435.out 1
 have hns16_0 := NB427_435.out; have hns16_1 := NB428_435.out; have hms16_0 := NB435_427.out; have hms16_1 := NB435_428.out
 have hs17 : w12.cell? ⟨gb435, 2, none⟩ = some (.slice none 0 0) := bc_ BK435 2
 have hfs17 := blk_frozen BK435.out 2
 have hns17_0 := NB427_435.out; have hns17_1 := NB428_435.out; have hms17_0 := NB435_427.out; have hms17_1 := NB435_428.out
 have hs18 : w12.cell? ⟨gb435, 3, none⟩ = some (.slice none 0 0) := bc_ BK435 3
 have hfs18 := blk_frozen BK435.out 3
 have hns18_0 := NB427_435.out; have hns18_1 := NB428_435.out; have hms18_0 := NB435_427.out; have hms18_1 := NB435_428.out
 refine skip_ (w1 := ?_) (by rfl) rfl ?_ ?_
 rotate_left
 ·go_simp
  rfl
 refine hK.out _ _ ⟨((cell_far (p := ⟨gb435, _, none⟩) NB427_435.out _).trans (((cell_far (p := ⟨gb435, _, none⟩) NB427_435.out _).trans (((cell_far (p := ⟨gb435, _, none⟩) NB427_435.out _).trans (((cell_far (p := ⟨gb435, _, none⟩) NB427_435.out _).trans (hHeld.1)))))))), ((cell_far (p := ⟨gb435, _, none⟩) NB427_435.out _).trans (((cell_far (p := ⟨gb435, _, none⟩) NB427_435.out _).trans (((cell_far (p := ⟨gb435, _, none⟩) NB427_435.out _).trans (((cell_far (p := ⟨gb435, _, none⟩) NB427_435.out _).trans (hHeld.2.1)))))))), ((cell_far (p := ⟨gb435, _, none⟩) NB427_435.out _).trans (((cell_far (p := ⟨gb435, _, none⟩) NB427_435.out _).trans (((cell_far (p := ⟨gb435, _, none⟩) NB427_435.out _).trans (((cell_far (p := ⟨gb435, _, none⟩) NB427_435.out _).trans (hHeld.2.2.1)))))))), ((cell_far (p := ⟨gb435, _, none⟩) NB427_435.out _).trans (((cell_far (p := ⟨gb435, _, none⟩) NB427_435.out _).trans (((cell_far (p := ⟨gb435, _, none⟩) NB427_435.out _).trans (((cell_far (p := ⟨gb435, _, none⟩) NB427_435.out _).trans (hHeld.2.2.2))))))))⟩ (fun hHeld => ?_)
 clear hK K
 refine done_ (done_of HT_.out (by kernel_rfl)) ?_
 have hnb19 := NB427_428.out; have hnc19 := NB428_427.out; have hnb20 := NB427_435.out; have hnc20 := NB435_427.out; have Z21 := zz4 BK427
 try go_wp2
 go_loopg [18] k (fun kq v18 w' => ∃ (x18_1 : Int) (x436002_1 : List (S41)) (u436002 : Value), v18 = .int .i64 x18_1 ∧ Aside0 (impl_Client_copy.l0 kq l0_2 (l0_2.length : Int) x18_1 a0_0 t429 x436002_1 t432 = some (r1, r2, r3, r4)) ∧ Aside0 (kq ≤ k) ∧ Aside0 (Kd.R (Kd.int .i64) 3 w' w.heap.size (fun k_ => some k_ ≠ ((.slice Ao13 t432.length co13) : Value).ownBlock) (.slice Ao14 t429.length co14) t429) ∧ Aside0 (Kd.S k41 41 w' w.heap.size (fun _ => True) u436002 x436002_1) ∧ Aside0 (Kd.R (Kd.int .i64) 3 w' w.heap.size (fun k_ => some k_ ≠ ((.slice Ao14 t429.length co14) : Value).ownBlock) (.slice Ao13 t432.length co13) t432) ∧ Aside0 (w'.heap[gb427]? = some (.cells #[.int .i64 a0_0, (.slice A0_1 l0_1.length c0_1), (.slice A0_2 l0_2.length c0_2), (.slice A0_3 l0_3.length c0_3)] 30 (0, 0))) ∧ Aside0 (w'.heap[gb428]? = some (.cells #[.int .i64 0, (.slice none 0 0), (.slice none 0 0), (.slice none 0 0)] 30 (0, 0))) ∧ Aside0 (w'.heap[gb435]? = some (.cells #[.int .i64 a0_0, (.slice Ao14 t429.length co14), u436002, (.slice Ao13 t432.length co13)] 30 (0, 0))) ∧ Aside0 (Below w.heap.size w w'))
 case atStart => exact ⟨(0), (([] : List (S41))), (.slice none 0 0), (by first | rfl | (simp; done) | (simp [*]; done)), H', ⟨Nat.le_refl _⟩, ⟨by refine kR_ ?_; exact rfm_ ((Kd.R_types HO431.out BK435.out (by decide))) (fun _ hk => hk.1)⟩, ⟨by first | exact Kd.S_nil _ _ _ _ _ | exact Kd.N_nil _ _ _ _ _ | exact Kd.V_nil _ _ _ _ _ | exact Kd.Q_nil _ _ _ _ _ | exact Kd.R_nil _ _ _ _ _⟩, ⟨by refine kR_ ?_; exact rfm_ ((Kd.R_types HO434.out BK435.out (by decide))) (fun _ hk => hk.1)⟩, ⟨by exact kf_ BK427.out⟩, ⟨by exact kf_ BK428.out⟩, ⟨by refine kb_ ?_; refine pz4 (cs := #[.int .i64 0, .slice none 0 0, .slice none 0 0, .slice none 0 0]) ?_; refine kb_ ?_; exact BK435.out⟩, ⟨hbA_ HB.out⟩⟩
 case round =>
  clear H'; (try clear c1); (try clear c2); (try clear p2); (try clear c5); (try clear c7); (try clear c19); (try clear c20); (try clear Z21)
  obtain ⟨x18_1, x436002_1, u436002, rfl, HA, HK1, HO_436001, HO_436002, HO_436003, BK427, BK428, BK435, HB⟩ := hrel
  cases gk with
  | zero => exact absurd HA.out (by simp [impl_Client_copy.l0])
  | succ k1 =>
   have H := HA.out; clear HA
   simp only [impl_Client_copy.l0] at H
   by_cases c22 : x18_1 < (l0_2.length : Int)
   ·rw [if_pos c22] at H
    have c22b0 : decide (x18_1 < (l0_2.length : Int)) = true := decide_eq_true c22
    clear c22
    by_cases c23 : 0 ≤ x18_1
    ·rw [if_pos c23] at H
     have c23b0 : decide (0 ≤ x18_1) = true := decide_eq_true c23
     clear c23
     by_cases c24 : x18_1 < (l0_2.length : Int)
     ·rw [if_pos c24] at H
      have c24b0 : decide (x18_1 < (l0_2.length : Int)) = true := decide_eq_true c24
      clear c24
      replace H := Option.bind_eq_some_iff.mp H
      obtain ⟨t438, A250, H⟩ := H
      (try dsimp only at H)
      have A25 := Aside0.mk A250; clear A250
      by_cases c26 : x436002_1.length < 4398046511104
      ·rw [if_pos c26] at H
       have LMc26 := Aside0.mk c26; clear c26
       obtain ⟨y441, hy441⟩ : ∃ y_ : List (S41), y_ = (x436002_1 ++ [(⟨(rd_T41 l0_2 x18_1).f0, t438⟩ : S41)]) := ⟨_, rfl⟩
       (first | replace H := sb_ hy441 H | rw [← hy441] at H)
       have Ny441 := Aside0.mk hy441; clear hy441
       have H' := Aside0.mk H
       clear H
       have p436 : 0 ≤ (x18_1 : Int) := of_decide_eq_true (by first | (with_reducible assumption) | assumption)
       have q436 : x18_1 < (l0_2.length : Int) := of_decide_eq_true (by first | (with_reducible assumption) | assumption)
       obtain ⟨ad436, A436_1, c436_1, e436, hx436_0, hx436_1, hl436_1, hi436_1⟩ := at_T41 HR0_2.out x18_1 p436 q436
       cases e436
       replace hx436_0 := cc_ HB hx436_0
       replace hx436_1 := cc_ HB hx436_1
       have HR436_1 := Aside0.mk hi436_1; have HC436_1 := Aside0.mk hl436_1; clear hi436_1 hl436_1
       replace p436 := eq_true p436
       replace q436 := eq_true q436
       try go_wp2_with (first | ((with_reducible refine gate_dst (N := 5) rfl ?_); refine box_ (N := 5) (cs := #[.int .i64 0, .slice none 0 0]) (t := 41) (fun gb437 hg w27 hbox hb => ?_); replace HO_436001 := Aside0.mk (Kd.R_below (kR_ HO_436001.out) hb); replace HO_436002 := Aside0.mk (Kd.S_below (Kd.S_elderB (kS_ HO_436002.out) gb437 (Nat.le_of_eq hg.symm)) hb); replace HO_436003 := Aside0.mk (Kd.R_below (kR_ HO_436003.out) hb); have BK437 := Aside0.mk (hbox); have GW437 := ge_ hg HB; have GE437 := ge_ hg HB; replace HB := (bs_ HB hb); have NB427_437 := nl_ hg BK427; have NB437_427 := ng_ hg BK427; replace BK427 := (bbA_ BK427 hb); have NB428_437 := nl_ hg BK428; have NB437_428 := ng_ hg BK428; replace BK428 := (bbA_ BK428 hb); have NB435_437 := nl_ hg BK435; have NB437_435 := ng_ hg BK435; replace BK435 := (bbA_ BK435 hb); clear hb hbox hg; have hnb28 := NB437_427.out; have hnc28 := NB427_437.out; have hnb29 := NB437_428.out; have hnc29 := NB428_437.out; have hnb30 := NB437_435.out; have hnc30 := NB435_437.out; have Z31 := zz2 BK437))
       obtain ⟨w32, h_w32⟩ : ∃ w_, ((w27.setCell ⟨gb437, 0, none⟩ (.int .i64 ((rd_T41 l0_2 x18_1).f0))).setCell ⟨gb437, 1, none⟩ (.slice A436_1 ((rd_T41 l0_2 x18_1).f1).length c436_1)) = w_ := ⟨_, rfl⟩
       have n0_ : Aside0 (Kd.R (Kd.int .i64) 3 w32 w.heap.size (fun k_ => some k_ ≠ (.slice Ao13 t432.length co13 : Value).ownBlock) (.slice Ao14 t429.length co14) t429) := ⟨by subst h_w32; refine kR_ ?_; exact rfm_ ((Kd.R_types HO_436001.out BK437.out (by decide))) (fun _ hk => hk.1)⟩
       have n1_ : Aside0 (Kd.S k41 41 w32 w.heap.size (fun k_ => k_ ≠ gb437) u436002 x436002_1) := ⟨by subst h_w32; refine kS_ ?_; exact nfS_ gb437 HO_436002.out (fun _ hk => hk.2) (fun _ hk => hk.1.2)⟩
       have n2_ : Aside0 (Kd.R (Kd.int .i64) 3 w32 w.heap.size (fun k_ => some k_ ≠ (.slice Ao14 t429.length co14 : Value).ownBlock) (.slice Ao13 t432.length co13) t432) := ⟨by subst h_w32; refine kR_ ?_; exact rfm_ ((Kd.R_types HO_436003.out BK437.out (by decide))) (fun _ hk => hk.1)⟩
       have n3_ : Aside0 (w32.heap[gb427]? = some (.cells #[.int .i64 a0_0, .slice A0_1 l0_1.length c0_1, .slice (some ad436) l0_2.length c0_2, .slice A0_3 l0_3.length c0_3] 30 (0, 0))) := ⟨by subst h_w32; exact kf_ BK427.out⟩
       have n4_ : Aside0 (w32.heap[gb428]? = some (.cells #[.int .i64 0, .slice none 0 0, .slice none 0 0, .slice none 0 0] 30 (0, 0))) := ⟨by subst h_w32; exact kf_ BK428.out⟩
       have n5_ : Aside0 (w32.heap[gb435]? = some (.cells #[.int .i64 a0_0, .slice Ao14 t429.length co14, u436002, .slice Ao13 t432.length co13] 30 (0, 0))) := ⟨by subst h_w32; exact kf_ BK435.out⟩
       have n6_ : Aside0 (w32.heap[gb437]? = some (.cells #[.int .i64 ((rd_T41 l0_2 x18_1).f0), .slice A436_1 ((rd_T41 l0_2 x18_1).f1).length c436_1] 41 (0, 0))) := ⟨by subst h_w32; refine kb_ ?_; refine pz2 (cs := #[.int .i64 0, .slice none 0 0]) ?_; refine kb_ ?_; exact BK437.out⟩
       have n7_ : Aside0 (Below w.heap.size w w32) := ⟨by subst h_w32; exact hbA_ HB.out⟩
       (try clear HO_436001); (try clear HO_436002); (try clear HO_436003); (try clear BK427); (try clear BK428); (try clear BK435); (try clear BK437); (try clear HB)
       (try rw [h_w32]); clear h_w32
       have HO_436001 := n0_; have HO_436002 := n1_; have HO_436003 := n2_; have BK427 := n3_; have BK428 := n4_; have BK435 := n5_; have BK437 := n6_; have HB := n7_; clear n0_ n1_ n2_ n3_ n4_ n5_ n6_ n7_; replace HO_436001 := Aside0.mk (Kd.R_drew HO_436001.out); replace HO_436002 := Aside0.mk (Kd.S_drew HO_436002.out); replace HO_436003 := Aside0.mk (Kd.R_drew HO_436003.out); replace BK427 := Aside0.mk (blk_drew BK427.out); replace BK428 := Aside0.mk (blk_drew BK428.out); replace BK435 := Aside0.mk (blk_drew BK435.out); replace BK437 := Aside0.mk (blk_drew BK437.out); replace HB := (bd_ HB)
       refine start_ (n := 12) (S := fun w' => w'.cell? ⟨gb435, 0, none⟩ = some (.int .i64 a0_0) ∧ w'.cell? ⟨gb435, 1, none⟩ = some (.slice Ao14 t429.length co14) ∧ w'.cell? ⟨gb435, 2, none⟩ = some (u436002) ∧ w'.cell? ⟨gb435, 3, none⟩ = some (.slice Ao13 t432.length co13) ∧ w'.cell? ⟨gb437, 0, none⟩ = some (.int .i64 ((rd_T41 l0_2 x18_1).f0)) ∧ w'.cell? ⟨gb437, 1, none⟩ = some (.slice A436_1 ((rd_T41 l0_2 x18_1).f1).length c436_1)) (ds := [11]) #[false, false, false, false, false, false, false, false, false, false, false, false] (by kernel_rfl) rfl rfl ⟨bc_ BK435 0, bc_ BK435 1, bc_ BK435 2, bc_ BK435 3, bc_ BK437 0, bc_ BK437 1⟩ (fun hHeld => ?_); refine with_tabW impl_Client_copy.tab5 impl_Client_copy.bits5 (fun HT_ HW_ => ?_)
       generalize w32.drew = w33 at HO_436001 HO_436002 HO_436003 BK427 BK428 BK435 BK437 HB hHeld ⊢
       refine pu_ (i := 0) (N := some 22) HT_ ?_; refine pu_ (i := 2) (N := some 24) HT_ ?_; refine pu_ (i := 4) (N := some 26) HT_ ?_; refine tk_ (i := 1) (N := some 23) HT_ HW_ hHeld ?_; refine tk_ (i := 3) (N := some 25) HT_ HW_ hHeld ?_; refine tk_ (i := 5) (N := some 27) HT_ HW_ hHeld ?_
       refine on_ (i := 6) (N := some 28) HT_ (fun K hK => ?_)
       refine goes_ Try.func66 (by kernel_rfl) rfl #[.slice A436_1 ((rd_T41 l0_2 x18_1).f1).length c436_1] (by rfl) rfl rfl ar_ ?_
       with_reducible refine (impl_clone_byte.calls _ _ ((rd_T41 l0_2 x18_1).f1) t438 _ ?side1 ?side2 A25.out).mono ?_
       (case side1 => exact kC_ (Kd.C_below HR436_1.out HB.out))
       (case side2 => exact HC436_1.out)
       rintro e w34 ⟨v439, rfl, ho0, hb⟩
       refine ⟨_, rfl, ?_⟩
       replace HO_436001 := Aside0.mk (Kd.R_below (kR_ HO_436001.out) hb); replace HO_436002 := Aside0.mk (Kd.S_elder' (kS_ HO_436002.out) (Kd.R_base ho0) hb); replace HO_436003 := Aside0.mk (Kd.R_below (kR_ HO_436003.out) hb); have HO440 := Aside0.mk (Kd.R_lower ho0 (below_size (hbA_ HB.out))); replace BK427 := (bbA_ BK427 hb); replace BK428 := (bbA_ BK428 hb); replace BK435 := (bbA_ BK435 hb); replace BK437 := (bbA_ BK437 hb); replace HB := (bs_ HB hb); (try clear hb); (try clear hb2); (try clear hk); (try clear hi); (try clear ho0)
       obtain ⟨Ao35, co35, eo35⟩ := Kd.R_slice HO440.out
       (first | subst eo35 | (injection eo35 with f1_ f2_ f3_; have f4_ := f1_.symm; have f5_ := f3_.symm; clear f1_ f2_ f3_; subst f4_; subst f5_))
       refine hK.out _ _ ⟨bc_ BK435 0, bc_ BK435 1, bc_ BK435 2, bc_ BK435 3, bc_ BK437 0, bc_ BK437 1⟩ (fun hHeld => ?_)
       clear hK K; refine nm_ 28 ?_; refine pu_ (i := 7) (N := some 29) HT_ ?_
       refine on_ (i := 8) (N := some 30) HT_ (fun K hK => ?_)
       refine value_ (w1 := ?_) (v := ?_) (by rfl) rfl ?_ ?_
       rotate_left 2
       ·go_simp
        constructor
        ·rfl
        ·rfl
       refine hK.out _ _ ⟨(blk_cell (blk_alloc BK435.out _) 0).trans rfl, (blk_cell (blk_alloc BK435.out _) 1).trans rfl, (blk_cell (blk_alloc BK435.out _) 2).trans rfl, (blk_cell (blk_alloc BK435.out _) 3).trans rfl, (blk_cell (blk_alloc BK437.out _) 0).trans rfl, (blk_cell (blk_alloc BK437.out _) 1).trans rfl⟩ (fun hHeld => ?_)
       clear hK K; refine nm_ 30 ?_
       refine on_ (i := 9) (N := some 31) HT_ (fun K hK => ?_)
       refine Kd.S_append_step k41 (w0 := w) w.heap.size (by rfl) (.tmp 23) (.tmp 30) 28 41 (.agg #[(.int .i64 0), (.slice none 0 0)]) 32 rfl Try.underlying28 info41 rfl (by decide) (by omega) u436002 x436002_1 (⟨(rd_T41 l0_2 x18_1).f0, t438⟩ : S41) [.int .i64 ((rd_T41 l0_2 x18_1).f0), .slice Ao35 t438.length co35] (fun k_ => k_ ≠ gb437) (fun k_ => some k_ = (.slice Ao35 t438.length co35 : Value).ownBlock) rfl rfl ?aP (fun k_ hk_ => ((Kd.R_mono (ok' := fun k_ => ((fun k_ => k_ ≠ gb437)) k_ ∧ some k_ ≠ (u436002 : Value).ownBlock) (Kd.R_types (Kd.R_apart' (HO440.out) (Kd.S_typed HO_436002.out) (by decide)) BK437.out (by decide)) (fun k_ hk => ⟨hk.2, hk.1.2⟩))).1 k_ hk_.symm) ?aF ?aO ?aB ?aS ?aL ?_
       (case aP => exact k41_mkM _ _ _ (⟨(rd_T41 l0_2 x18_1).f0, t438⟩ : S41) (Kd.R_mono (Kd.R_tight rfl (Kd.R_mono (ok' := fun k_ => ((fun k_ => k_ ≠ gb437)) k_ ∧ some k_ ≠ (u436002 : Value).ownBlock) (Kd.R_types (Kd.R_apart' (HO440.out) (Kd.S_typed HO_436002.out) (by decide)) BK437.out (by decide)) (fun k_ hk => ⟨hk.2, hk.1.2⟩))) (fun _ h_ => h_)))
       (case aB => exact (hbA_ HB.out))
       (case aF => exact (fun k_ hk => fb_ BK437 k_ hk))
       (case aO => exact (by refine kS_ ?_; exact Kd.S_mono HO_436002.out (fun k_ hk => ⟨hk.1, fun e_ => hk.2 e_⟩)))
       (case aS => exact (below_size (hbA_ HB.out)))
       (case aL => have := LMc26.out; omega)
       intro v442 w36 ho hb hg hat
       rw [← Ny441.out] at ho
       have n0_ := Aside0.mk (Kd.R_over' (kR_ HO_436001.out) (Kd.S_typed (kS_ HO_436002.out)) (by decide) hg); have n1_ := Aside0.mk (Kd.R_over' (kR_ HO_436003.out) (Kd.S_typed (kS_ HO_436002.out)) (by decide) hg); have n2_ := (bgA_ BK427 hg (Kd.S_ne HO_436002.out BK427.out (by decide))); have n3_ := (bgA_ BK428 hg (Kd.S_ne HO_436002.out BK428.out (by decide))); have n4_ := (bgA_ BK435 hg (Kd.S_ne HO_436002.out BK435.out (by decide))); have n5_ := (bgA_ BK437 hg (Kd.S_away HO_436002.out (fun _ hk => hk.1))); have n6_ := Aside0.mk (hb); have n7_ := Aside0.mk (ho); clear HO_436001 HO_436003 BK427 BK428 BK435 BK437 HB HO_436002 HO440; have HO_436001 := n0_; have HO_436003 := n1_; have BK427 := n2_; have BK428 := n3_; have BK435 := n4_; have BK437 := n5_; have HB := n6_; have HO443 := n7_; clear n0_ n1_ n2_ n3_ n4_ n5_ n6_ n7_ ho hb hg hat
       obtain ⟨Ao37, co37, eo37⟩ := Kd.S_slice HO443.out
       (first | subst eo37 | (injection eo37 with f1_ f2_ f3_; have f4_ := f1_.symm; have f5_ := f3_.symm; clear f1_ f2_ f3_; subst f4_; subst f5_))
       refine hK.out _ _ ⟨bc_ BK435 0, bc_ BK435 1, bc_ BK435 2, bc_ BK435 3, bc_ BK437 0, bc_ BK437 1⟩ (fun hHeld => ?_)
       clear hK K; refine nm_ 31 ?_; refine pu_ (i := 10) (N := some 32) HT_ ?_
       refine last_ (i := 11) (N := none) #[true, true, true, true, true, true, true, true, true, true, true, true] rfl rfl (one_of HT_.out (by kernel_rfl)) (by decide) (fun K hK => ?_)
       have hs38 : w36.cell? ⟨gb435, 2, none⟩ = some (u436002) := bc_ BK435 2
       have hfs38 := blk_frozen BK435.out 2
       have hns38_0 := NB427_435.out; have hns38_1 := NB428_435.out; have hns38_3 := NB437_435.out; have hms38_0 := NB435_427.out; have hms38_1 := NB435_428.out; have hms38_3 := NB435_437.out
       refine skip_ (w1 := ?_) (by rfl) rfl ?_ ?_
       rotate_left
       ·go_simp
        rfl
       refine hK.out _ _ ?_
       clear hK K
       refine done_ (done_of HT_.out (by kernel_rfl)) ?_
       try go_wp2
       go_roundg k1
       case measure => have := HK1.out; omega
       case rel => exact ⟨(wrap64 (x18_1 + 1)), (y441), (.slice Ao37 y441.length co37), (by first | rfl | (simp; done) | (simp [*]; done)), H', ⟨by have := HK1.out; omega⟩, ⟨by refine kR_ ?_; exact Kd.R_mono (Kd.R_f gb435 2 (.slice Ao37 y441.length co37) (Kd.R_types HO_436001.out BK435.out (by decide))) (fun _ hk => hk.1)⟩, ⟨by refine kS_ ?_; exact Kd.S_mono (Kd.S_far (p := ⟨gb435, 2, none⟩) (Kd.S_types HO443.out BK435.out (by decide)) (fun _ hk => hk.2) (.slice Ao37 y441.length co37)) (fun _ hk => trivial)⟩, ⟨by refine kR_ ?_; exact Kd.R_mono (Kd.R_f gb435 2 (.slice Ao37 y441.length co37) (Kd.R_types HO_436003.out BK435.out (by decide))) (fun _ hk => hk.1)⟩, ⟨by exact kf_ BK427.out⟩, ⟨by exact kf_ BK428.out⟩, ⟨by refine kb_ ?_; refine blk_put (cs := #[.int .i64 a0_0, .slice Ao14 t429.length co14, u436002, .slice Ao13 t432.length co13]) ?_ 2 _ rfl; refine kb_ ?_; exact BK435.out⟩, ⟨hbA_ HB.out⟩⟩
      ·rw [if_neg c26] at H
       exact absurd H (by simp)
     ·rw [if_neg c24] at H
      exact absurd H (by simp)
    ·rw [if_neg c23] at H
     exact absurd H (by simp)
   ·rw [if_neg c22] at H
    have c22b0 : decide (x18_1 < (l0_2.length : Int)) = false := decide_eq_false c22
    clear c22
    simp only [Option.some.injEq, Prod.mk.injEq] at H
    obtain ⟨rfl, rfl, rfl, rfl⟩ := H
    have hnb39 := NB435_427.out; have hnc39 := NB427_435.out; have hnb40 := NB435_428.out; have hnc40 := NB428_435.out; have Z41 := zz4 BK435
    obtain ⟨Ao42, co42, eo42⟩ := Kd.S_slice HO_436002.out
    subst eo42
    have hq43 := (Kd.S_reads' HO_436002.out).2.1
    have hr43 := Aside0.mk (Kd.S_clip HO_436002.out (Nat.le_refl _) hq43)
    clear HO_436002; have HO445 := hr43; clear hr43
    go_wp2_with (first | (go_at_call 65; (with_reducible refine (impl_Words.calls _ _ _ _ hq43).mono ?_); rintro e w' ⟨rfl, rfl⟩; have hnb44 := NB428_427.out; have hnc44 := NB427_428.out; have Z45 := zz4 BK428))
    refine bodyPost_ret (results_cell_row rfl _ _ gb428 30 #[.int .i64 a0_0, .slice Ao14 t429.length co14, .slice Ao42 x436002_1.length x436002_1.length, .slice Ao13 t432.length co13] (0, 0) _ rfl (by refine kb_ ?_; refine pz4 (cs := #[.int .i64 0, .slice none 0 0, .slice none 0 0, .slice none 0 0]) ?_; exact kf_ BK428.out) Try.underlying30 rfl (by kernel_rfl)) rfl ?_
    exact ⟨_, _, _, by first | rfl | (simp [errW_none, errW_some] <;> rfl) | (simp [*, errW_none, errW_some] <;> rfl), by refine kR_ ?_; exact rfm_ ((Kd.R_far (p := ⟨gb435, 2, none⟩) (Kd.R_types (Kd.R_types HO_436001.out BK435.out (by decide)) BK428.out (by decide)) (fun _ hk => hk.1.2) (.slice Ao42 x436002_1.length x436002_1.length))) (fun _ hk => hk.1.1), by refine kS_ ?_; exact Kd.S_mono (Kd.S_far (p := ⟨gb428, 3, none⟩) (Kd.S_far (p := ⟨gb428, 2, none⟩) (Kd.S_far (p := ⟨gb428, 1, none⟩) (Kd.S_far (p := ⟨gb428, 0, none⟩) (Kd.S_far (p := ⟨gb435, 2, none⟩) (Kd.S_types (Kd.S_types HO445.out BK435.out (by decide)) BK428.out (by decide)) (fun _ hk => hk.1.2) (.slice Ao42 x436002_1.length x436002_1.length)) (fun _ hk => hk.2) (.int .i64 a0_0)) (fun _ hk => hk.2) (.slice Ao14 t429.length co14)) (fun _ hk => hk.2) (.slice Ao42 x436002_1.length x436002_1.length)) (fun _ hk => hk.2) (.slice Ao13 t432.length co13)) (fun _ hk => trivial), by refine kR_ ?_; exact rfm_ ((Kd.R_far (p := ⟨gb435, 2, none⟩) (Kd.R_types (Kd.R_types HO_436003.out BK435.out (by decide)) BK428.out (by decide)) (fun _ hk => hk.1.2) (.slice Ao42 x436002_1.length x436002_1.length))) (fun _ hk => hk.1.1), hbA_ HB.out⟩
def slices_Grow_byte_byte.f (l0 : List Int) (a1 : Int) : Option (List Int) := if l0.length = 0 ∧ 0 ≤ a1 ∧ a1.toNat * 1 ≤ 140737488355328 then some [] else none
theorem slices_Grow_byte_byte.calls (A0 : Option Addr) (c0 : Nat) (l0 : List Int) (a1 : Int) (r : List Int) (w : World) (hr0 : Kd.C (Kd.int .u8) w A0 l0.length l0) (hc0 : A0 = none ∧ c0 = 0) (h : slices_Grow_byte_byte.f l0 a1 = some r) :
    Calls Try.prog 77 #[.slice A0 l0.length c0, .int .i64 a1] w fun e w' => ∃ v0_ : Value, e = .returned (v0_) ∧ Kd.R (Kd.int .u8) 5 w' w.heap.size (fun _ => True) v0_ r ∧ Below w.heap.size w w' := by
  obtain ⟨⟨hl0, h0, hle⟩, rfl⟩ : (l0.length = 0 ∧ 0 ≤ a1 ∧ a1.toNat * 1 ≤ 140737488355328) ∧ [] = r := by
    unfold slices_Grow_byte_byte.f at h; split at h
    · exact ⟨by assumption, Option.some.inj h⟩
    · cases h
  obtain rfl : l0 = [] := List.eq_nil_of_length_eq_zero hl0
  obtain ⟨rfl, rfl⟩ := hc0
  clear h hl0 hr0
  have hb : a1 ≤ 140737488355328 := by omega
  have HLE := Aside0.mk hle; clear hle
  have hneg : decide (a1 < 0) = false := decide_eq_false (by omega)
  by_cases hz : a1 = 0
  · subst hz
    clear hneg
    go_enter Try.func77, Try.ntmps77
    go_wp2
    go_ret
    exact ⟨_, rfl, Kd.R_nil _ _ _ _ _, Below.refl _ _⟩
  · have hp : decide (a1 > 0) = true := decide_eq_true (by omega)
    have hp2 : decide (0 < a1) = true := decide_eq_true (by omega)
    clear hz
    go_enter Try.func77, Try.ntmps77
    go_wp2_with (first
      | ((with_reducible refine gate_dst (N := 22) rfl ?_); refine Kd.R_append_zeros (Kd.int .u8) w.heap.size rfl _ _ 34 3 5 (.int .u8 0) 1 rfl Try.underlying34 Try.underlying3 info5 rfl (by decide) (by decide) (.slice none 0 0) [] 0 a1 (fun _ => True) rfl rfl (rfl) (fun _ _ => trivial) (Kd.R_nil _ _ _ _ _) h0 (Below.refl _ _) (Nat.le_refl _) (by simpa using HLE.out) ?_; intro v1 w1 ho hb1 hg hat; obtain ⟨A1, c1, hv1, hc1, _⟩ := Kd.R_reads ho; have HO := Aside0.mk ho; clear ho hat hg; have HB := Aside0.mk hb1; clear hb1; subst hv1))
    go_ret
    refine ⟨_, rfl, ?_, HB.out⟩
    have h2 := Kd.R_take (m := 0) HO.out (Nat.zero_le _)
    simpa using h2
mutual
def slices_Concat_byte_byte.l0 : Nat → List (List Int) → Int → List (List Int) → Int → Int → Option (List Int)
 | 0, _, _, _, _, _ => none
 | k + 1, x0, x3, x9, x10, x11 => if x11 < x10 then (if 0 ≤ x11 then (if x11 < (x9.length : Int) then (if (wrap64 (x3 + ((rd_L3 x9 x11).length : Int))) < 0 then (none) else (slices_Concat_byte_byte.l0 k x0 (wrap64 (x3 + ((rd_L3 x9 x11).length : Int))) x9 x10 (wrap64 (x11 + 1)))) else (none)) else (none)) else ((slices_Grow_byte_byte.f ([] : List Int) x3).bind fun t447 => (slices_Concat_byte_byte.l1 k t447 x0 (x0.length : Int) 0))
def slices_Concat_byte_byte.l1 : Nat → List Int → List (List Int) → Int → Int → Option (List Int)
 | 0, _, _, _, _ => none
 | k + 1, x6, x25, x26, x27 => if x27 < x26 then (if 0 ≤ x27 then (if x27 < (x25.length : Int) then (if x6.length + (rd_L3 x25 x27).length < 140737488355328 then (slices_Concat_byte_byte.l1 k (x6 ++ (rd_L3 x25 x27)) x25 x26 (wrap64 (x27 + 1))) else (none)) else (none)) else (none)) else (some x6)
end
def slices_Concat_byte_byte.f (k : Nat) (l0 : List (List Int)) : Option (List Int) := slices_Concat_byte_byte.l0 k l0 0 l0 (l0.length : Int) 0
theorem slices_Concat_byte_byte.mono_l : ∀ k, (∀ y0 y1 y2 y3 y4, LeO (slices_Concat_byte_byte.l0 k y0 y1 y2 y3 y4) (slices_Concat_byte_byte.l0 (k + 1) y0 y1 y2 y3 y4)) ∧ (∀ y0 y1 y2 y3, LeO (slices_Concat_byte_byte.l1 k y0 y1 y2 y3) (slices_Concat_byte_byte.l1 (k + 1) y0 y1 y2 y3))
 | 0 => ⟨fun _ _ _ _ _ r h => by simp [slices_Concat_byte_byte.l0] at h, fun _ _ _ _ r h => by simp [slices_Concat_byte_byte.l1] at h⟩
 | k + 1 => by
  obtain ⟨ih0, ih1⟩ := slices_Concat_byte_byte.mono_l k
  refine ⟨?_, ?_⟩
  ·intro y0 y1 y2 y3 y4
   unfold slices_Concat_byte_byte.l0
   repeat' first | (with_reducible first | apply ih0 | apply ih1 | exact LeO.refl _ | exact LeO.none _ | refine LeO.ite ?_ ?_ | refine LeO.bind ?_ fun _ => ?_) | apply ih0 | apply ih1 | exact LeO.none _ | refine LeO.ite ?_ ?_ | refine LeO.bind ?_ fun _ => ?_
  ·intro y0 y1 y2 y3
   unfold slices_Concat_byte_byte.l1
   repeat' first | (with_reducible first | apply ih0 | apply ih1 | exact LeO.refl _ | exact LeO.none _ | refine LeO.ite ?_ ?_ | refine LeO.bind ?_ fun _ => ?_) | apply ih0 | apply ih1 | exact LeO.none _ | refine LeO.ite ?_ ?_ | refine LeO.bind ?_ fun _ => ?_
theorem slices_Concat_byte_byte.mono : ∀ a0 k, LeO (slices_Concat_byte_byte.f k a0) (slices_Concat_byte_byte.f (k + 1) a0) := by
 intro a0 k
 obtain ⟨ih0, ih1⟩ := slices_Concat_byte_byte.mono_l k
 unfold slices_Concat_byte_byte.f
 repeat' first | (with_reducible first | apply ih0 | apply ih1 | exact LeO.refl _ | exact LeO.none _ | refine LeO.ite ?_ ?_ | refine LeO.bind ?_ fun _ => ?_) | apply ih0 | apply ih1 | exact LeO.none _ | refine LeO.ite ?_ ?_ | refine LeO.bind ?_ fun _ => ?_
set_option maxHeartbeats 8000000 in
set_option maxRecDepth 100000 in
theorem slices_Concat_byte_byte.calls (k : Nat) (A0 : Option Addr) (c0 : Nat) (l0 : List (List Int)) (r : List Int) (w : World) (hr0 : Kd.C (Kd.slice 5 (Kd.int .u8)) w A0 l0.length l0) (hc0 : l0.length ≤ c0) (h : slices_Concat_byte_byte.f k l0 = some r) :
  Calls Try.prog 74 #[.slice A0 l0.length c0] w fun e w' => ∃ v0_ : Value, e = .returned (v0_) ∧ Kd.R (Kd.int .u8) 5 w' w.heap.size (fun _ => True) v0_ r ∧ Below w.heap.size w w' := by
 have HR0 := Aside0.mk hr0; have HC0 := Aside0.mk hc0; clear hr0 hc0
 have HB := Aside0.mk (Below.refl w.heap.size w)
 have H : (slices_Concat_byte_byte.l0 k l0 0 l0 (l0.length : Int) 0) = some r := h
 clear h
 have H' := Aside0.mk H
 clear H
 go_enter Try.func74, Try.ntmps74
 go_wp2
 go_loopg [3, 11] k (fun kq v3 v11 w' => ∃ (x3_1 : Int) (x11_1 : Int), v3 = .int .i64 x3_1 ∧ v11 = .int .i64 x11_1 ∧ Aside0 (slices_Concat_byte_byte.l0 kq l0 x3_1 l0 (l0.length : Int) x11_1 = some r) ∧ Aside0 (kq ≤ k) ∧ Aside0 (Below w.heap.size w w'))
 case atStart => exact ⟨(0), (0), (by first | rfl | (simp; done) | (simp [*]; done)), (by first | rfl | (simp; done) | (simp [*]; done)), H', ⟨Nat.le_refl _⟩, ⟨hbA_ HB.out⟩⟩
 case round =>
  clear H'
  obtain ⟨x3_1, x11_1, rfl, rfl, HA, HK1, HB⟩ := hrel
  cases gk with
  | zero => exact absurd HA.out (by simp [slices_Concat_byte_byte.l0])
  | succ k1 =>
   have H := HA.out; clear HA
   simp only [slices_Concat_byte_byte.l0] at H
   by_cases c2 : x11_1 < (l0.length : Int)
   ·rw [if_pos c2] at H
    have c2b0 : decide (x11_1 < (l0.length : Int)) = true := decide_eq_true c2
    clear c2
    by_cases c3 : 0 ≤ x11_1
    ·rw [if_pos c3] at H
     have c3b0 : decide (0 ≤ x11_1) = true := decide_eq_true c3
     clear c3
     by_cases c4 : x11_1 < (l0.length : Int)
     ·rw [if_pos c4] at H
      have c4b0 : decide (x11_1 < (l0.length : Int)) = true := decide_eq_true c4
      clear c4
      by_cases c5 : (wrap64 (x3_1 + ((rd_L3 l0 x11_1).length : Int))) < 0
      ·rw [if_pos c5] at H
       exact absurd H (by simp)
      ·rw [if_neg c5] at H
       have c5b0 : decide ((wrap64 (x3_1 + ((rd_L3 l0 x11_1).length : Int))) < 0) = false := decide_eq_false c5
       clear c5
       have H' := Aside0.mk H
       clear H
       have p446 : 0 ≤ (x11_1 : Int) := of_decide_eq_true (by first | (with_reducible assumption) | assumption)
       have q446 : x11_1 < (l0.length : Int) := of_decide_eq_true (by first | (with_reducible assumption) | assumption)
       obtain ⟨ad446, A446_0, c446_0, e446, hx446_0, hl446_0, hi446_0⟩ := at_L3 HR0.out x11_1 p446 q446
       cases e446
       replace hx446_0 := cc_ HB hx446_0
       have HR446_0 := Aside0.mk hi446_0; have HC446_0 := Aside0.mk hl446_0; clear hi446_0 hl446_0
       replace p446 := eq_true p446
       replace q446 := eq_true q446
       go_wp2
       go_roundg k1
       case measure => have := HK1.out; omega
       case rel => exact ⟨(wrap64 (x3_1 + ((rd_L3 l0 x11_1).length : Int))), (wrap64 (x11_1 + 1)), (by first | rfl | (simp; done) | (simp [*]; done)), (by first | rfl | (simp; done) | (simp [*]; done)), H', ⟨by have := HK1.out; omega⟩, ⟨hbA_ HB.out⟩⟩
     ·rw [if_neg c4] at H
      exact absurd H (by simp)
    ·rw [if_neg c3] at H
     exact absurd H (by simp)
   ·rw [if_neg c2] at H
    have c2b0 : decide (x11_1 < (l0.length : Int)) = false := decide_eq_false c2
    clear c2
    replace H := Option.bind_eq_some_iff.mp H
    obtain ⟨t447, A60, H⟩ := H
    (try dsimp only at H)
    have A6 := Aside0.mk A60; clear A60
    have H' := Aside0.mk H
    clear H
    go_wp2_with (first | ((with_reducible refine gate_callee (f := 77) rfl ?_); refine goesL_ (some 24) rfl rfl Try.func77 (by kernel_rfl) rfl #[.slice none 0 0, .int .i64 x3_1] rfl ar_ ?_; (refine (slices_Grow_byte_byte.calls _ _ ([] : List Int) x3_1 t447 _ ?side1 ?side2 A6.out).mono ?_); (case side1 => exact Kd.C_nil _ _); (case side2 => first | exact Nat.le_refl _ | exact ⟨rfl, rfl⟩); rintro e w7 ⟨v448, rfl, ho0, hb⟩; refine ⟨_, rfl, ?_⟩; have HO449 := Aside0.mk (Kd.R_lower ho0 (below_size (hbA_ HB.out))); replace HB := (bs_ HB hb); (try clear hb); (try clear hb2); (try clear hk); (try clear hi); (try clear ho0)))
    go_loopg [6, 27] k1 (fun kq v6 v27 w' => ∃ (x6_2 : List Int) (x27_2 : Int), v27 = .int .i64 x27_2 ∧ Aside0 (slices_Concat_byte_byte.l1 kq x6_2 l0 (l0.length : Int) x27_2 = some r) ∧ Aside0 (kq ≤ k1) ∧ Aside0 (Kd.R (Kd.int .u8) 5 w' w.heap.size (fun _ => True) v6 x6_2) ∧ Aside0 (Below w.heap.size w w'))
    case atStart => exact ⟨(t447), (0), (by first | rfl | (simp; done) | (simp [*]; done)), H', ⟨Nat.le_refl _⟩, ⟨kR_ HO449.out⟩, ⟨hbA_ HB.out⟩⟩
    case round =>
     clear H'; (try clear c2); (try clear c2b0); (try clear p2); (try clear c3); (try clear c3b0); (try clear c4); (try clear c4b0); (try clear p4); (try clear q4); (try clear hx4); (try clear c5); (try clear c5b0); (try clear p6); (try clear c7); (try clear hx446_0); (try clear p446); (try clear q446)
     obtain ⟨x6_2, x27_2, rfl, HA, HK2, HO_6, HB⟩ := hrel
     cases gk with
     | zero => exact absurd HA.out (by simp [slices_Concat_byte_byte.l1])
     | succ k2 =>
      have H := HA.out; clear HA
      simp only [slices_Concat_byte_byte.l1] at H
      by_cases c8 : x27_2 < (l0.length : Int)
      ·rw [if_pos c8] at H
       have c8b0 : decide (x27_2 < (l0.length : Int)) = true := decide_eq_true c8
       clear c8
       by_cases c9 : 0 ≤ x27_2
       ·rw [if_pos c9] at H
        have c9b0 : decide (0 ≤ x27_2) = true := decide_eq_true c9
        clear c9
        by_cases c10 : x27_2 < (l0.length : Int)
        ·rw [if_pos c10] at H
         have c10b0 : decide (x27_2 < (l0.length : Int)) = true := decide_eq_true c10
         clear c10
         by_cases c11 : x6_2.length + (rd_L3 l0 x27_2).length < 140737488355328
         ·rw [if_pos c11] at H
          have LMc11 := Aside0.mk c11; clear c11
          obtain ⟨y451, hy451⟩ : ∃ y_ : List Int, y_ = (x6_2 ++ (rd_L3 l0 x27_2)) := ⟨_, rfl⟩
          (first | replace H := sb_ hy451 H | rw [← hy451] at H)
          have Ny451 := Aside0.mk hy451; clear hy451
          have H' := Aside0.mk H
          clear H
          have p450 : 0 ≤ (x27_2 : Int) := of_decide_eq_true (by first | (with_reducible assumption) | assumption)
          have q450 : x27_2 < (l0.length : Int) := of_decide_eq_true (by first | (with_reducible assumption) | assumption)
          obtain ⟨ad450, A450_0, c450_0, e450, hx450_0, hl450_0, hi450_0⟩ := at_L3 HR0.out x27_2 p450 q450
          cases e450
          replace hx450_0 := cc_ HB hx450_0
          have HR450_0 := Aside0.mk hi450_0; have HC450_0 := Aside0.mk hl450_0; clear hi450_0 hl450_0
          replace p450 := eq_true p450
          replace q450 := eq_true q450
          go_wp2_with (first | ((with_reducible refine gate_builtin (b := .append) (xs := #[.tmp 31, .tmp 32]) rfl ?_); at_builtin; refine Kd.R_append_rows (Kd.int .u8) (w0 := w) w.heap.size rfl (.tmp 31) (.tmp 32) 34 5 (.int .u8 0) 1 rfl Try.underlying34 info5 rfl (by decide) (by omega) u6 x6_2 (rd_L3 l0 x27_2) _ _ _ (fun _ => True) (fun _ => False) rfl rfl ?aO ?aR (fun _ _ h => h) (fun _ h => h.elim) ?aF ?aB ?aS ?aL ?_; (case aR => exact kC_ (Kd.C_below HR450_0.out HB.out)); (case aB => exact (hbA_ HB.out)); (case aF => exact (fun _ _ => trivial)); (case aO => exact (kR_ HO_6.out)); (case aS => exact (below_size (hbA_ HB.out))); (case aL => have := LMc11.out; omega); intro v452 w12 ho hb hg hat; rw [← Ny451.out] at ho; replace HB := Aside0.mk (hb); have HO453 := Aside0.mk (ho); clear HO_6; clear ho hb hg hat))
          go_roundg k2
          case measure => have := HK1.out; have := HK2.out; omega
          case rel => exact ⟨(y451), (wrap64 (x27_2 + 1)), (by first | rfl | (simp; done) | (simp [*]; done)), H', ⟨by have := HK1.out; have := HK2.out; omega⟩, ⟨kR_ HO453.out⟩, ⟨hbA_ HB.out⟩⟩
         ·rw [if_neg c11] at H
          exact absurd H (by simp)
        ·rw [if_neg c10] at H
         exact absurd H (by simp)
       ·rw [if_neg c9] at H
        exact absurd H (by simp)
      ·rw [if_neg c8] at H
       have c8b0 : decide (x27_2 < (l0.length : Int)) = false := decide_eq_false c8
       clear c8
       obtain rfl := Option.some.inj H
       go_wp2
       go_ret
       exact ⟨_, by first | rfl | (simp [errW_none, errW_some] <;> rfl) | (simp [*, errW_none, errW_some] <;> rfl), kR_ HO_6.out, hbA_ HB.out⟩
def impl_WordsBytes.f (k : Nat) (a0_0 : Int) (l0_1 : List Int) : Option (List Int) := (impl_in.f a0_0 0 255).bind fun t455 => (if t455 = true then (if (l0_1.length : Int) > 9 then (some ([] : List Int)) else ((slices_Concat_byte_byte.f k (([(([((l0_1.length : Int)) % 256, (a0_0) % 256] : List Int)), l0_1] : List (List Int)))).bind fun t462 => (some t462))) else (some ([] : List Int)))
theorem impl_WordsBytes.mono : ∀ a0 a1 k, LeO (impl_WordsBytes.f k a0 a1) (impl_WordsBytes.f (k + 1) a0 a1) := by
 intro a0 a1 k
 unfold impl_WordsBytes.f
 repeat' first | (with_reducible first | apply slices_Concat_byte_byte.mono | exact LeO.refl _ | exact LeO.none _ | refine LeO.ite ?_ ?_ | refine LeO.bind ?_ fun _ => ?_) | apply slices_Concat_byte_byte.mono | exact LeO.none _ | refine LeO.ite ?_ ?_ | refine LeO.bind ?_ fun _ => ?_
set_option maxHeartbeats 8000000 in
set_option maxRecDepth 100000 in
theorem impl_WordsBytes.callsV (k : Nat) (a0_0 : Int) (P0_1_ : Nat → Prop) (A0_1 : Option Addr) (c0_1 : Nat) (l0_1 : List Int) (r : List Int) (w : World) (hs0_1 : Kd.V (Kd.int .u8) 5 w w.heap.size (fun k_ => P0_1_ k_) (.slice A0_1 l0_1.length c0_1) l0_1) (h : impl_WordsBytes.f k a0_0 l0_1 = some r) :
  Calls Try.prog 63 #[.agg #[.int .i64 a0_0, .slice A0_1 l0_1.length c0_1]] w fun e w' => ∃ v0_ : Value, e = .returned (v0_) ∧ Kd.R (Kd.int .u8) 5 w' w.heap.size (fun k_ => (w.heap.size ≤ k_)) v0_ r ∧ Below w.heap.size w w' := by
 have hu41 := Try.underlying41
 have HO0_1 := Aside0.mk (show Kd.V (Kd.int .u8) 5 w w.heap.size (fun k_ => (P0_1_ k_ ∨ w.heap.size ≤ k_)) (.slice A0_1 l0_1.length c0_1) l0_1 from Kd.V_mono hs0_1 (fun k_ hk => .inl hk))
 have HB := Aside0.mk (Below.refl w.heap.size w)
 have H : ((impl_in.f a0_0 0 255).bind fun t455 => (if t455 = true then (if (l0_1.length : Int) > 9 then (some ([] : List Int)) else ((slices_Concat_byte_byte.f k (([(([((l0_1.length : Int)) % 256, (a0_0) % 256] : List Int)), l0_1] : List (List Int)))).bind fun t462 => (some t462))) else (some ([] : List Int)))) = some r := h
 clear h
 replace H := Option.bind_eq_some_iff.mp H
 obtain ⟨t455, A20, H⟩ := H
 (try dsimp only at H)
 have A2 := Aside0.mk A20; clear A20
 by_cases c3 : t455 = true
 ·subst c3
  rw [if_pos rfl] at H
  by_cases c4 : (l0_1.length : Int) > 9
  ·rw [if_pos c4] at H
   have c4b0 : decide (9 < (l0_1.length : Int)) = true := decide_eq_true c4
   have c4b1 : decide (9 < l0_1.length) = true := decide_eq_true (by omega)
   clear c4
   obtain rfl := Option.some.inj H
   go_enter Try.func63, Try.ntmps63
   go_wp2_with (first | ((with_reducible refine gate_dst (N := 1) rfl ?_); (try (refine gate_guard (by rfl) ?_; dsimp only)); refine box_ (N := 1) (cs := #[.int .i64 a0_0, .slice A0_1 l0_1.length c0_1]) (t := 41) (fun gb454 hg w5 hbox hb => ?_); replace HO0_1 := Aside0.mk (Kd.V_below (Kd.V_elderB (kV_ HO0_1.out) gb454 (Nat.le_of_eq hg.symm)) hb); have BK454 := Aside0.mk (hbox); have GW454 := ge_ hg HB; have GE454 := ge_ hg HB; replace HB := (bs_ HB hb); clear hb hbox hg; have Z6 := zz2 BK454) | ((with_reducible refine gate_callee (f := 49) rfl ?_); refine goesL_ (some 5) rfl rfl Try.func49 (by kernel_rfl) rfl #[.int .i64 a0_0, .int .i64 0, .int .i64 255] rfl ar_ ?_; (with_reducible refine (impl_in.calls a0_0 0 255 true _ A2.out).mono ?_); rintro e w' ⟨rfl, ⟨nd, rfl⟩⟩; refine ⟨_, rfl, ?_⟩))
   go_ret
   exact ⟨_, by first | rfl | (simp [errW_none, errW_some] <;> rfl) | (simp [*, errW_none, errW_some] <;> rfl), by first | exact Kd.R_nil _ _ _ _ _ | exact Kd.N_nil _ _ _ _ _ | exact Kd.V_nil _ _ _ _ _ | exact Kd.Q_nil _ _ _ _ _ | exact Kd.S_nil _ _ _ _ _, hbA_ HB.out⟩
  ·rw [if_neg c4] at H
   have c4b0 : decide (9 < (l0_1.length : Int)) = false := decide_eq_false c4
   have c4b1 : decide (9 < l0_1.length) = false := decide_eq_false (by omega)
   clear c4
   obtain ⟨y456, hy456⟩ : ∃ y_ : List Int, y_ = (([((l0_1.length : Int)) % 256, (a0_0) % 256] : List Int)) := ⟨_, rfl⟩
   (first | replace H := sb_ hy456 H | rw [← hy456] at H)
   have Ny456 := Aside0.mk hy456; clear hy456
   obtain ⟨y459, hy459⟩ : ∃ y_ : List (List Int), y_ = (([y456, l0_1] : List (List Int))) := ⟨_, rfl⟩
   (first | replace H := sb_ hy459 H | rw [← hy459] at H)
   have Ny459 := Aside0.mk hy459; clear hy459
   replace H := Option.bind_eq_some_iff.mp H
   obtain ⟨t462, A70, H⟩ := H
   (try dsimp only at H)
   have A7 := Aside0.mk A70; clear A70
   obtain rfl := Option.some.inj H
   go_enter Try.func63, Try.ntmps63
   go_wp2_with (first | ((with_reducible refine gate_dst (N := 1) rfl ?_); (try (refine gate_guard (by rfl) ?_; dsimp only)); refine box_ (N := 1) (cs := #[.int .i64 a0_0, .slice A0_1 l0_1.length c0_1]) (t := 41) (fun gb454 hg w8 hbox hb => ?_); replace HO0_1 := Aside0.mk (Kd.V_below (Kd.V_elderB (kV_ HO0_1.out) gb454 (Nat.le_of_eq hg.symm)) hb); have BK454 := Aside0.mk (hbox); have GW454 := ge_ hg HB; have GE454 := ge_ hg HB; replace HB := (bs_ HB hb); clear hb hbox hg; have Z9 := zz2 BK454) | ((with_reducible refine gate_callee (f := 49) rfl ?_); refine goesL_ (some 5) rfl rfl Try.func49 (by kernel_rfl) rfl #[.int .i64 a0_0, .int .i64 0, .int .i64 255] rfl ar_ ?_; (with_reducible refine (impl_in.calls a0_0 0 255 true _ A2.out).mono ?_); rintro e w' ⟨rfl, ⟨nd, rfl⟩⟩; refine ⟨_, rfl, ?_⟩) | ((with_reducible refine gate_dst (N := 20) rfl ?_); (try (refine gate_guard (by rfl) ?_; dsimp only)); refine Kd.R_lit (Kd.int .u8) _ 5 ?hg (N := 20) ?hd (xs := ([((l0_1.length : Int)) % 256, (a0_0) % 256] : List Int)) (inner := [.int .u8 (((l0_1.length : Int)) % 256), .int .u8 ((a0_0) % 256)]) (ok := fun _ => True) (okp := fun _ => True) ?hr ?hp (fun _ hk => hk) trivial (Below.refl _ _) (Nat.le_refl _) (by simp) ?_; (case hd => rfl); (case hg => rfl); (case hr => first | (go_simp; done) | (go_simp; rfl)); (case hp => exact (Reps.one (show Kd.M (Kd.int .u8) _ _ _ (((l0_1.length : Int)) % 256) [.int .u8 (((l0_1.length : Int)) % 256)] from rfl) (Reps.one (show Kd.M (Kd.int .u8) _ _ _ ((a0_0) % 256) [.int .u8 ((a0_0) % 256)] from rfl) (Reps.none _ _)))); intro v457 w10 ho11 hb hg_ hnew_; clear hg_ hnew_; (first | rw [← Ny456.out] at ho11 | (simp only [Int.reduceToNat] at ho11; rw [← Ny456.out] at ho11)); replace HO0_1 := Aside0.mk (Kd.V_elder' (kV_ HO0_1.out) (Kd.R_base ho11) hb); have HO458 := Aside0.mk (Kd.R_lower (Kd.R_newM (M := fun k_ => (w.heap.size ≤ k_)) ho11 (below_size (hbA_ HB.out)) (fun k_ h_ => h_)) (below_size (hbA_ HB.out))); replace BK454 := (bbA_ BK454 hb); replace HB := (bs_ HB hb); clear hb ho11; have Z12 := zz2 BK454; obtain ⟨Ao13, co13, eo13⟩ := Kd.R_slice HO458.out; subst eo13) | ((with_reducible refine gate_dst (N := 23) rfl ?_); (try (refine gate_guard (by rfl) ?_; dsimp only)); refine Kd.N_lit (Kd.slice 5 (Kd.int .u8)) _ 34 ?hg (N' := 23) ?hd (xs := ([y456, l0_1] : List (List Int))) (inner := [.slice Ao13 y456.length co13, .slice A0_1 l0_1.length c0_1]) (ok := (fun k_ => (P0_1_ k_ ∨ w.heap.size ≤ k_) ∧ k_ ≠ gb454)) (okp := (fun k_ => (P0_1_ k_ ∨ w.heap.size ≤ k_) ∧ k_ ≠ gb454)) ?hr ?hp (fun _ hk => hk) ((show ∀ k_, w10.heap.size ≤ k_ → (fun k_ => (P0_1_ k_ ∨ w.heap.size ≤ k_) ∧ k_ ≠ gb454) k_ from fun k_ hk => ⟨(.inr (Nat.le_trans (below_size (hbA_ HB.out)) hk)), fb_ BK454 k_ hk⟩) _ (Nat.le_refl _)) (Below.refl _ _) (Nat.le_refl _) (by simp) ?_; (case hd => rfl); (case hg => rfl); (case hr => first | (go_simp; done) | (go_simp; rfl)); (case hp => exact (Reps.one (show Kd.FK (Kd.slice 5 (Kd.int .u8)) _ _ y456 [.slice Ao13 y456.length co13] from (Kd.FK_slice_mk (Kd.R_reads' (Kd.R_mono (ok' := (fun k_ => (P0_1_ k_ ∨ w.heap.size ≤ k_) ∧ k_ ≠ gb454)) (Kd.R_types (HO458.out) BK454.out (by decide)) (fun k_ hk => ⟨(.inr (hk.1.1)), hk.2⟩))).2.1 (Kd.R_F (Kd.R_mono (ok' := (fun k_ => (P0_1_ k_ ∨ w.heap.size ≤ k_) ∧ k_ ≠ gb454)) (Kd.R_types (HO458.out) BK454.out (by decide)) (fun k_ hk => ⟨(.inr (hk.1.1)), hk.2⟩))))) (Reps.one (show Kd.FK (Kd.slice 5 (Kd.int .u8)) _ _ l0_1 [.slice A0_1 l0_1.length c0_1] from (Kd.FK_slice_mk (Kd.V_reads' (Kd.V_mono (ok' := (fun k_ => (P0_1_ k_ ∨ w.heap.size ≤ k_) ∧ k_ ≠ gb454)) (HO0_1.out) (fun k_ hk => ⟨hk.1.1, hk.1.2⟩))).2.1 (Kd.V_F (Kd.V_mono (ok' := (fun k_ => (P0_1_ k_ ∨ w.heap.size ≤ k_) ∧ k_ ≠ gb454)) (HO0_1.out) (fun k_ hk => ⟨hk.1.1, hk.1.2⟩))))) (Reps.none _ _)))); intro v460 w14 ho15 hb hg_ hnew_; clear hg_ hnew_; (first | rw [← Ny459.out] at ho15 | (simp only [Int.reduceToNat] at ho15; rw [← Ny459.out] at ho15)); replace HO0_1 := Aside0.mk (Kd.V_elder' (kV_ HO0_1.out) (Kd.N_base ho15) hb); have HO461 := Aside0.mk (Kd.N_lower ho15 (below_size (hbA_ HB.out))); replace BK454 := (bbA_ BK454 hb); replace HB := (bs_ HB hb); clear HO458; clear hb ho15; obtain ⟨Ao16, co16, eo16⟩ := Kd.N_slice HO461.out; subst eo16) | ((with_reducible refine gate_callee (f := 74) rfl ?_); refine goesL_ (some 24) rfl rfl Try.func74 (by kernel_rfl) rfl #[.slice Ao16 y459.length co16] rfl ar_ ?_; (with_reducible refine (slices_Concat_byte_byte.calls k _ _ y459 t462 _ ?side1 ?side2 A7.out).mono ?_); (case side1 => exact kC_ (Kd.N_reads' HO461.out).2.2); (case side2 => exact (Kd.N_reads' HO461.out).2.1); rintro e w17 ⟨v463, rfl, ho0, hb⟩; refine ⟨_, rfl, ?_⟩; replace HO0_1 := Aside0.mk (Kd.V_elder' (kV_ HO0_1.out) (Kd.R_base ho0) hb); replace HO461 := Aside0.mk (Kd.N_elder' (kN_ HO461.out) (Kd.R_base ho0) hb); have HO464 := Aside0.mk (Kd.R_lower (Kd.R_newM (M := fun k_ => (w.heap.size ≤ k_)) ho0 (below_size (hbA_ HB.out)) (fun k_ h_ => h_)) (below_size (hbA_ HB.out))); replace BK454 := (bbA_ BK454 hb); replace HB := (bs_ HB hb); (try clear hb); (try clear hb2); (try clear hk); (try clear hi); (try clear ho0)))
   go_ret
   exact ⟨_, by first | rfl | (simp [errW_none, errW_some] <;> rfl) | (simp [*, errW_none, errW_some] <;> rfl), by refine kR_ ?_; exact Kd.R_mono HO464.out (fun _ hk => hk.1), hbA_ HB.out⟩
 ·replace c3 := Bool.eq_false_iff.mpr c3
  subst c3
  rw [if_neg (show ¬ (false = true) by decide)] at H
  obtain rfl := Option.some.inj H
  go_enter Try.func63, Try.ntmps63
  go_wp2_with (first | ((with_reducible refine gate_dst (N := 1) rfl ?_); (try (refine gate_guard (by rfl) ?_; dsimp only)); refine box_ (N := 1) (cs := #[.int .i64 a0_0, .slice A0_1 l0_1.length c0_1]) (t := 41) (fun gb454 hg w18 hbox hb => ?_); replace HO0_1 := Aside0.mk (Kd.V_below (Kd.V_elderB (kV_ HO0_1.out) gb454 (Nat.le_of_eq hg.symm)) hb); have BK454 := Aside0.mk (hbox); have GW454 := ge_ hg HB; have GE454 := ge_ hg HB; replace HB := (bs_ HB hb); clear hb hbox hg; have Z19 := zz2 BK454) | ((with_reducible refine gate_callee (f := 49) rfl ?_); refine goesL_ (some 5) rfl rfl Try.func49 (by kernel_rfl) rfl #[.int .i64 a0_0, .int .i64 0, .int .i64 255] rfl ar_ ?_; (with_reducible refine (impl_in.calls a0_0 0 255 false _ A2.out).mono ?_); rintro e w' ⟨rfl, ⟨nd, rfl⟩⟩; refine ⟨_, rfl, ?_⟩))
  go_ret
  exact ⟨_, by first | rfl | (simp [errW_none, errW_some] <;> rfl) | (simp [*, errW_none, errW_some] <;> rfl), by first | exact Kd.R_nil _ _ _ _ _ | exact Kd.N_nil _ _ _ _ _ | exact Kd.V_nil _ _ _ _ _ | exact Kd.Q_nil _ _ _ _ _ | exact Kd.S_nil _ _ _ _ _, hbA_ HB.out⟩
set_option maxHeartbeats 8000000 in
theorem impl_WordsBytes.calls (k : Nat) (a0_0 : Int) (A0_1 : Option Addr) (c0_1 : Nat) (l0_1 : List Int) (r : List Int) (w : World) (hr0_1 : Kd.C (Kd.int .u8) w A0_1 l0_1.length l0_1) (hc0_1 : l0_1.length ≤ c0_1) (h : impl_WordsBytes.f k a0_0 l0_1 = some r) :
    Calls Try.prog 63 #[.agg #[.int .i64 a0_0, .slice A0_1 l0_1.length c0_1]] w fun e w' => ∃ v0_ : Value, e = .returned (v0_) ∧ Kd.R (Kd.int .u8) 5 w' w.heap.size (fun _ => True) v0_ r ∧ Below w.heap.size w w' := by
  refine (impl_WordsBytes.callsV k a0_0 (fun _ => True) A0_1 c0_1 l0_1 r w (Kd.V_mk hc0_1 (fun W_ hW_ => Kd.Heap.C (Kd.heap_int .u8) (fun k_ hlt_ => hW_ k_ trivial hlt_) hr0_1)) h).mono ?_
  rintro e w' ⟨v0_, rfl, ho0, hb⟩
  exact ⟨v0_, rfl, Kd.R_mono ho0 (fun k_ hk_ => trivial), hb⟩
mutual
def impl_ClientAsk.j0 : Nat → List Int → Bool → Int → List Int → List (S41) → List Int → Option (Int × List Int × (List (S41)) × List Int × List Int × Bool)
 | 0, _, _, _, _, _, _ => none
 | k + 1, x1, x15, x466000, x466001, x466002, x466003 => if x15 = true then (some (0, ([] : List Int), ([] : List (S41)), ([] : List Int), ([] : List Int), false)) else ((impl_Client_copy.f k x466000 x466001 x466002 x466003).bind fun bt468 => (if (x466001.length : Int) ≥ 4 then (impl_ClientAsk.j1 k x1 true x466000 x466001 x466002 x466003 bt468.1 bt468.2.1 bt468.2.2.1 bt468.2.2.2) else (impl_ClientAsk.j1 k x1 (decide (x466000 > 255)) x466000 x466001 x466002 x466003 bt468.1 bt468.2.1 bt468.2.2.1 bt468.2.2.2)))
def impl_ClientAsk.j1 : Nat → List Int → Bool → Int → List Int → List (S41) → List Int → Int → List Int → List (S41) → List Int → Option (Int × List Int × (List (S41)) × List Int × List Int × Bool)
 | 0, _, _, _, _, _, _, _, _, _, _ => none
 | k + 1, x1, x27, x466000, x466001, x466002, x466003, x479000, x479001, x479002, x479003 => if x27 = true then (some (x479000, x479001, x479002, x479003, ([] : List Int), false)) else (if x479001.length < 17592186044416 then ((impl_Client_copy.f k (wrap64 (x479000 + 1)) (x479001 ++ [x466000]) x479002 x479003).bind fun bt482 => ((impl_WordsBytes.f k x466000 x1).bind fun t492 => (some (bt482.1, bt482.2.1, bt482.2.2.1, bt482.2.2.2, t492, true)))) else (none))
end
def impl_ClientAsk.f (k : Nat) (a0_0 : Int) (l0_1 : List Int) (l0_2 : List (S41)) (l0_3 : List Int) (l1 : List Int) : Option (Int × List Int × (List (S41)) × List Int × List Int × Bool) := (impl_ClientOk.f k a0_0 l0_1 l0_2 l0_3).bind fun t467 => (if t467 = true then (impl_ClientAsk.j0 k l1 (decide ((l1.length : Int) > 9)) a0_0 l0_1 l0_2 l0_3) else (impl_ClientAsk.j0 k l1 true a0_0 l0_1 l0_2 l0_3))
theorem impl_ClientAsk.mono_l : ∀ k, (∀ y0 y1 y2 y3 y4 y5, LeO (impl_ClientAsk.j0 k y0 y1 y2 y3 y4 y5) (impl_ClientAsk.j0 (k + 1) y0 y1 y2 y3 y4 y5)) ∧ (∀ y0 y1 y2 y3 y4 y5 y6 y7 y8 y9, LeO (impl_ClientAsk.j1 k y0 y1 y2 y3 y4 y5 y6 y7 y8 y9) (impl_ClientAsk.j1 (k + 1) y0 y1 y2 y3 y4 y5 y6 y7 y8 y9))
 | 0 => ⟨fun _ _ _ _ _ _ r h => by simp [impl_ClientAsk.j0] at h, fun _ _ _ _ _ _ _ _ _ _ r h => by simp [impl_ClientAsk.j1] at h⟩
 | k + 1 => by
  obtain ⟨ih0, ih1⟩ := impl_ClientAsk.mono_l k
  refine ⟨?_, ?_⟩
  ·intro y0 y1 y2 y3 y4 y5
   unfold impl_ClientAsk.j0
   repeat' first | (with_reducible first | apply ih0 | apply ih1 | apply impl_ClientOk.mono | apply impl_Client_copy.mono | apply impl_WordsBytes.mono | exact LeO.refl _ | exact LeO.none _ | refine LeO.ite ?_ ?_ | refine LeO.bind ?_ fun _ => ?_) | apply ih0 | apply ih1 | apply impl_ClientOk.mono | apply impl_Client_copy.mono | apply impl_WordsBytes.mono | exact LeO.none _ | refine LeO.ite ?_ ?_ | refine LeO.bind ?_ fun _ => ?_
  ·intro y0 y1 y2 y3 y4 y5 y6 y7 y8 y9
   unfold impl_ClientAsk.j1
   repeat' first | (with_reducible first | apply ih0 | apply ih1 | apply impl_ClientOk.mono | apply impl_Client_copy.mono | apply impl_WordsBytes.mono | exact LeO.refl _ | exact LeO.none _ | refine LeO.ite ?_ ?_ | refine LeO.bind ?_ fun _ => ?_) | apply ih0 | apply ih1 | apply impl_ClientOk.mono | apply impl_Client_copy.mono | apply impl_WordsBytes.mono | exact LeO.none _ | refine LeO.ite ?_ ?_ | refine LeO.bind ?_ fun _ => ?_
theorem impl_ClientAsk.mono : ∀ a0 a1 a2 a3 a4 k, LeO (impl_ClientAsk.f k a0 a1 a2 a3 a4) (impl_ClientAsk.f (k + 1) a0 a1 a2 a3 a4) := by
 intro a0 a1 a2 a3 a4 k
 obtain ⟨ih0, ih1⟩ := impl_ClientAsk.mono_l k
 unfold impl_ClientAsk.f
 repeat' first | (with_reducible first | apply ih0 | apply ih1 | apply impl_ClientOk.mono | apply impl_Client_copy.mono | apply impl_WordsBytes.mono | exact LeO.refl _ | exact LeO.none _ | refine LeO.ite ?_ ?_ | refine LeO.bind ?_ fun _ => ?_) | apply ih0 | apply ih1 | apply impl_ClientOk.mono | apply impl_Client_copy.mono | apply impl_WordsBytes.mono | exact LeO.none _ | refine LeO.ite ?_ ?_ | refine LeO.bind ?_ fun _ => ?_
def impl_ClientAsk.T8 : Bool × List (List Nat × List Nat) := (true, [([], []), ([0], [0]), ([], []), ([2], [2]), ([], []), ([3, 4], [3, 4]), ([5, 1], [5]), ([1, 6, 0, 1], [1]), ([6, 7, 0, 1, 2, 3, 4, 5, 6, 7], [6]), ([8, 0, 1, 2, 3, 4, 5, 6, 7, 8], [])])
def impl_ClientAsk.B8 : List Nat := [0, 1, 0, 4, 0, 28, 63, 127, 255, 511]
theorem impl_ClientAsk.tab8 : rtab .any (opsOf Try.f26 8) = impl_ClientAsk.T8 := by kernel_rfl
theorem impl_ClientAsk.bits8 : waitsOk impl_ClientAsk.T8.2 impl_ClientAsk.B8 = true := by kernel_rfl
set_option maxHeartbeats 8000000 in
set_option maxRecDepth 100000 in
theorem impl_ClientAsk.calls (k : Nat) (a0_0 : Int) (A0_1 : Option Addr) (c0_1 : Nat) (l0_1 : List Int) (A0_2 : Option Addr) (c0_2 : Nat) (l0_2 : List (S41)) (A0_3 : Option Addr) (c0_3 : Nat) (l0_3 : List Int) (A1 : Option Addr) (c1 : Nat) (l1 : List Int) (r1 : Int) (r2 : List Int) (r3 : List (S41)) (r4 : List Int) (r5 : List Int) (r6 : Bool) (w : World) (hr0_1 : Kd.C (Kd.int .i64) w A0_1 l0_1.length l0_1) (hc0_1 : l0_1.length ≤ c0_1) (hr0_2 : Kd.C k41 w A0_2 l0_2.length l0_2) (hc0_2 : l0_2.length ≤ c0_2) (hr0_3 : Kd.C (Kd.int .i64) w A0_3 l0_3.length l0_3) (hc0_3 : l0_3.length ≤ c0_3) (hr1 : Kd.C (Kd.int .u8) w A1 l1.length l1) (hc1 : l1.length ≤ c1) (h : impl_ClientAsk.f k a0_0 l0_1 l0_2 l0_3 l1 = some (r1, r2, r3, r4, r5, r6)) :
  Calls Try.prog 26 #[.agg #[.int .i64 a0_0, .slice A0_1 l0_1.length c0_1, .slice A0_2 l0_2.length c0_2, .slice A0_3 l0_3.length c0_3], .slice A1 l1.length c1] w fun e w' => ∃ v1_ v2_ v3_ v4_ : Value, e = .returned (.tuple #[.agg #[.int .i64 r1, v1_, v2_, v3_], v4_, .bool r6]) ∧ Kd.R (Kd.int .i64) 3 w' w.heap.size (fun k_ => some k_ ≠ (v3_ : Value).ownBlock) v1_ r2 ∧ Kd.S k41 41 w' w.heap.size (fun k_ => some k_ ≠ (v4_ : Value).ownBlock) v2_ r3 ∧ Kd.R (Kd.int .i64) 3 w' w.heap.size (fun k_ => some k_ ≠ (v1_ : Value).ownBlock) v3_ r4 ∧ Kd.R (Kd.int .u8) 5 w' w.heap.size (fun _ => True) v4_ r5 ∧ Below w.heap.size w w' := by
 have hu30 := Try.underlying30; have hu41 := Try.underlying41; have HR0_1 := Aside0.mk hr0_1; have HC0_1 := Aside0.mk hc0_1; clear hr0_1 hc0_1; have HR0_2 := Aside0.mk hr0_2; have HC0_2 := Aside0.mk hc0_2; clear hr0_2 hc0_2; have HR0_3 := Aside0.mk hr0_3; have HC0_3 := Aside0.mk hc0_3; clear hr0_3 hc0_3; have HR1 := Aside0.mk hr1; have HC1 := Aside0.mk hc1; clear hr1 hc1
 have HB := Aside0.mk (Below.refl w.heap.size w)
 have H : ((impl_ClientOk.f k a0_0 l0_1 l0_2 l0_3).bind fun t467 => (if t467 = true then (impl_ClientAsk.j0 k l1 (decide ((l1.length : Int) > 9)) a0_0 l0_1 l0_2 l0_3) else (impl_ClientAsk.j0 k l1 true a0_0 l0_1 l0_2 l0_3))) = some (r1, r2, r3, r4, r5, r6) := h
 clear h; have HC3 := Aside0.mk H; clear H
 go_enter Try.func26, Try.ntmps26
 go_upto_region 1 with (first | ((with_reducible refine gate_dst (N := 2) rfl ?_); (try (refine gate_guard (by rfl) ?_; dsimp only)); refine box_ (N := 2) (cs := #[.int .i64 a0_0, .slice A0_1 l0_1.length c0_1, .slice A0_2 l0_2.length c0_2, .slice A0_3 l0_3.length c0_3]) (t := 30) (fun gb465 hg w4 hbox hb => ?_); have BK465 := Aside0.mk (hbox); have GW465 := ge_ hg HB; have GE465 := ge_ hg HB; replace HB := (bs_ HB hb); clear hb hbox hg) | ((with_reducible refine gate_dst (N := 4) rfl ?_); (try (refine gate_guard (by rfl) ?_; dsimp only)); refine box_ (N := 4) (cs := #[.int .i64 0, .slice none 0 0, .slice none 0 0, .slice none 0 0]) (t := 30) (fun gb466 hg w5 hbox hb => ?_); have BK466 := Aside0.mk (hbox); have GW466 := ge_ hg HB; have GE466 := ge_ hg HB; replace HB := (bs_ HB hb); have NB465_466 := nl_ hg BK465; have NB466_465 := ng_ hg BK465; replace BK465 := (bbA_ BK465 hb); clear hb hbox hg))
 (try simp only [Act.put, List.setIfInBounds_toArray, List.set_cons_zero, List.set_cons_succ])
 go_cut [15] (fun v15 wc => ∃ (kq : Nat) (x15_2 : Bool), v15 = .bool x15_2 ∧ Aside0 (impl_ClientAsk.j0 kq l1 x15_2 a0_0 l0_1 l0_2 l0_3 = some (r1, r2, r3, r4, r5, r6)) ∧ Aside0 (kq ≤ k) ∧ Aside0 (wc.heap[gb465]? = some (.cells #[.int .i64 a0_0, (.slice A0_1 l0_1.length c0_1), (.slice A0_2 l0_2.length c0_2), (.slice A0_3 l0_3.length c0_3)] 30 (0, 0))) ∧ Aside0 (wc.heap[gb466]? = some (.cells #[.int .i64 0, (.slice none 0 0), (.slice none 0 0), (.slice none 0 0)] 30 (0, 0))) ∧ Aside0 (Below w.heap.size w wc))
 case first =>
  have H := HC3.out; clear HC3
  replace H := Option.bind_eq_some_iff.mp H
  obtain ⟨t467, A60, H⟩ := H
  (try dsimp only at H)
  have A6 := Aside0.mk A60; clear A60
  by_cases c7 : t467 = true
  ·subst c7
   rw [if_pos rfl] at H
   have H' := Aside0.mk H
   clear H; have hnb8 := NB465_466.out; have hnc8 := NB466_465.out; have Z9 := zz4 BK465
   go_wp2_with (first | ((with_reducible refine gate_callee (f := 14) rfl ?_); refine goesL_ (some 9) rfl rfl Try.func14 (by kernel_rfl) rfl #[.agg #[.int .i64 a0_0, .slice A0_1 l0_1.length c0_1, .slice A0_2 l0_2.length c0_2, .slice A0_3 l0_3.length c0_3]] rfl ar_ ?_; (with_reducible refine (impl_ClientOk.calls k a0_0 _ _ l0_1 _ _ l0_2 _ _ l0_3 true _ ?side1 ?side2 ?side3 ?side4 ?side5 ?side6 A6.out).mono ?_); (case side1 => exact kC_ (Kd.C_below HR0_1.out HB.out)); (case side2 => exact HC0_1.out); (case side3 => exact kC_ (Kd.C_below HR0_2.out HB.out)); (case side4 => exact HC0_2.out); (case side5 => exact kC_ (Kd.C_below HR0_3.out HB.out)); (case side6 => exact HC0_3.out); rintro e w10 ⟨rfl, hb⟩; refine ⟨_, rfl, ?_⟩; replace BK465 := (bbA_ BK465 hb); replace BK466 := (bbA_ BK466 hb); replace HB := (bs_ HB hb); (try clear hb); (try clear hb2); (try clear hk); (try clear hi)))
   go_meet
   case rel => exact ⟨_, (decide ((l1.length : Int) > 9)), (by first | rfl | (simp; done) | (simp [*]; done)), H', ⟨by first | omega | exact Nat.le_refl _⟩, ⟨by refine kb_ ?_; exact BK465.out⟩, ⟨by refine kb_ ?_; exact BK466.out⟩, ⟨hbA_ HB.out⟩⟩
  ·replace c7 := Bool.eq_false_iff.mpr c7
   subst c7
   rw [if_neg (show ¬ (false = true) by decide)] at H
   have H' := Aside0.mk H
   clear H; have hnb11 := NB465_466.out; have hnc11 := NB466_465.out; have Z12 := zz4 BK465
   go_wp2_with (first | ((with_reducible refine gate_callee (f := 14) rfl ?_); refine goesL_ (some 9) rfl rfl Try.func14 (by kernel_rfl) rfl #[.agg #[.int .i64 a0_0, .slice A0_1 l0_1.length c0_1, .slice A0_2 l0_2.length c0_2, .slice A0_3 l0_3.length c0_3]] rfl ar_ ?_; (with_reducible refine (impl_ClientOk.calls k a0_0 _ _ l0_1 _ _ l0_2 _ _ l0_3 false _ ?side1 ?side2 ?side3 ?side4 ?side5 ?side6 A6.out).mono ?_); (case side1 => exact kC_ (Kd.C_below HR0_1.out HB.out)); (case side2 => exact HC0_1.out); (case side3 => exact kC_ (Kd.C_below HR0_2.out HB.out)); (case side4 => exact HC0_2.out); (case side5 => exact kC_ (Kd.C_below HR0_3.out HB.out)); (case side6 => exact HC0_3.out); rintro e w13 ⟨rfl, hb⟩; refine ⟨_, rfl, ?_⟩; replace BK465 := (bbA_ BK465 hb); replace BK466 := (bbA_ BK466 hb); replace HB := (bs_ HB hb); (try clear hb); (try clear hb2); (try clear hk); (try clear hi)))
   go_meet
   case rel => exact ⟨_, (true), (by first | rfl | (simp; done) | (simp [*]; done)), H', ⟨by first | omega | exact Nat.le_refl _⟩, ⟨by refine kb_ ?_; exact BK465.out⟩, ⟨by refine kb_ ?_; exact BK466.out⟩, ⟨hbA_ HB.out⟩⟩
 case rest =>
  clear HC3; (try clear c1); (try clear c2); (try clear p2); (try clear c7); (try clear c8); (try clear c11); (try clear Z12); (try clear Z9)
  obtain ⟨kq, x15_2, rfl, HA, HJ2, BK465, BK466, HB⟩ := hcut
  cases kq with
  | zero => exact absurd HA.out (by simp [impl_ClientAsk.j0])
  | succ kj2 =>
   have H := HA.out; clear HA
   simp only [impl_ClientAsk.j0] at H
   by_cases c14 : x15_2 = true
   ·subst c14
    rw [if_pos rfl] at H
    simp only [Option.some.injEq, Prod.mk.injEq] at H
    obtain ⟨rfl, rfl, rfl, rfl, rfl, rfl⟩ := H
    have hnb15 := NB466_465.out; have hnc15 := NB465_466.out; have Z16 := zz4 BK466
    go_wp2
    refine bodyPost_ret (results_ctt rfl _ _ gb466 30 #[.int .i64 0, .slice none 0 0, .slice none 0 0, .slice none 0 0] (0, 0) _ rfl (by refine kb_ ?_; refine pz4 (cs := #[.int .i64 0, .slice none 0 0, .slice none 0 0, .slice none 0 0]) ?_; refine kb_ ?_; exact BK466.out) Try.underlying30 rfl (by kernel_rfl)) rfl ?_
    exact ⟨_, _, _, _, by first | rfl | (simp [errW_none, errW_some] <;> rfl) | (simp [*, errW_none, errW_some] <;> rfl), by first | exact Kd.R_nil _ _ _ _ _ | exact Kd.N_nil _ _ _ _ _ | exact Kd.V_nil _ _ _ _ _ | exact Kd.Q_nil _ _ _ _ _ | exact Kd.S_nil _ _ _ _ _, by first | exact Kd.S_nil _ _ _ _ _ | exact Kd.N_nil _ _ _ _ _ | exact Kd.V_nil _ _ _ _ _ | exact Kd.Q_nil _ _ _ _ _ | exact Kd.R_nil _ _ _ _ _, by first | exact Kd.R_nil _ _ _ _ _ | exact Kd.N_nil _ _ _ _ _ | exact Kd.V_nil _ _ _ _ _ | exact Kd.Q_nil _ _ _ _ _ | exact Kd.S_nil _ _ _ _ _, by first | exact Kd.R_nil _ _ _ _ _ | exact Kd.N_nil _ _ _ _ _ | exact Kd.V_nil _ _ _ _ _ | exact Kd.Q_nil _ _ _ _ _ | exact Kd.S_nil _ _ _ _ _, hbA_ HB.out⟩
   ·replace c14 := Bool.eq_false_iff.mpr c14
    subst c14
    rw [if_neg (show ¬ (false = true) by decide)] at H
    replace H := Option.bind_eq_some_iff.mp H
    obtain ⟨⟨t468, t469, t472, t475⟩, A170, H⟩ := H
    (try dsimp only at H)
    have A17 := Aside0.mk A170; clear A170; have HC18 := Aside0.mk H; clear H; have hnb19 := NB465_466.out; have hnc19 := NB466_465.out; have Z20 := zz4 BK465
    go_upto_region 4 with (first | ((with_reducible refine gate_callee (f := 54) rfl ?_); refine goesL_ (some 18) rfl rfl Try.func54 (by kernel_rfl) rfl #[.agg #[.int .i64 a0_0, .slice A0_1 l0_1.length c0_1, .slice A0_2 l0_2.length c0_2, .slice A0_3 l0_3.length c0_3]] rfl ar_ ?_; (with_reducible refine (impl_Client_copy.calls kj2 a0_0 _ _ l0_1 _ _ l0_2 _ _ l0_3 t468 t469 t472 t475 _ ?side1 ?side2 ?side3 ?side4 ?side5 ?side6 A17.out).mono ?_); (case side1 => exact kC_ (Kd.C_below HR0_1.out HB.out)); (case side2 => exact HC0_1.out); (case side3 => exact kC_ (Kd.C_below HR0_2.out HB.out)); (case side4 => exact HC0_2.out); (case side5 => exact kC_ (Kd.C_below HR0_3.out HB.out)); (case side6 => exact HC0_3.out); rintro e w21 ⟨v470, v473, v476, rfl, ho0, ho1, ho2, hb⟩; refine ⟨_, rfl, ?_⟩; have HO471 := Aside0.mk (Kd.R_lower ho0 (below_size (hbA_ HB.out))); have HO474 := Aside0.mk (Kd.S_lower ho1 (below_size (hbA_ HB.out))); have HO477 := Aside0.mk (Kd.R_lower ho2 (below_size (hbA_ HB.out))); replace BK465 := (bbA_ BK465 hb); replace BK466 := (bbA_ BK466 hb); replace HB := (bs_ HB hb); (try clear hb); (try clear hb2); (try clear hk); (try clear hi); (try clear ho0); (try clear ho1); (try clear ho2)) | ((with_reducible refine gate_dst (N := 7) rfl ?_); (try (refine gate_guard (by rfl) ?_; dsimp only)); refine box_ (N := 7) (cs := #[.int .i64 0, .slice none 0 0, .slice none 0 0, .slice none 0 0]) (t := 30) (fun gb478 hg w22 hbox hb => ?_); replace HO471 := Aside0.mk (Kd.R_below (kR_ HO471.out) hb); replace HO474 := Aside0.mk (Kd.S_below (kS_ HO474.out) hb); replace HO477 := Aside0.mk (Kd.R_below (kR_ HO477.out) hb); have BK478 := Aside0.mk (hbox); have GW478 := ge_ hg HB; have GE478 := ge_ hg HB; replace HB := (bs_ HB hb); have NB465_478 := nl_ hg BK465; have NB478_465 := ng_ hg BK465; replace BK465 := (bbA_ BK465 hb); have NB466_478 := nl_ hg BK466; have NB478_466 := ng_ hg BK466; replace BK466 := (bbA_ BK466 hb); clear hb hbox hg; have hnb23 := NB478_465.out; have hnc23 := NB465_478.out; have hnb24 := NB478_466.out; have hnc24 := NB466_478.out; have Z25 := zz4 BK478; obtain ⟨Ao26, co26, eo26⟩ := Kd.R_slice HO471.out; subst eo26; obtain ⟨Ao27, co27, eo27⟩ := Kd.S_slice HO474.out; subst eo27; obtain ⟨Ao28, co28, eo28⟩ := Kd.R_slice HO477.out; subst eo28))
    (try simp only [Act.put, List.setIfInBounds_toArray, List.set_cons_zero, List.set_cons_succ])
    go_cut [27] (fun v27 wc => ∃ (kq : Nat) (x27_17 : Bool), v27 = .bool x27_17 ∧ Aside0 (impl_ClientAsk.j1 kq l1 x27_17 a0_0 l0_1 l0_2 l0_3 t468 t469 t472 t475 = some (r1, r2, r3, r4, r5, r6)) ∧ Aside0 (kq ≤ kj2) ∧ Aside0 (Kd.R (Kd.int .i64) 3 wc w.heap.size (fun k_ => some k_ ≠ ((.slice Ao28 t475.length co28) : Value).ownBlock) (.slice Ao26 t469.length co26) t469) ∧ Aside0 (Kd.S k41 41 wc w.heap.size (fun _ => True) (.slice Ao27 t472.length co27) t472) ∧ Aside0 (Kd.R (Kd.int .i64) 3 wc w.heap.size (fun k_ => some k_ ≠ ((.slice Ao26 t469.length co26) : Value).ownBlock) (.slice Ao28 t475.length co28) t475) ∧ Aside0 (wc.heap[gb465]? = some (.cells #[.int .i64 a0_0, (.slice A0_1 l0_1.length c0_1), (.slice A0_2 l0_2.length c0_2), (.slice A0_3 l0_3.length c0_3)] 30 (0, 0))) ∧ Aside0 (wc.heap[gb466]? = some (.cells #[.int .i64 0, (.slice none 0 0), (.slice none 0 0), (.slice none 0 0)] 30 (0, 0))) ∧ Aside0 (wc.heap[gb478]? = some (.cells #[.int .i64 t468, (.slice Ao26 t469.length co26), (.slice Ao27 t472.length co27), (.slice Ao28 t475.length co28)] 30 (0, 0))) ∧ Aside0 (Below w.heap.size w wc))
    case first =>
     have H := HC18.out; clear HC18
     by_cases c29 : (l0_1.length : Int) ≥ 4
     ·rw [if_pos c29] at H
      have c29b0 : decide (4 ≤ (l0_1.length : Int)) = true := decide_eq_true c29
      have c29b1 : decide (4 ≤ l0_1.length) = true := decide_eq_true (by omega)
      clear c29
      (first | rw [c29b0] | (simp only [i64_w, i32_w]; rw [c29b0]) | skip)
      have H' := Aside0.mk H
      clear H; have hnb30 := NB465_466.out; have hnc30 := NB466_465.out; have hnb31 := NB465_478.out; have hnc31 := NB478_465.out; have Z32 := zz4 BK465
      go_wp2
      go_meet
      case rel => exact ⟨_, (true), (by first | rfl | (simp; done) | (simp [*]; done)), H', ⟨by have := HJ2.out; first | omega | exact Nat.le_refl _⟩, ⟨by refine kR_ ?_; exact rfm_ ((Kd.R_types HO471.out BK478.out (by decide))) (fun _ hk => hk.1)⟩, ⟨by refine kS_ ?_; exact Kd.S_mono (Kd.S_far (p := ⟨gb478, 3, none⟩) (Kd.S_far (p := ⟨gb478, 2, none⟩) (Kd.S_far (p := ⟨gb478, 1, none⟩) (Kd.S_far (p := ⟨gb478, 0, none⟩) (Kd.S_types HO474.out BK478.out (by decide)) (fun _ hk => hk.2) (.int .i64 t468)) (fun _ hk => hk.2) (.slice Ao26 t469.length co26)) (fun _ hk => hk.2) (.slice Ao27 t472.length co27)) (fun _ hk => hk.2) (.slice Ao28 t475.length co28)) (fun _ hk => trivial)⟩, ⟨by refine kR_ ?_; exact rfm_ ((Kd.R_types HO477.out BK478.out (by decide))) (fun _ hk => hk.1)⟩, ⟨by exact kf_ BK465.out⟩, ⟨by exact kf_ BK466.out⟩, ⟨by refine kb_ ?_; refine pz4 (cs := #[.int .i64 0, .slice none 0 0, .slice none 0 0, .slice none 0 0]) ?_; refine kb_ ?_; exact BK478.out⟩, ⟨hbA_ HB.out⟩⟩
     ·rw [if_neg c29] at H
      have c29b0 : decide (4 ≤ (l0_1.length : Int)) = false := decide_eq_false c29
      have c29b1 : decide (4 ≤ l0_1.length) = false := decide_eq_false (by omega)
      clear c29
      (first | rw [c29b0] | (simp only [i64_w, i32_w]; rw [c29b0]) | skip)
      have H' := Aside0.mk H
      clear H; have hnb33 := NB465_466.out; have hnc33 := NB466_465.out; have hnb34 := NB465_478.out; have hnc34 := NB478_465.out; have Z35 := zz4 BK465
      go_wp2
      go_meet
      case rel => exact ⟨_, (decide (a0_0 > 255)), (by first | rfl | (simp; done) | (simp [*]; done)), H', ⟨by have := HJ2.out; first | omega | exact Nat.le_refl _⟩, ⟨by refine kR_ ?_; exact rfm_ ((Kd.R_types HO471.out BK478.out (by decide))) (fun _ hk => hk.1)⟩, ⟨by refine kS_ ?_; exact Kd.S_mono (Kd.S_far (p := ⟨gb478, 3, none⟩) (Kd.S_far (p := ⟨gb478, 2, none⟩) (Kd.S_far (p := ⟨gb478, 1, none⟩) (Kd.S_far (p := ⟨gb478, 0, none⟩) (Kd.S_types HO474.out BK478.out (by decide)) (fun _ hk => hk.2) (.int .i64 t468)) (fun _ hk => hk.2) (.slice Ao26 t469.length co26)) (fun _ hk => hk.2) (.slice Ao27 t472.length co27)) (fun _ hk => hk.2) (.slice Ao28 t475.length co28)) (fun _ hk => trivial)⟩, ⟨by refine kR_ ?_; exact rfm_ ((Kd.R_types HO477.out BK478.out (by decide))) (fun _ hk => hk.1)⟩, ⟨by exact kf_ BK465.out⟩, ⟨by exact kf_ BK466.out⟩, ⟨by refine kb_ ?_; refine pz4 (cs := #[.int .i64 0, .slice none 0 0, .slice none 0 0, .slice none 0 0]) ?_; refine kb_ ?_; exact BK478.out⟩, ⟨hbA_ HB.out⟩⟩
    case rest =>
     clear HC18; (try clear c1); (try clear c2); (try clear p2); (try clear c3); (try clear c5); (try clear c7); (try clear c8); (try clear c11); (try clear c14); (try clear c15); (try clear c19); (try clear c23); (try clear c24); (try clear c26); (try clear c29); (try clear c29b0); (try clear c29b1); (try clear c30); (try clear c31); (try clear c33); (try clear c34); (try clear Z12); (try clear Z16); (try clear Z20); (try clear Z25); (try clear Z32); (try clear Z35); (try clear Z9); (try clear p2)
     obtain ⟨kq, x27_17, rfl, HA, HJ17, HO_479001, HO_479002, HO_479003, BK465, BK466, BK478, HB⟩ := hcut
     cases kq with
     | zero => exact absurd HA.out (by simp [impl_ClientAsk.j1])
     | succ kj17 =>
      have H := HA.out; clear HA
      simp only [impl_ClientAsk.j1] at H
      by_cases c36 : x27_17 = true
      ·subst c36
       rw [if_pos rfl] at H
       simp only [Option.some.injEq, Prod.mk.injEq] at H
       obtain ⟨rfl, rfl, rfl, rfl, rfl, rfl⟩ := H
       have hnb37 := NB478_465.out; have hnc37 := NB465_478.out; have hnb38 := NB478_466.out; have hnc38 := NB466_478.out; have Z39 := zz4 BK478; have hnb40 := NB466_465.out; have hnc40 := NB465_466.out; have Z41 := zz4 BK466
       go_wp2
       refine bodyPost_ret (results_ctt rfl _ _ gb466 30 #[.int .i64 t468, .slice Ao26 t469.length co26, .slice Ao27 t472.length co27, .slice Ao28 t475.length co28] (0, 0) _ rfl (by refine kb_ ?_; refine pz4 (cs := #[.int .i64 0, .slice none 0 0, .slice none 0 0, .slice none 0 0]) ?_; refine kb_ ?_; exact BK466.out) Try.underlying30 rfl (by kernel_rfl)) rfl ?_
       exact ⟨_, _, _, _, by first | rfl | (simp [errW_none, errW_some] <;> rfl) | (simp [*, errW_none, errW_some] <;> rfl), by refine kR_ ?_; exact rfm_ ((Kd.R_types HO_479001.out BK466.out (by decide))) (fun _ hk => hk.1), by refine kS_ ?_; exact Kd.S_mono (Kd.S_far (p := ⟨gb466, 3, none⟩) (Kd.S_far (p := ⟨gb466, 2, none⟩) (Kd.S_far (p := ⟨gb466, 1, none⟩) (Kd.S_far (p := ⟨gb466, 0, none⟩) (Kd.S_types HO_479002.out BK466.out (by decide)) (fun _ hk => hk.2) (.int .i64 t468)) (fun _ hk => hk.2) (.slice Ao26 t469.length co26)) (fun _ hk => hk.2) (.slice Ao27 t472.length co27)) (fun _ hk => hk.2) (.slice Ao28 t475.length co28)) (fun _ hk => (by simp [Value.ownBlock])), by refine kR_ ?_; exact rfm_ ((Kd.R_types HO_479003.out BK466.out (by decide))) (fun _ hk => hk.1), by first | exact Kd.R_nil _ _ _ _ _ | exact Kd.N_nil _ _ _ _ _ | exact Kd.V_nil _ _ _ _ _ | exact Kd.Q_nil _ _ _ _ _ | exact Kd.S_nil _ _ _ _ _, hbA_ HB.out⟩
      ·replace c36 := Bool.eq_false_iff.mpr c36
       subst c36
       rw [if_neg (show ¬ (false = true) by decide)] at H
       by_cases c42 : t469.length < 17592186044416
       ·rw [if_pos c42] at H
        have LMc42 := Aside0.mk c42; clear c42
        obtain ⟨y479, hy479⟩ : ∃ y_ : List Int, y_ = (t469 ++ [a0_0]) := ⟨_, rfl⟩
        (first | replace H := sb_ hy479 H | rw [← hy479] at H)
        have Ny479 := Aside0.mk hy479; clear hy479
        replace H := Option.bind_eq_some_iff.mp H
        obtain ⟨⟨t482, t483, t486, t489⟩, A430, H⟩ := H
        (try dsimp only at H)
        have A43 := Aside0.mk A430; clear A430
        replace H := Option.bind_eq_some_iff.mp H
        obtain ⟨t492, A440, H⟩ := H
        (try dsimp only at H)
        have A44 := Aside0.mk A440; clear A440
        simp only [Option.some.injEq, Prod.mk.injEq] at H
        obtain ⟨rfl, rfl, rfl, rfl, rfl, rfl⟩ := H
        have hnb45 := NB478_465.out; have hnc45 := NB465_478.out; have hnb46 := NB478_466.out; have hnc46 := NB466_478.out; have Z47 := zz4 BK478; have hnb48 := NB465_466.out; have hnc48 := NB466_465.out; have Z49 := zz4 BK465
        try go_wp2_with (first | ((with_reducible refine gate_builtin (b := .append) (xs := #[.tmp 30, .tmp 33]) rfl ?_); (try (refine gate_guard (by rfl) ?_; dsimp only)); at_builtin; refine Kd.R_append (Kd.int .i64) (w0 := w) w.heap.size rfl (.tmp 30) (.tmp 33) 22 3 (.int .i64 0) 8 rfl Try.underlying22 info3 rfl (by decide) (by omega) (.slice Ao26 t469.length co26) t469 a0_0 [.int .i64 a0_0] (fun k_ => some k_ ≠ (.slice Ao28 t475.length co28 : Value).ownBlock) (fun _ => False) rfl rfl ?aP (fun _ hk => hk.elim) ?aF ?aO ?aB ?aS ?aL ?_; (case aP => exact rfl); (case aB => exact (hbA_ HB.out)); (case aF => exact (fun k_ hk => Kd.fresh' (Kd.R_lt (kR_ HO_479003.out)) k_ hk)); (case aO => exact (kR_ HO_479001.out)); (case aS => exact (below_size (hbA_ HB.out))); (case aL => have := LMc42.out; omega); intro v480 w50 ho hb hg hat; rw [← Ny479.out] at ho; replace HO_479002 := Aside0.mk (Kd.S_over' (kS_ HO_479002.out) (Kd.R_typed (kR_ HO_479001.out)) (by decide) hg); replace HO_479003 := Aside0.mk (Kd.R_after (ok := (fun _ => True)) (by refine kR_ ?_; exact Kd.R_mono HO_479003.out (fun _ hk => ⟨trivial, hk⟩)) hg hat); replace BK465 := (bgA_ BK465 hg (Kd.R_ne HO_479001.out BK465.out (by decide))); replace BK466 := (bgA_ BK466 hg (Kd.R_ne HO_479001.out BK466.out (by decide))); replace BK478 := (bgA_ BK478 hg (Kd.R_ne HO_479001.out BK478.out (by decide))); replace HB := Aside0.mk (hb); have HO481 := Aside0.mk (ho); clear HO_479001; clear ho hb hg hat; obtain ⟨Ao51, co51, eo51⟩ := Kd.R_slice HO481.out; subst eo51; have Z52 := zz4 BK478))
        obtain ⟨w53, h_w53⟩ : ∃ w_, ((w50.setCell ⟨gb478, 1, none⟩ (.slice Ao51 y479.length co51)).setCell ⟨gb478, 0, none⟩ (.int .i64 (wrap64 (t468 + 1)))) = w_ := ⟨_, rfl⟩
        have n0_ : Aside0 (Kd.S k41 41 w53 w.heap.size (fun _ => True) (.slice Ao27 t472.length co27) t472) := ⟨by subst h_w53; refine kS_ ?_; exact Kd.S_mono (Kd.S_far (p := ⟨gb478, 0, none⟩) (Kd.S_far (p := ⟨gb478, 1, none⟩) (Kd.S_types HO_479002.out BK478.out (by decide)) (fun _ hk => hk.2) (.slice Ao51 y479.length co51)) (fun _ hk => hk.2) (.int .i64 (wrap64 (t468 + 1)))) (fun _ hk => trivial)⟩
        have n1_ : Aside0 (Kd.R (Kd.int .i64) 3 w53 w.heap.size (fun k_ => some k_ ≠ (.slice Ao51 y479.length co51 : Value).ownBlock) (.slice Ao28 t475.length co28) t475) := ⟨by subst h_w53; refine kR_ ?_; exact rfm_ ((Kd.R_types HO_479003.out BK478.out (by decide))) (fun _ hk => hk.1.2)⟩
        have n2_ : Aside0 (Kd.R (Kd.int .i64) 3 w53 w.heap.size (fun k_ => some k_ ≠ (.slice Ao28 t475.length co28 : Value).ownBlock) (.slice Ao51 y479.length co51) y479) := ⟨by subst h_w53; refine kR_ ?_; exact rfm_ ((Kd.R_types HO481.out BK478.out (by decide))) (fun _ hk => hk.1)⟩
        have n3_ : Aside0 (w53.heap[gb465]? = some (.cells #[.int .i64 a0_0, .slice A0_1 l0_1.length c0_1, .slice A0_2 l0_2.length c0_2, .slice A0_3 l0_3.length c0_3] 30 (0, 0))) := ⟨by subst h_w53; exact kf_ BK465.out⟩
        have n4_ : Aside0 (w53.heap[gb466]? = some (.cells #[.int .i64 0, .slice none 0 0, .slice none 0 0, .slice none 0 0] 30 (0, 0))) := ⟨by subst h_w53; exact kf_ BK466.out⟩
        have n5_ : Aside0 (w53.heap[gb478]? = some (.cells #[.int .i64 (wrap64 (t468 + 1)), .slice Ao51 y479.length co51, .slice Ao27 t472.length co27, .slice Ao28 t475.length co28] 30 (0, 0))) := ⟨by subst h_w53; refine kb_ ?_; refine blk_put (cs := #[.int .i64 t468, .slice Ao51 y479.length co51, .slice Ao27 t472.length co27, .slice Ao28 t475.length co28]) ?_ 0 _ rfl; refine kb_ ?_; refine blk_put (cs := #[.int .i64 t468, .slice Ao26 t469.length co26, .slice Ao27 t472.length co27, .slice Ao28 t475.length co28]) ?_ 1 _ rfl; refine kb_ ?_; exact BK478.out⟩
        have n6_ : Aside0 (Below w.heap.size w w53) := ⟨by subst h_w53; exact hbA_ HB.out⟩
        (try clear HO_479002); (try clear HO_479003); (try clear HO481); (try clear BK465); (try clear BK466); (try clear BK478); (try clear HB)
        (try rw [h_w53]); clear h_w53
        have HO_479002 := n0_; have HO_479003 := n1_; have HO481 := n2_; have BK465 := n3_; have BK466 := n4_; have BK478 := n5_; have HB := n6_; clear n0_ n1_ n2_ n3_ n4_ n5_ n6_; replace HO_479002 := Aside0.mk (Kd.S_drew HO_479002.out); replace HO_479003 := Aside0.mk (Kd.R_drew HO_479003.out); replace HO481 := Aside0.mk (Kd.R_drew HO481.out); replace BK465 := Aside0.mk (blk_drew BK465.out); replace BK466 := Aside0.mk (blk_drew BK466.out); replace BK478 := Aside0.mk (blk_drew BK478.out); replace HB := (bd_ HB)
        refine start_ (n := 10) (S := fun w' => w'.cell? ⟨gb478, 0, none⟩ = some (.int .i64 (wrap64 (t468 + 1))) ∧ w'.cell? ⟨gb478, 1, none⟩ = some (.slice Ao51 y479.length co51) ∧ w'.cell? ⟨gb478, 2, none⟩ = some (.slice Ao27 t472.length co27) ∧ w'.cell? ⟨gb478, 3, none⟩ = some (.slice Ao28 t475.length co28) ∧ w'.cell? ⟨gb465, 0, none⟩ = some (.int .i64 a0_0) ∧ w'.cell? ⟨gb465, 1, none⟩ = some (.slice A0_1 l0_1.length c0_1) ∧ w'.cell? ⟨gb465, 2, none⟩ = some (.slice A0_2 l0_2.length c0_2) ∧ w'.cell? ⟨gb465, 3, none⟩ = some (.slice A0_3 l0_3.length c0_3)) (ds := []) #[false, false, false, false, false, false, false, false, false, false] (by kernel_rfl) rfl rfl ⟨bc_ BK478 0, bc_ BK478 1, bc_ BK478 2, bc_ BK478 3, bc_ BK465 0, bc_ BK465 1, bc_ BK465 2, bc_ BK465 3⟩ (fun hHeld => ?_); refine with_tabW impl_ClientAsk.tab8 impl_ClientAsk.bits8 (fun HT_ HW_ => ?_)
        generalize w53.drew = w54 at HO_479002 HO_479003 HO481 BK465 BK466 BK478 HB hHeld ⊢
        refine pu_ (i := 2) (N := some 42) HT_ ?_; refine pu_ (i := 4) (N := some 44) HT_ ?_; refine tk_ (i := 0) (N := some 40) HT_ HW_ hHeld ?_; refine tk_ (i := 3) (N := some 43) HT_ HW_ hHeld ?_; refine pu_ (i := 5) (N := some 45) HT_ ?_
        refine on_ (i := 1) (N := some 41) HT_ (fun K hK => ?_)
        refine goes_ Try.func54 (by kernel_rfl) rfl #[.agg #[.int .i64 (wrap64 (t468 + 1)), .slice Ao51 y479.length co51, .slice Ao27 t472.length co27, .slice Ao28 t475.length co28]] (by rfl) rfl rfl ar_ ?_
        with_reducible refine (impl_Client_copy.calls kj17 (wrap64 (t468 + 1)) _ _ y479 _ _ t472 _ _ t475 t482 t483 t486 t489 _ ?side1 ?side2 ?side3 ?side4 ?side5 ?side6 A43.out).mono ?_
        (case side1 => exact kC_ (Kd.R_reads' HO481.out).2.2)
        (case side2 => exact (Kd.R_reads' HO481.out).2.1)
        (case side3 => exact kC_ (Kd.S_reads' HO_479002.out).2.2)
        (case side4 => exact (Kd.S_reads' HO_479002.out).2.1)
        (case side5 => exact kC_ (Kd.R_reads' HO_479003.out).2.2)
        (case side6 => exact (Kd.R_reads' HO_479003.out).2.1)
        rintro e w55 ⟨v484, v487, v490, rfl, ho0, ho1, ho2, hb⟩
        refine ⟨_, rfl, ?_⟩
        have HO485 := Aside0.mk (Kd.R_lower (Kd.R_new' (Kd.R_new' ho0 (Kd.R_lt (kR_ HO_479003.out))) (Kd.R_lt (kR_ HO481.out))) (below_size (hbA_ HB.out))); have HO488 := Aside0.mk (Kd.S_lower (Kd.S_new' ho1 (Kd.S_lt (kS_ HO_479002.out))) (below_size (hbA_ HB.out))); replace HO_479002 := Aside0.mk (Kd.S_elder' (kS_ HO_479002.out) (Kd.S_base ho1) hb); have HO491 := Aside0.mk (Kd.R_lower (Kd.R_new' (Kd.R_new' ho2 (Kd.R_lt (kR_ HO_479003.out))) (Kd.R_lt (kR_ HO481.out))) (below_size (hbA_ HB.out))); replace HO_479003 := Aside0.mk (Kd.R_mono (Kd.R_told (Kd.R_told (Kd.R_old (kR_ HO_479003.out) hb) (Kd.R_base ho0)) (Kd.R_base ho2)) (fun _ h_ => op1_ h_)); replace HO481 := Aside0.mk (Kd.R_mono (Kd.R_told (Kd.R_told (Kd.R_old (kR_ HO481.out) hb) (Kd.R_base ho0)) (Kd.R_base ho2)) (fun _ h_ => op1_ h_)); replace BK465 := (bbA_ BK465 hb); replace BK466 := (bbA_ BK466 hb); replace BK478 := (bbA_ BK478 hb); replace HB := (bs_ HB hb); (try clear hb); (try clear hb2); (try clear hk); (try clear hi); (try clear ho0); (try clear ho1); (try clear ho2)
        refine hK.out _ _ ⟨bc_ BK478 0, bc_ BK478 1, bc_ BK478 2, bc_ BK478 3, bc_ BK465 0, bc_ BK465 1, bc_ BK465 2, bc_ BK465 3⟩ (fun hHeld => ?_)
        clear hK K; refine nm_ 41 ?_
        refine on_ (i := 6) (N := some 46) HT_ (fun K hK => ?_)
        refine goes_ Try.func63 (by kernel_rfl) rfl #[.agg #[.int .i64 a0_0, .slice A1 l1.length c1]] (by rfl) rfl rfl ar_ ?_
        with_reducible refine (impl_WordsBytes.calls kj17 a0_0 _ _ l1 t492 _ ?side1 ?side2 A44.out).mono ?_
        (case side1 => exact kC_ (Kd.C_below HR1.out HB.out))
        (case side2 => exact HC1.out)
        rintro e w56 ⟨v493, rfl, ho0, hb⟩
        refine ⟨_, rfl, ?_⟩
        replace HO_479002 := Aside0.mk (Kd.S_elder' (kS_ HO_479002.out) (Kd.R_base ho0) hb); replace HO_479003 := Aside0.mk (Kd.R_below (kR_ HO_479003.out) hb); replace HO481 := Aside0.mk (Kd.R_below (kR_ HO481.out) hb); replace HO485 := Aside0.mk (Kd.R_below (kR_ HO485.out) hb); replace HO488 := Aside0.mk (Kd.S_elder' (kS_ HO488.out) (Kd.R_base ho0) hb); replace HO491 := Aside0.mk (Kd.R_below (kR_ HO491.out) hb); have HO494 := Aside0.mk (Kd.R_lower ho0 (below_size (hbA_ HB.out))); replace BK465 := (bbA_ BK465 hb); replace BK466 := (bbA_ BK466 hb); replace BK478 := (bbA_ BK478 hb); replace HB := (bs_ HB hb); (try clear hb); (try clear hb2); (try clear hk); (try clear hi); (try clear ho0)
        obtain ⟨Ao58, co58, eo58⟩ := Kd.R_slice HO485.out
        (first | subst eo58 | (injection eo58 with f1_ f2_ f3_; have f4_ := f1_.symm; have f5_ := f3_.symm; clear f1_ f2_ f3_; subst f4_; subst f5_))
        obtain ⟨Ao60, co60, eo60⟩ := Kd.S_slice HO488.out
        (first | subst eo60 | (injection eo60 with f1_ f2_ f3_; have f4_ := f1_.symm; have f5_ := f3_.symm; clear f1_ f2_ f3_; subst f4_; subst f5_))
        obtain ⟨Ao62, co62, eo62⟩ := Kd.R_slice HO491.out
        (first | subst eo62 | (injection eo62 with f1_ f2_ f3_; have f4_ := f1_.symm; have f5_ := f3_.symm; clear f1_ f2_ f3_; subst f4_; subst f5_))
        refine hK.out _ _ ⟨bc_ BK478 0, bc_ BK478 1, bc_ BK478 2, bc_ BK478 3, bc_ BK465 0, bc_ BK465 1, bc_ BK465 2, bc_ BK465 3⟩ (fun hHeld => ?_)
        clear hK K; refine nm_ 46 ?_
        refine on_ (i := 7) (N := none) HT_ (fun K hK => ?_)
        have hs57 : w56.cell? ⟨gb466, 0, none⟩ = some (.int .i64 0) := bc_ BK466 0
        have hfs57 := blk_frozen BK466.out 0
        have hns57_0 := NB465_466.out; have hns57_2 := NB478_466.out; have hms57_0 := NB466_465.out; have hms57_2 := NB466_478.out
        have hs59 : w56.cell? ⟨gb466, 1, none⟩ = some (.slice none 0 0) := bc_ BK466 1
        have hfs59 := blk_frozen BK466.out 1
        have hns59_0 := NB465_466.out; have hns59_2 := NB478_466.out; have hms59_0 := NB466_465.out; have hms59_2 := NB466_478.out
        have hs61 : w56.cell? ⟨gb466, 2, none⟩ = some (.slice none 0 0) := bc_ BK466 2
        have hfs61 := blk_frozen BK466.out 2
        have hns61_0 := NB465_466.out; have hns61_2 := NB478_466.out; have hms61_0 := NB466_465.out; have hms61_2 := NB466_478.out
        have hs63 : w56.cell? ⟨gb466, 3, none⟩ = some (.slice none 0 0) := bc_ BK466 3
        have hfs63 := blk_frozen BK466.out 3
        have hns63_0 := NB465_466.out; have hns63_2 := NB478_466.out; have hms63_0 := NB466_465.out; have hms63_2 := NB466_478.out
        refine skip_ (w1 := ?_) (by rfl) rfl ?_ ?_
        rotate_left
        ·go_simp
         rfl
        refine hK.out _ _ ⟨((cell_far (p := ⟨gb466, _, none⟩) NB478_466.out _).trans (((cell_far (p := ⟨gb466, _, none⟩) NB478_466.out _).trans (((cell_far (p := ⟨gb466, _, none⟩) NB478_466.out _).trans (((cell_far (p := ⟨gb466, _, none⟩) NB478_466.out _).trans (hHeld.1)))))))), ((cell_far (p := ⟨gb466, _, none⟩) NB478_466.out _).trans (((cell_far (p := ⟨gb466, _, none⟩) NB478_466.out _).trans (((cell_far (p := ⟨gb466, _, none⟩) NB478_466.out _).trans (((cell_far (p := ⟨gb466, _, none⟩) NB478_466.out _).trans (hHeld.2.1)))))))), ((cell_far (p := ⟨gb466, _, none⟩) NB478_466.out _).trans (((cell_far (p := ⟨gb466, _, none⟩) NB478_466.out _).trans (((cell_far (p := ⟨gb466, _, none⟩) NB478_466.out _).trans (((cell_far (p := ⟨gb466, _, none⟩) NB478_466.out _).trans (hHeld.2.2.1)))))))), ((cell_far (p := ⟨gb466, _, none⟩) NB478_466.out _).trans (((cell_far (p := ⟨gb466, _, none⟩) NB478_466.out _).trans (((cell_far (p := ⟨gb466, _, none⟩) NB478_466.out _).trans (((cell_far (p := ⟨gb466, _, none⟩) NB478_466.out _).trans (hHeld.2.2.2.1)))))))), ((cell_far (p := ⟨gb466, _, none⟩) NB465_466.out _).trans (((cell_far (p := ⟨gb466, _, none⟩) NB465_466.out _).trans (((cell_far (p := ⟨gb466, _, none⟩) NB465_466.out _).trans (((cell_far (p := ⟨gb466, _, none⟩) NB465_466.out _).trans (hHeld.2.2.2.2.1)))))))), ((cell_far (p := ⟨gb466, _, none⟩) NB465_466.out _).trans (((cell_far (p := ⟨gb466, _, none⟩) NB465_466.out _).trans (((cell_far (p := ⟨gb466, _, none⟩) NB465_466.out _).trans (((cell_far (p := ⟨gb466, _, none⟩) NB465_466.out _).trans (hHeld.2.2.2.2.2.1)))))))), ((cell_far (p := ⟨gb466, _, none⟩) NB465_466.out _).trans (((cell_far (p := ⟨gb466, _, none⟩) NB465_466.out _).trans (((cell_far (p := ⟨gb466, _, none⟩) NB465_466.out _).trans (((cell_far (p := ⟨gb466, _, none⟩) NB465_466.out _).trans (hHeld.2.2.2.2.2.2.1)))))))), ((cell_far (p := ⟨gb466, _, none⟩) NB465_466.out _).trans (((cell_far (p := ⟨gb466, _, none⟩) NB465_466.out _).trans (((cell_far (p := ⟨gb466, _, none⟩) NB465_466.out _).trans (((cell_far (p := ⟨gb466, _, none⟩) NB465_466.out _).trans (hHeld.2.2.2.2.2.2.2))))))))⟩ (fun hHeld => ?_)
        clear hK K; refine pu_ (i := 8) (N := some 5) HT_ ?_; refine pu_ (i := 9) (N := some 6) HT_ ?_
        refine done_ (done_of HT_.out (by kernel_rfl)) ?_
        try go_wp2
        refine bodyPost_ret (results_ctt rfl _ _ gb466 30 #[.int .i64 t482, .slice Ao58 t483.length co58, .slice Ao60 t486.length co60, .slice Ao62 t489.length co62] (0, 0) _ rfl (by refine kb_ ?_; refine pz4 (cs := #[.int .i64 0, .slice none 0 0, .slice none 0 0, .slice none 0 0]) ?_; refine kb_ ?_; exact BK466.out) Try.underlying30 rfl (by kernel_rfl)) rfl ?_
        exact ⟨_, _, _, _, by first | rfl | (simp [errW_none, errW_some] <;> rfl) | (simp [*, errW_none, errW_some] <;> rfl), by refine kR_ ?_; exact rfm_ ((Kd.R_types HO485.out BK466.out (by decide))) (fun _ hk => hk.1.1.1), by refine kS_ ?_; exact Kd.S_mono (Kd.S_far (p := ⟨gb466, 3, none⟩) (Kd.S_far (p := ⟨gb466, 2, none⟩) (Kd.S_far (p := ⟨gb466, 1, none⟩) (Kd.S_far (p := ⟨gb466, 0, none⟩) (Kd.S_types HO488.out BK466.out (by decide)) (fun _ hk => hk.2) (.int .i64 t482)) (fun _ hk => hk.2) (.slice Ao58 t483.length co58)) (fun _ hk => hk.2) (.slice Ao60 t486.length co60)) (fun _ hk => hk.2) (.slice Ao62 t489.length co62)) (fun _ hk => hk.1.2), by refine kR_ ?_; exact rfm_ ((Kd.R_types HO491.out BK466.out (by decide))) (fun _ hk => hk.1.1.1), by refine kR_ ?_; exact rfm_ ((Kd.R_types HO494.out BK466.out (by decide))) (fun _ hk => trivial), hbA_ HB.out⟩
       ·rw [if_neg c42] at H
        exact absurd H (by simp)
end Go.Proofs.Ytegchbdjbefdbaa.PFnClientAsk
