/- Printed by wip/xp/xprint.sh out of the translation, for this claim: what each function answers, as a plain function, and that the machine does just that. No condition. -/
import Derived.Test.YtjiodkbbmhhccabPFnMouthWritex0
import Derived.Test.YtjiodkbbmhhccabPFnMouthWritex1
import Derived.Test.YtjiodkbbmhhccabPFnMouthWritex9
import Derived.Test.YtjiodkbbmhhccabPFnMouthWritex10
namespace Go.Proofs.Ytjiodkbbmhhccab.PFnMouthWrite
open Go.RowKit Go.Proofs.YtjiodkbbmhhccabW.PrintWords Go.Proofs.YtjiodkbbmhhccabW.PrintLast Go.Proofs.YtjiodkbbmhhccabW.PrintMore
attribute [local go_sem] max2_int min2_int max_two min_two max_three min_three max_four min_four   -- for this text's walks alone
set_option linter.unusedVariables false
set_option linter.unusedSimpArgs false

attribute [local go_sem high] eqA60
/-! ### impl_Mouth_copy: function 32 -/
def impl_Mouth_copy.f (a0_0 : Int) (l0_1 : List Int) (a0_2 : Int) (a0_3 : Int) (l0_4 : List (S60)) : Option (Int × List Int × Int × Int × (List (S60))) := (impl_clone_byte.f l0_1).bind fun t358 => ((impl_Range_51.f l0_4).bind fun t361 => (some (a0_0, t358, a0_2, a0_3, t361)))
def impl_Mouth_copy.T1 : Bool × List (List Nat × List Nat) := (true, [([], []), ([0], [0]), ([1], [1]), ([], []), ([3], [3]), ([4, 2], [4]), ([0, 1, 2, 3, 4], []), ([6, 2, 5, 0, 1, 2, 3, 4], [2, 6]), ([0, 1, 2, 3, 4, 5, 6, 7], []), ([8, 5, 7, 0, 1, 2, 3, 4, 5, 6, 7], [5, 8])])
def impl_Mouth_copy.B1 : List Nat := [0, 1, 3, 0, 8, 31, 31, 127, 255, 511]
theorem impl_Mouth_copy.tab1 : rtab .any (opsOf Try.f32 1) = impl_Mouth_copy.T1 := by kernel_rfl
theorem impl_Mouth_copy.bits1 : waitsOk impl_Mouth_copy.T1.2 impl_Mouth_copy.B1 = true := by kernel_rfl
set_option maxHeartbeats 8000000 in
set_option maxRecDepth 100000 in
theorem impl_Mouth_copy.calls (a0_0 : Int) (A0_1 : Option Addr) (c0_1 : Nat) (l0_1 : List Int) (a0_2 : Int) (a0_3 : Int) (A0_4 : Option Addr) (c0_4 : Nat) (l0_4 : List (S60)) (r1 : Int) (r2 : List Int) (r3 : Int) (r4 : Int) (r5 : List (S60)) (w : World) (hr0_1 : Kd.C (Kd.int .u8) w A0_1 l0_1.length l0_1) (hc0_1 : l0_1.length ≤ c0_1) (hr0_4 : Kd.C k60 w A0_4 l0_4.length l0_4) (hc0_4 : l0_4.length ≤ c0_4) (h : impl_Mouth_copy.f a0_0 l0_1 a0_2 a0_3 l0_4 = some (r1, r2, r3, r4, r5)) :
    Calls Try.prog 32 #[.agg #[.int .i64 a0_0, .slice A0_1 l0_1.length c0_1, .int .i64 a0_2, .int .i64 a0_3, .slice A0_4 l0_4.length c0_4]] w fun e w' => ∃ v1_ v4_ : Value, e = .returned (.agg #[.int .i64 r1, v1_, .int .i64 r3, .int .i64 r4, v4_]) ∧ Kd.R (Kd.int .u8) 5 w' w.heap.size (fun _ => True) v1_ r2 ∧ Kd.R k60 60 w' w.heap.size (fun _ => True) v4_ r5 ∧ Below w.heap.size w w' := by
  have hu25 := Try.underlying25
  have HR0_1 := Aside0.mk hr0_1
  have HC0_1 := Aside0.mk hc0_1
  clear hr0_1 hc0_1
  have HR0_4 := Aside0.mk hr0_4
  have HC0_4 := Aside0.mk hc0_4
  clear hr0_4 hc0_4
  have HB := Aside0.mk (Below.refl w.heap.size w)
  have H : ((impl_clone_byte.f l0_1).bind fun t358 => ((impl_Range_51.f l0_4).bind fun t361 => (some (a0_0, t358, a0_2, a0_3, t361)))) = some (r1, r2, r3, r4, r5) := h
  clear h
  replace H := Option.bind_eq_some_iff.mp H
  obtain ⟨t358, A20, H⟩ := H
  replace H : ((impl_Range_51.f l0_4).bind fun t361 => (some (a0_0, t358, a0_2, a0_3, t361))) = some (r1, r2, r3, r4, r5) := H
  have A2 := Aside0.mk A20
  clear A20
  replace H := Option.bind_eq_some_iff.mp H
  obtain ⟨t361, A30, H⟩ := H
  replace H : (some (a0_0, t358, a0_2, a0_3, t361)) = some (r1, r2, r3, r4, r5) := H
  have A3 := Aside0.mk A30
  clear A30
  simp only [Option.some.injEq, Prod.mk.injEq] at H
  obtain ⟨rfl, rfl, rfl, rfl, rfl⟩ := H
  go_enter Try.func32, Try.ntmps32
  try go_wp2_with (first | ((with_reducible refine gate_dst (N := 1) rfl ?_); refine box_event ?hg (N := 1) ?hd (cs := #[.int .i64 a0_0, .slice A0_1 l0_1.length c0_1, .int .i64 a0_2, .int .i64 a0_3, .slice A0_4 l0_4.length c0_4]) (t := 25) ?hr ?_; (case hd => rfl); (case hg => rfl); (case hr => first | (go_simp; done) | (go_simp; rfl)); intro gb356 hg w4 hbox hb; have n0_ := Aside0.mk (below_step (hb0_ HB.out) hb); have n1_ := Aside0.mk (hbox); have n2_ := Aside0.mk ((by rw [hg]; exact (below_size (hb0_ HB.out)) : w.heap.size ≤ gb356)); have n3_ := Aside0.mk ((by rw [hg]; exact (below_size (hb0_ HB.out)) : w.heap.size ≤ gb356)); clear HB; have HB := n0_; have BK356 := n1_; have GW356 := n2_; have GE356 := n3_; clear n0_ n1_ n2_ n3_; clear hb hbox hg) | ((with_reducible refine gate_dst (N := 2) rfl ?_); refine box_event ?hg (N := 2) ?hd (cs := #[.int .i64 0, .slice none 0 0, .int .i64 0, .int .i64 0, .slice none 0 0]) (t := 25) ?hr ?_; (case hd => rfl); (case hg => rfl); (case hr => first | (go_simp; done) | (go_simp; rfl)); intro gb357 hg w5 hbox hb; have n0_ := Aside0.mk (blk_below (g := gb356) (o := .cells #[.int .i64 a0_0, .slice A0_1 l0_1.length c0_1, .int .i64 a0_2, .int .i64 a0_3, .slice A0_4 l0_4.length c0_4] 25 (0, 0)) (kb_ BK356.out) hb); have n1_ := Aside0.mk (below_step (hb1_ HB.out GE356.out) hb); have n2_ := Aside0.mk (hbox); have n3_ := Aside0.mk ((by rw [hg]; exact (below_size (hb1_ HB.out GE356.out)) : w.heap.size ≤ gb357)); have n4_ := Aside0.mk ((by rw [hg]; exact (below_size (hb1_ HB.out GE356.out)) : w.heap.size ≤ gb357)); have n5_ := Aside0.mk ((by rw [hg]; exact Nat.ne_of_lt (blk_lt (g := gb356) (o := .cells #[.int .i64 a0_0, .slice A0_1 l0_1.length c0_1, .int .i64 a0_2, .int .i64 a0_3, .slice A0_4 l0_4.length c0_4] 25 (0, 0)) (kb_ BK356.out)) : gb356 ≠ gb357)); have n6_ := Aside0.mk ((by rw [hg]; exact Nat.ne_of_gt (blk_lt (g := gb356) (o := .cells #[.int .i64 a0_0, .slice A0_1 l0_1.length c0_1, .int .i64 a0_2, .int .i64 a0_3, .slice A0_4 l0_4.length c0_4] 25 (0, 0)) (kb_ BK356.out)) : gb357 ≠ gb356)); clear BK356; clear HB; have BK356 := n0_; have HB := n1_; have BK357 := n2_; have GW357 := n3_; have GE357 := n4_; have NB356_357 := n5_; have NB357_356 := n6_; clear n0_ n1_ n2_ n3_ n4_ n5_ n6_; clear hb hbox hg))
  have n0_ := Aside0.mk (blk_drew BK356.out)
  have n1_ := Aside0.mk (blk_drew BK357.out)
  have n2_ := Aside0.mk (below_drew1 HB.out)
  clear BK356
  clear BK357
  clear HB
  have BK356 := n0_
  have BK357 := n1_
  have HB := n2_
  clear n0_ n1_ n2_
  refine start_ (n := 10) (S := fun w' => w'.cell? ⟨gb356, 0, none⟩ = some (.int .i64 a0_0) ∧ w'.cell? ⟨gb356, 1, none⟩ = some (.slice A0_1 l0_1.length c0_1) ∧ w'.cell? ⟨gb356, 2, none⟩ = some (.int .i64 a0_2) ∧ w'.cell? ⟨gb356, 3, none⟩ = some (.int .i64 a0_3) ∧ w'.cell? ⟨gb356, 4, none⟩ = some (.slice A0_4 l0_4.length c0_4)) (ds := [7, 9]) #[false, false, false, false, false, false, false, false, false, false] (by kernel_rfl) rfl rfl ⟨(blk_cell BK356.out 0).trans rfl, (blk_cell BK356.out 1).trans rfl, (blk_cell BK356.out 2).trans rfl, (blk_cell BK356.out 3).trans rfl, (blk_cell BK356.out 4).trans rfl⟩ (fun hHeld => ?_); refine with_tabW impl_Mouth_copy.tab1 impl_Mouth_copy.bits1 (fun HT_ HW_ => ?_)
  generalize w5.drew = w6 at BK356 BK357 HB hHeld ⊢
  refine pu_ (i := 0) (N := some 3) HT_ ?_
  refine pu_ (i := 3) (N := some 6) HT_ ?_
  refine tk_ (i := 1) (N := some 4) HT_ HW_ hHeld ?_
  refine tk_ (i := 4) (N := some 7) HT_ HW_ hHeld ?_
  refine on_ (i := 2) (N := some 5) HT_ (fun K hK => ?_)
  refine goes_ Try.func50 (by kernel_rfl) rfl #[.slice A0_1 l0_1.length c0_1] (by rfl) rfl rfl ar_ ?_
  with_reducible refine (impl_clone_byte.calls _ _ l0_1 t358 _ ?side1 ?side2 A2.out).mono ?_
  (case side1 => exact kC_ (Kd.C_below HR0_1.out HB.out))
  (case side2 => exact HC0_1.out)
  rintro e w7 ⟨v359, rfl, ho0, hb⟩
  refine ⟨_, rfl, ?_⟩
  have n0_ := Aside0.mk (Kd.R_lower ho0 (below_size (hb2_ HB.out GE356.out GE357.out)))
  have n1_ := Aside0.mk (blk_below (g := gb356) (o := .cells #[.int .i64 a0_0, .slice A0_1 l0_1.length c0_1, .int .i64 a0_2, .int .i64 a0_3, .slice A0_4 l0_4.length c0_4] 25 (0, 0)) (kb_ BK356.out) hb)
  have n2_ := Aside0.mk (blk_below (g := gb357) (o := .cells #[.int .i64 0, .slice none 0 0, .int .i64 0, .int .i64 0, .slice none 0 0] 25 (0, 0)) (kb_ BK357.out) hb)
  have n3_ := Aside0.mk (below_step (hb2_ HB.out GE356.out GE357.out) hb)
  clear BK356
  clear BK357
  clear HB
  have HO360 := n0_
  have BK356 := n1_
  have BK357 := n2_
  have HB := n3_
  clear n0_ n1_ n2_ n3_
  (try clear hb)
  (try clear hb2)
  (try clear hk)
  (try clear hi)
  (try clear ho0)
  refine hK.out _ _ ⟨(blk_cell BK356.out 0).trans rfl, (blk_cell BK356.out 1).trans rfl, (blk_cell BK356.out 2).trans rfl, (blk_cell BK356.out 3).trans rfl, (blk_cell BK356.out 4).trans rfl⟩ (fun hHeld => ?_)
  clear hK K
  refine nm_ 5 ?_
  refine pu_ (i := 6) (N := some 9) HT_ ?_
  refine on_ (i := 5) (N := some 8) HT_ (fun K hK => ?_)
  refine goes_ Try.func51 (by kernel_rfl) rfl #[.slice A0_4 l0_4.length c0_4] (by rfl) rfl rfl ar_ ?_
  with_reducible refine (impl_Range_51.calls _ _ l0_4 t361 _ ?side1 ?side2 A3.out).mono ?_
  (case side1 => exact kC_ (Kd.C_below HR0_4.out HB.out))
  (case side2 => exact HC0_4.out)
  rintro e w8 ⟨v362, rfl, ho0, hb⟩
  refine ⟨_, rfl, ?_⟩
  have n0_ := Aside0.mk (Kd.R_below (kR_ HO360.out) hb)
  have n1_ := Aside0.mk (Kd.R_lower ho0 (below_size (hb2_ HB.out GE356.out GE357.out)))
  have n2_ := Aside0.mk (blk_below (g := gb356) (o := .cells #[.int .i64 a0_0, .slice A0_1 l0_1.length c0_1, .int .i64 a0_2, .int .i64 a0_3, .slice A0_4 l0_4.length c0_4] 25 (0, 0)) (kb_ BK356.out) hb)
  have n3_ := Aside0.mk (blk_below (g := gb357) (o := .cells #[.int .i64 0, .slice none 0 0, .int .i64 0, .int .i64 0, .slice none 0 0] 25 (0, 0)) (kb_ BK357.out) hb)
  have n4_ := Aside0.mk (below_step (hb2_ HB.out GE356.out GE357.out) hb)
  clear HO360
  clear BK356
  clear BK357
  clear HB
  have HO360 := n0_
  have HO363 := n1_
  have BK356 := n2_
  have BK357 := n3_
  have HB := n4_
  clear n0_ n1_ n2_ n3_ n4_
  (try clear hb)
  (try clear hb2)
  (try clear hk)
  (try clear hi)
  (try clear ho0)
  obtain ⟨Ao9, co9, eo9⟩ := Kd.R_slice HO360.out
  (first | subst eo9 | (injection eo9 with f1_ f2_ f3_; have f4_ := f1_.symm; have f5_ := f3_.symm; clear f1_ f2_ f3_; subst f4_; subst f5_))
  obtain ⟨Ao11, co11, eo11⟩ := Kd.R_slice HO363.out
  (first | subst eo11 | (injection eo11 with f1_ f2_ f3_; have f4_ := f1_.symm; have f5_ := f3_.symm; clear f1_ f2_ f3_; subst f4_; subst f5_))
  refine hK.out _ _ ⟨(blk_cell BK356.out 0).trans rfl, (blk_cell BK356.out 1).trans rfl, (blk_cell BK356.out 2).trans rfl, (blk_cell BK356.out 3).trans rfl, (blk_cell BK356.out 4).trans rfl⟩ (fun hHeld => ?_)
  clear hK K
  refine nm_ 8 ?_
  refine last_ (i := 7) (N := none) #[true, true, true, true, true, true, true, true, false, false] rfl rfl (one_of HT_.out (by kernel_rfl)) (by decide) (fun K hK => ?_)
  have hs10 : w8.cell? ⟨gb356, 1, none⟩ = some (.slice A0_1 l0_1.length c0_1) := (blk_cell BK356.out 1).trans rfl
  have hfs10 := blk_frozen BK356.out 1
  have hns10_1 := NB357_356.out
  have hms10_1 := NB356_357.out
  refine skip_ (w1 := ?_) (by rfl) rfl ?_ ?_
  rotate_left
  · go_simp
    rfl
  refine hK.out _ _ ?_
  clear hK K
  refine pu_ (i := 8) (N := some 10) HT_ ?_
  refine last_ (i := 9) (N := none) #[true, true, true, true, true, true, true, true, true, true] rfl rfl (one_of HT_.out (by kernel_rfl)) (by decide) (fun K hK => ?_)
  have hs12 : w8.cell? ⟨gb356, 4, none⟩ = some (.slice A0_4 l0_4.length c0_4) := (blk_cell BK356.out 4).trans rfl
  have hfs12 := blk_frozen BK356.out 4
  have hns12_1 := NB357_356.out
  have hms12_1 := NB356_357.out
  refine skip_ (w1 := ?_) (by rfl) rfl ?_ ?_
  rotate_left
  · go_simp
    rfl
  refine hK.out _ _ ?_
  clear hK K
  refine done_ (done_of HT_.out (by kernel_rfl)) ?_
  have hnb13 := NB356_357.out
  have hnc13 := NB357_356.out
  have hcz14_0 : w8.cell? ⟨gb356, 0, none⟩ = some (.int .i64 a0_0) := (blk_cell BK356.out 0).trans rfl
  have hcz14_1 : w8.cell? ⟨gb356, 1, none⟩ = some (.slice A0_1 l0_1.length c0_1) := (blk_cell BK356.out 1).trans rfl
  have hcz14_2 : w8.cell? ⟨gb356, 2, none⟩ = some (.int .i64 a0_2) := (blk_cell BK356.out 2).trans rfl
  have hcz14_3 : w8.cell? ⟨gb356, 3, none⟩ = some (.int .i64 a0_3) := (blk_cell BK356.out 3).trans rfl
  have hcz14_4 : w8.cell? ⟨gb356, 4, none⟩ = some (.slice A0_4 l0_4.length c0_4) := (blk_cell BK356.out 4).trans rfl
  have hfz14_0 := blk_frozen BK356.out 0
  have hfz14_1 := blk_frozen BK356.out 1
  have hfz14_2 := blk_frozen BK356.out 2
  have hfz14_3 := blk_frozen BK356.out 3
  have hfz14_4 := blk_frozen BK356.out 4
  have hcz15_0 : w8.cell? ⟨gb357, 0, none⟩ = some (.int .i64 0) := (blk_cell BK357.out 0).trans rfl
  have hcz15_1 : w8.cell? ⟨gb357, 1, none⟩ = some (.slice none 0 0) := (blk_cell BK357.out 1).trans rfl
  have hcz15_2 : w8.cell? ⟨gb357, 2, none⟩ = some (.int .i64 0) := (blk_cell BK357.out 2).trans rfl
  have hcz15_3 : w8.cell? ⟨gb357, 3, none⟩ = some (.int .i64 0) := (blk_cell BK357.out 3).trans rfl
  have hcz15_4 : w8.cell? ⟨gb357, 4, none⟩ = some (.slice none 0 0) := (blk_cell BK357.out 4).trans rfl
  have hfz15_0 := blk_frozen BK357.out 0
  have hfz15_1 := blk_frozen BK357.out 1
  have hfz15_2 := blk_frozen BK357.out 2
  have hfz15_3 := blk_frozen BK357.out 3
  have hfz15_4 := blk_frozen BK357.out 4
  try go_wp2
  refine bodyPost_ret (results_cell_row rfl _ _ gb357 25 #[.int .i64 a0_0, .slice Ao9 t358.length co9, .int .i64 a0_2, .int .i64 a0_3, .slice Ao11 t361.length co11] (0, 0) _ rfl (by refine kb_ ?_; refine blk_put (cs := #[.int .i64 a0_0, .slice Ao9 t358.length co9, .int .i64 a0_2, .int .i64 a0_3, .slice none 0 0]) ?_ 4 _ rfl; refine kb_ ?_; refine blk_put (cs := #[.int .i64 a0_0, .slice Ao9 t358.length co9, .int .i64 a0_2, .int .i64 0, .slice none 0 0]) ?_ 3 _ rfl; refine kb_ ?_; refine blk_put (cs := #[.int .i64 a0_0, .slice Ao9 t358.length co9, .int .i64 0, .int .i64 0, .slice none 0 0]) ?_ 2 _ rfl; refine kb_ ?_; refine blk_put (cs := #[.int .i64 a0_0, .slice none 0 0, .int .i64 0, .int .i64 0, .slice none 0 0]) ?_ 1 _ rfl; refine kb_ ?_; refine blk_put (cs := #[.int .i64 0, .slice none 0 0, .int .i64 0, .int .i64 0, .slice none 0 0]) ?_ 0 _ rfl; refine kb_ ?_; refine blk_far ?_ NB357_356.out _; refine kb_ ?_; refine blk_far ?_ NB357_356.out _; refine kb_ ?_; exact BK357.out) Try.underlying25 rfl (by kernel_rfl)) rfl ?_
  exact ⟨_, _, by first | rfl | (simp [errW_none, errW_some] <;> rfl) | (simp [*, errW_none, errW_some] <;> rfl), by refine kR_ ?_; exact Kd.R_mono (Kd.R_f gb357 4 (.slice Ao11 t361.length co11) (Kd.R_f gb357 3 (.int .i64 a0_3) (Kd.R_f gb357 2 (.int .i64 a0_2) (Kd.R_f gb357 1 (.slice Ao9 t358.length co9) (Kd.R_f gb357 0 (.int .i64 a0_0) (Kd.R_far (p := ⟨gb356, 4, none⟩) (Kd.R_far (p := ⟨gb356, 1, none⟩) (Kd.R_types (Kd.R_types HO360.out BK356.out (by decide)) BK357.out (by decide)) (fun _ hk => hk.1.2) (.slice Ao9 t358.length co9)) (fun _ hk => hk.1.2) (.slice Ao11 t361.length co11))))))) (fun _ hk => trivial), by refine kR_ ?_; exact Kd.R_mono (Kd.R_f gb357 4 (.slice Ao11 t361.length co11) (Kd.R_f gb357 3 (.int .i64 a0_3) (Kd.R_f gb357 2 (.int .i64 a0_2) (Kd.R_f gb357 1 (.slice Ao9 t358.length co9) (Kd.R_f gb357 0 (.int .i64 a0_0) (Kd.R_far (p := ⟨gb356, 4, none⟩) (Kd.R_far (p := ⟨gb356, 1, none⟩) (Kd.R_types (Kd.R_types HO363.out BK356.out (by decide)) BK357.out (by decide)) (fun _ hk => hk.1.2) (.slice Ao9 t358.length co9)) (fun _ hk => hk.1.2) (.slice Ao11 t361.length co11))))))) (fun _ hk => trivial), by repeat (first | (with_reducible first | exact HB.out | apply below_alloc | apply pw_below_drewN | apply below_drew1 | refine below_set ?_ GE356.out | refine below_set ?_ GE357.out) | exact HB.out)⟩

/-! ### impl_MouthWrite: function 7 -/
def impl_MouthWrite.f (k : Nat) (a0_0 : Int) (l0_1 : List Int) (a0_2 : Int) (a0_3 : Int) (l0_4 : List (S60)) (l1 : List Int) : Option (Int × List Int × Int × Int × (List (S60)) × Int) := (impl_MouthOk.f k a0_0 l0_1 a0_2 a0_3 l0_4).bind fun t366 => (if t366 = true then (if 0 ≤ (mn (l1.length : Int) (wrap64 (32 - (l0_1.length : Int)))) then (if (mn (l1.length : Int) (wrap64 (32 - (l0_1.length : Int)))) ≤ (l1.length : Int) then ((slices_Concat_byte_byte.f k (([l0_1, (l1.take ((mn (l1.length : Int) (wrap64 (32 - (l0_1.length : Int)))) : Int).toNat)] : List (List Int)))).bind fun t376 => ((impl_Mouth_copy.f a0_0 t376 a0_2 a0_3 l0_4).bind fun bt379 => (some (bt379.1, bt379.2.1, bt379.2.2.1, bt379.2.2.2.1, bt379.2.2.2.2, mn (l1.length : Int) (wrap64 (32 - (l0_1.length : Int))))))) else (none)) else (none)) else (some (0, ([] : List Int), 0, 0, ([] : List (S60)), 0)))
theorem impl_MouthWrite.mono : ∀ a0 a1 a2 a3 a4 a5 k, LeO (impl_MouthWrite.f k a0 a1 a2 a3 a4 a5) (impl_MouthWrite.f (k + 1) a0 a1 a2 a3 a4 a5) := by
  intro a0 a1 a2 a3 a4 a5 k
  unfold impl_MouthWrite.f
  repeat' first
      | (with_reducible exact impl_MouthOk.mono _ _ _ _ _ _)
      | (with_reducible exact slices_Concat_byte_byte.mono _ _)
      | (with_reducible exact LeO.refl _)
      | (with_reducible exact LeO.none _)
      | (with_reducible refine LeO.ite ?_ ?_)
      | (with_reducible refine LeO.bind ?_ (fun _ => ?_))
      | exact impl_MouthOk.mono _ _ _ _ _ _
      | exact slices_Concat_byte_byte.mono _ _
      | exact LeO.none _
      | refine LeO.ite ?_ ?_
      | refine LeO.bind ?_ (fun _ => ?_)
def impl_MouthWrite.T5 : Bool × List (List Nat × List Nat) := (true, [([], []), ([0], [0]), ([], []), ([], []), ([2, 3], [2, 3]), ([1, 4], [1, 4]), ([5], [5]), ([0, 1, 2, 3, 4, 5, 6], []), ([7, 6, 6, 0, 1, 2, 3, 4, 5, 6], [6, 7])])
def impl_MouthWrite.B5 : List Nat := [0, 1, 0, 0, 12, 31, 63, 127, 255]
theorem impl_MouthWrite.tab5 : rtab .any (opsOf Try.f7 5) = impl_MouthWrite.T5 := by kernel_rfl
theorem impl_MouthWrite.bits5 : waitsOk impl_MouthWrite.T5.2 impl_MouthWrite.B5 = true := by kernel_rfl
set_option maxHeartbeats 8000000 in
set_option maxRecDepth 100000 in
theorem impl_MouthWrite.callsV (k : Nat) (a0_0 : Int) (P0_1_ : Nat → Prop) (A0_1 : Option Addr) (c0_1 : Nat) (l0_1 : List Int) (a0_2 : Int) (a0_3 : Int) (A0_4 : Option Addr) (c0_4 : Nat) (l0_4 : List (S60)) (P1_ : Nat → Prop) (A1 : Option Addr) (c1 : Nat) (l1 : List Int) (r1 : Int) (r2 : List Int) (r3 : Int) (r4 : Int) (r5 : List (S60)) (r6 : Int) (w : World) (hs0_1 : Kd.V (Kd.int .u8) 5 w w.heap.size (fun k_ => P0_1_ k_) (.slice A0_1 l0_1.length c0_1) l0_1) (hr0_4 : Kd.C k60 w A0_4 l0_4.length l0_4) (hc0_4 : l0_4.length ≤ c0_4) (hs1 : Kd.V (Kd.int .u8) 5 w w.heap.size (fun k_ => P1_ k_) (.slice A1 l1.length c1) l1) (h : impl_MouthWrite.f k a0_0 l0_1 a0_2 a0_3 l0_4 l1 = some (r1, r2, r3, r4, r5, r6)) :
    Calls Try.prog 7 #[.agg #[.int .i64 a0_0, .slice A0_1 l0_1.length c0_1, .int .i64 a0_2, .int .i64 a0_3, .slice A0_4 l0_4.length c0_4], .slice A1 l1.length c1] w fun e w' => ∃ v1_ v4_ : Value, e = .returned (.tuple #[.agg #[.int .i64 r1, v1_, .int .i64 r3, .int .i64 r4, v4_], .int .i64 r6]) ∧ Kd.R (Kd.int .u8) 5 w' w.heap.size (fun k_ => (w.heap.size ≤ k_)) v1_ r2 ∧ Kd.R k60 60 w' w.heap.size (fun k_ => (w.heap.size ≤ k_)) v4_ r5 ∧ Below w.heap.size w w' := by
  have hu25 := Try.underlying25
  have HO0_1 := Aside0.mk (show Kd.V (Kd.int .u8) 5 w w.heap.size (fun k_ => ((P0_1_ k_ ∨ P1_ k_) ∨ w.heap.size ≤ k_)) (.slice A0_1 l0_1.length c0_1) l0_1 from Kd.V_mono hs0_1 (fun k_ hk => .inl (.inl hk)))
  have HR0_4 := Aside0.mk hr0_4
  have HC0_4 := Aside0.mk hc0_4
  clear hr0_4 hc0_4
  have HO1 := Aside0.mk (show Kd.V (Kd.int .u8) 5 w w.heap.size (fun k_ => ((P0_1_ k_ ∨ P1_ k_) ∨ w.heap.size ≤ k_)) (.slice A1 l1.length c1) l1 from Kd.V_mono hs1 (fun k_ hk => .inl (.inr hk)))
  have HB := Aside0.mk (Below.refl w.heap.size w)
  have H : ((impl_MouthOk.f k a0_0 l0_1 a0_2 a0_3 l0_4).bind fun t366 => (if t366 = true then (if 0 ≤ (mn (l1.length : Int) (wrap64 (32 - (l0_1.length : Int)))) then (if (mn (l1.length : Int) (wrap64 (32 - (l0_1.length : Int)))) ≤ (l1.length : Int) then ((slices_Concat_byte_byte.f k (([l0_1, (l1.take ((mn (l1.length : Int) (wrap64 (32 - (l0_1.length : Int)))) : Int).toNat)] : List (List Int)))).bind fun t376 => ((impl_Mouth_copy.f a0_0 t376 a0_2 a0_3 l0_4).bind fun bt379 => (some (bt379.1, bt379.2.1, bt379.2.2.1, bt379.2.2.2.1, bt379.2.2.2.2, mn (l1.length : Int) (wrap64 (32 - (l0_1.length : Int))))))) else (none)) else (none)) else (some (0, ([] : List Int), 0, 0, ([] : List (S60)), 0)))) = some (r1, r2, r3, r4, r5, r6) := h
  clear h
  replace H := Option.bind_eq_some_iff.mp H
  obtain ⟨t366, A30, H⟩ := H
  replace H : (if t366 = true then (if 0 ≤ (mn (l1.length : Int) (wrap64 (32 - (l0_1.length : Int)))) then (if (mn (l1.length : Int) (wrap64 (32 - (l0_1.length : Int)))) ≤ (l1.length : Int) then ((slices_Concat_byte_byte.f k (([l0_1, (l1.take ((mn (l1.length : Int) (wrap64 (32 - (l0_1.length : Int)))) : Int).toNat)] : List (List Int)))).bind fun t376 => ((impl_Mouth_copy.f a0_0 t376 a0_2 a0_3 l0_4).bind fun bt379 => (some (bt379.1, bt379.2.1, bt379.2.2.1, bt379.2.2.2.1, bt379.2.2.2.2, mn (l1.length : Int) (wrap64 (32 - (l0_1.length : Int))))))) else (none)) else (none)) else (some (0, ([] : List Int), 0, 0, ([] : List (S60)), 0))) = some (r1, r2, r3, r4, r5, r6) := H
  have A3 := Aside0.mk A30
  clear A30
  by_cases c4 : t366 = true
  · subst c4
    have H1 : (if 0 ≤ (mn (l1.length : Int) (wrap64 (32 - (l0_1.length : Int)))) then (if (mn (l1.length : Int) (wrap64 (32 - (l0_1.length : Int)))) ≤ (l1.length : Int) then ((slices_Concat_byte_byte.f k (([l0_1, (l1.take ((mn (l1.length : Int) (wrap64 (32 - (l0_1.length : Int)))) : Int).toNat)] : List (List Int)))).bind fun t376 => ((impl_Mouth_copy.f a0_0 t376 a0_2 a0_3 l0_4).bind fun bt379 => (some (bt379.1, bt379.2.1, bt379.2.2.1, bt379.2.2.2.1, bt379.2.2.2.2, mn (l1.length : Int) (wrap64 (32 - (l0_1.length : Int))))))) else (none)) else (none)) = some (r1, r2, r3, r4, r5, r6) := by rw [if_pos rfl] at H; exact H
    clear H
    have H := H1
    clear H1
    obtain ⟨ji5, hji5⟩ : ∃ j_ : Int, (mn (l1.length : Int) (wrap64 (32 - (l0_1.length : Int)))) = j_ := ⟨_, rfl⟩
    replace H : (if 0 ≤ (ji5) then (if (ji5) ≤ (l1.length : Int) then ((slices_Concat_byte_byte.f k (([l0_1, (l1.take ((ji5) : Int).toNat)] : List (List Int)))).bind fun t376 => ((impl_Mouth_copy.f a0_0 t376 a0_2 a0_3 l0_4).bind fun bt379 => (some (bt379.1, bt379.2.1, bt379.2.2.1, bt379.2.2.2.1, bt379.2.2.2.2, ji5)))) else (none)) else (none)) = some (r1, r2, r3, r4, r5, r6) := by first | (rw [hji5] at H; exact H) | (simp only [hji5] at H ⊢; exact H)
    (try rw [hji5] at A3)
    have hji5_ : (if (wrap64 (32 - (l0_1.length : Int))) < (l1.length : Int) then (wrap64 (32 - (l0_1.length : Int))) else (l1.length : Int)) = ji5 := hji5
    by_cases c6 : 0 ≤ (ji5)
    · rw [if_pos c6] at H
      have c6b0 := eq_true c6
      have c6b1 : decide (0 ≤ (ji5)) = true := decide_eq_true c6
      clear c6
      by_cases c7 : (ji5) ≤ (l1.length : Int)
      · rw [if_pos c7] at H
        have c7b0 := eq_true c7
        have c7b1 : decide ((ji5) ≤ (l1.length : Int)) = true := decide_eq_true c7
        clear c7
        obtain ⟨y368, hy368⟩ : ∃ y_ : List Int, y_ = (l1.take ((ji5) : Int).toNat) := ⟨_, rfl⟩
        replace H : ((slices_Concat_byte_byte.f k (([l0_1, y368] : List (List Int)))).bind fun t376 => ((impl_Mouth_copy.f a0_0 t376 a0_2 a0_3 l0_4).bind fun bt379 => (some (bt379.1, bt379.2.1, bt379.2.2.1, bt379.2.2.2.1, bt379.2.2.2.2, ji5)))) = some (r1, r2, r3, r4, r5, r6) := by first | (rw [hy368]; with_reducible exact H) | (have H2_ := (Option.bind_some _ _).symm.trans H; rw [hy368]; with_reducible exact H2_) | (have H2_ := (Option.bind_some _ _).symm.trans H; with_reducible exact H2_) | with_reducible exact H | (rw [hy368]; exact H) | exact H
        have Ny368 := Aside0.mk hy368
        clear hy368
        obtain ⟨y373, hy373⟩ : ∃ y_ : List (List Int), y_ = (([l0_1, y368] : List (List Int))) := ⟨_, rfl⟩
        replace H : ((slices_Concat_byte_byte.f k y373).bind fun t376 => ((impl_Mouth_copy.f a0_0 t376 a0_2 a0_3 l0_4).bind fun bt379 => (some (bt379.1, bt379.2.1, bt379.2.2.1, bt379.2.2.2.1, bt379.2.2.2.2, ji5)))) = some (r1, r2, r3, r4, r5, r6) := by first | (rw [hy373]; with_reducible exact H) | (have H2_ := (Option.bind_some _ _).symm.trans H; rw [hy373]; with_reducible exact H2_) | (have H2_ := (Option.bind_some _ _).symm.trans H; with_reducible exact H2_) | with_reducible exact H | (rw [hy373]; exact H) | exact H
        have Ny373 := Aside0.mk hy373
        clear hy373
        replace H := Option.bind_eq_some_iff.mp H
        obtain ⟨t376, A80, H⟩ := H
        replace H : ((impl_Mouth_copy.f a0_0 t376 a0_2 a0_3 l0_4).bind fun bt379 => (some (bt379.1, bt379.2.1, bt379.2.2.1, bt379.2.2.2.1, bt379.2.2.2.2, ji5))) = some (r1, r2, r3, r4, r5, r6) := H
        have A8 := Aside0.mk A80
        clear A80
        replace H := Option.bind_eq_some_iff.mp H
        obtain ⟨⟨t379, t380, t383, t384, t385⟩, A90, H⟩ := H
        replace H : (some (t379, t380, t383, t384, t385, ji5)) = some (r1, r2, r3, r4, r5, r6) := H
        have A9 := Aside0.mk A90
        clear A90
        simp only [Option.some.injEq, Prod.mk.injEq] at H
        obtain ⟨rfl, rfl, rfl, rfl, rfl, rfl⟩ := H
        go_enter Try.func7, Try.ntmps7
        try go_wp2_with (first | ((with_reducible refine gate_dst (N := 2) rfl ?_); refine box_event ?hg (N := 2) ?hd (cs := #[.int .i64 a0_0, .slice A0_1 l0_1.length c0_1, .int .i64 a0_2, .int .i64 a0_3, .slice A0_4 l0_4.length c0_4]) (t := 25) ?hr ?_; (case hd => rfl); (case hg => rfl); (case hr => first | (go_simp; done) | (go_simp; rfl)); intro gb364 hg w10 hbox hb; have n0_ := Aside0.mk (Kd.V_below (Kd.V_elderB (by (with_reducible repeat (first | apply Kd.V_alloc | apply Kd.V_drewN | apply Kd.V_drew)); exact HO0_1.out) gb364 (Nat.le_of_eq hg.symm)) hb); have n1_ := Aside0.mk (Kd.V_below (Kd.V_elderB (by (with_reducible repeat (first | apply Kd.V_alloc | apply Kd.V_drewN | apply Kd.V_drew)); exact HO1.out) gb364 (Nat.le_of_eq hg.symm)) hb); have n2_ := Aside0.mk (below_step (hb0_ HB.out) hb); have n3_ := Aside0.mk (hbox); have n4_ := Aside0.mk ((by rw [hg]; exact (below_size (hb0_ HB.out)) : w.heap.size ≤ gb364)); have n5_ := Aside0.mk ((by rw [hg]; exact (below_size (hb0_ HB.out)) : w.heap.size ≤ gb364)); clear HO0_1; clear HO1; clear HB; have HO0_1 := n0_; have HO1 := n1_; have HB := n2_; have BK364 := n3_; have GW364 := n4_; have GE364 := n5_; clear n0_ n1_ n2_ n3_ n4_ n5_; clear hb hbox hg) | ((with_reducible refine gate_dst (N := 4) rfl ?_); refine box_event ?hg (N := 4) ?hd (cs := #[.int .i64 0, .slice none 0 0, .int .i64 0, .int .i64 0, .slice none 0 0]) (t := 25) ?hr ?_; (case hd => rfl); (case hg => rfl); (case hr => first | (go_simp; done) | (go_simp; rfl)); intro gb365 hg w11 hbox hb; have n0_ := Aside0.mk (Kd.V_below (Kd.V_elderB (by (with_reducible repeat (first | apply Kd.V_alloc | apply Kd.V_drewN | apply Kd.V_drew)); exact HO0_1.out) gb365 (Nat.le_of_eq hg.symm)) hb); have n1_ := Aside0.mk (Kd.V_below (Kd.V_elderB (by (with_reducible repeat (first | apply Kd.V_alloc | apply Kd.V_drewN | apply Kd.V_drew)); exact HO1.out) gb365 (Nat.le_of_eq hg.symm)) hb); have n2_ := Aside0.mk (blk_below (g := gb364) (o := .cells #[.int .i64 a0_0, .slice A0_1 l0_1.length c0_1, .int .i64 a0_2, .int .i64 a0_3, .slice A0_4 l0_4.length c0_4] 25 (0, 0)) (kb_ BK364.out) hb); have n3_ := Aside0.mk (below_step (hb1_ HB.out GE364.out) hb); have n4_ := Aside0.mk (hbox); have n5_ := Aside0.mk ((by rw [hg]; exact (below_size (hb1_ HB.out GE364.out)) : w.heap.size ≤ gb365)); have n6_ := Aside0.mk ((by rw [hg]; exact (below_size (hb1_ HB.out GE364.out)) : w.heap.size ≤ gb365)); have n7_ := Aside0.mk ((by rw [hg]; exact Nat.ne_of_lt (blk_lt (g := gb364) (o := .cells #[.int .i64 a0_0, .slice A0_1 l0_1.length c0_1, .int .i64 a0_2, .int .i64 a0_3, .slice A0_4 l0_4.length c0_4] 25 (0, 0)) (kb_ BK364.out)) : gb364 ≠ gb365)); have n8_ := Aside0.mk ((by rw [hg]; exact Nat.ne_of_gt (blk_lt (g := gb364) (o := .cells #[.int .i64 a0_0, .slice A0_1 l0_1.length c0_1, .int .i64 a0_2, .int .i64 a0_3, .slice A0_4 l0_4.length c0_4] 25 (0, 0)) (kb_ BK364.out)) : gb365 ≠ gb364)); clear HO0_1; clear HO1; clear BK364; clear HB; have HO0_1 := n0_; have HO1 := n1_; have BK364 := n2_; have HB := n3_; have BK365 := n4_; have GW365 := n5_; have GE365 := n6_; have NB364_365 := n7_; have NB365_364 := n8_; clear n0_ n1_ n2_ n3_ n4_ n5_ n6_ n7_ n8_; clear hb hbox hg; have hnb12 := NB364_365.out; have hnc12 := NB365_364.out; have hcz13_0 : w11.cell? ⟨gb364, 0, none⟩ = some (.int .i64 a0_0) := (blk_cell BK364.out 0).trans rfl; have hcz13_1 : w11.cell? ⟨gb364, 1, none⟩ = some (.slice A0_1 l0_1.length c0_1) := (blk_cell BK364.out 1).trans rfl; have hcz13_2 : w11.cell? ⟨gb364, 2, none⟩ = some (.int .i64 a0_2) := (blk_cell BK364.out 2).trans rfl; have hcz13_3 : w11.cell? ⟨gb364, 3, none⟩ = some (.int .i64 a0_3) := (blk_cell BK364.out 3).trans rfl; have hcz13_4 : w11.cell? ⟨gb364, 4, none⟩ = some (.slice A0_4 l0_4.length c0_4) := (blk_cell BK364.out 4).trans rfl; have hfz13_0 := blk_frozen BK364.out 0; have hfz13_1 := blk_frozen BK364.out 1; have hfz13_2 := blk_frozen BK364.out 2; have hfz13_3 := blk_frozen BK364.out 3; have hfz13_4 := blk_frozen BK364.out 4) | ((with_reducible refine gate_callee (f := 10) rfl ?_); refine goesL_ (some 9) rfl rfl Try.func10 (by kernel_rfl) rfl #[.agg #[.int .i64 a0_0, .slice A0_1 l0_1.length c0_1, .int .i64 a0_2, .int .i64 a0_3, .slice A0_4 l0_4.length c0_4]] rfl ar_ ?_; (with_reducible refine (impl_MouthOk.calls k a0_0 _ _ l0_1 a0_2 a0_3 _ _ l0_4 true _ ?side1 ?side2 ?side3 ?side4 A3.out).mono ?_); (case side1 => exact kC_ (Kd.V_reads' HO0_1.out).2.2); (case side2 => exact (Kd.V_reads' HO0_1.out).2.1); (case side3 => exact kC_ (Kd.C_below HR0_4.out HB.out)); (case side4 => exact HC0_4.out); rintro e w14 ⟨rfl, hb⟩; refine ⟨_, rfl, ?_⟩; have n0_ := Aside0.mk (Kd.V_below (by (with_reducible repeat (first | apply Kd.V_alloc | apply Kd.V_drewN | apply Kd.V_drew)); exact HO0_1.out) hb); have n1_ := Aside0.mk (Kd.V_below (by (with_reducible repeat (first | apply Kd.V_alloc | apply Kd.V_drewN | apply Kd.V_drew)); exact HO1.out) hb); have n2_ := Aside0.mk (blk_below (g := gb364) (o := .cells #[.int .i64 a0_0, .slice A0_1 l0_1.length c0_1, .int .i64 a0_2, .int .i64 a0_3, .slice A0_4 l0_4.length c0_4] 25 (0, 0)) (kb_ BK364.out) hb); have n3_ := Aside0.mk (blk_below (g := gb365) (o := .cells #[.int .i64 0, .slice none 0 0, .int .i64 0, .int .i64 0, .slice none 0 0] 25 (0, 0)) (kb_ BK365.out) hb); have n4_ := Aside0.mk (below_step (hb2_ HB.out GE364.out GE365.out) hb); clear HO0_1; clear HO1; clear BK364; clear BK365; clear HB; have HO0_1 := n0_; have HO1 := n1_; have BK364 := n2_; have BK365 := n3_; have HB := n4_; clear n0_ n1_ n2_ n3_ n4_; (try clear hb); (try clear hb2); (try clear hk); (try clear hi); have hcz15_0 : w14.cell? ⟨gb364, 0, none⟩ = some (.int .i64 a0_0) := (blk_cell BK364.out 0).trans rfl; have hcz15_1 : w14.cell? ⟨gb364, 1, none⟩ = some (.slice A0_1 l0_1.length c0_1) := (blk_cell BK364.out 1).trans rfl; have hcz15_2 : w14.cell? ⟨gb364, 2, none⟩ = some (.int .i64 a0_2) := (blk_cell BK364.out 2).trans rfl; have hcz15_3 : w14.cell? ⟨gb364, 3, none⟩ = some (.int .i64 a0_3) := (blk_cell BK364.out 3).trans rfl; have hcz15_4 : w14.cell? ⟨gb364, 4, none⟩ = some (.slice A0_4 l0_4.length c0_4) := (blk_cell BK364.out 4).trans rfl; have hfz15_0 := blk_frozen BK364.out 0; have hfz15_1 := blk_frozen BK364.out 1; have hfz15_2 := blk_frozen BK364.out 2; have hfz15_3 := blk_frozen BK364.out 3; have hfz15_4 := blk_frozen BK364.out 4) | ((with_reducible refine gate_dst (N := 7) rfl ?_); refine box_event ?hg (N := 7) ?hd (cs := #[.int .i64 0, .slice none 0 0, .int .i64 0, .int .i64 0, .slice none 0 0]) (t := 25) ?hr ?_; (case hd => rfl); (case hg => rfl); (case hr => first | (go_simp; done) | (go_simp; rfl)); intro gb367 hg w16 hbox hb; have n0_ := Aside0.mk (Kd.V_below (Kd.V_elderB (by (with_reducible repeat (first | apply Kd.V_alloc | apply Kd.V_drewN | apply Kd.V_drew)); exact HO0_1.out) gb367 (Nat.le_of_eq hg.symm)) hb); have n1_ := Aside0.mk (Kd.V_below (Kd.V_elderB (by (with_reducible repeat (first | apply Kd.V_alloc | apply Kd.V_drewN | apply Kd.V_drew)); exact HO1.out) gb367 (Nat.le_of_eq hg.symm)) hb); have n2_ := Aside0.mk (blk_below (g := gb364) (o := .cells #[.int .i64 a0_0, .slice A0_1 l0_1.length c0_1, .int .i64 a0_2, .int .i64 a0_3, .slice A0_4 l0_4.length c0_4] 25 (0, 0)) (kb_ BK364.out) hb); have n3_ := Aside0.mk (blk_below (g := gb365) (o := .cells #[.int .i64 0, .slice none 0 0, .int .i64 0, .int .i64 0, .slice none 0 0] 25 (0, 0)) (kb_ BK365.out) hb); have n4_ := Aside0.mk (below_step (hb2_ HB.out GE364.out GE365.out) hb); have n5_ := Aside0.mk (hbox); have n6_ := Aside0.mk ((by rw [hg]; exact (below_size (hb2_ HB.out GE364.out GE365.out)) : w.heap.size ≤ gb367)); have n7_ := Aside0.mk ((by rw [hg]; exact (below_size (hb2_ HB.out GE364.out GE365.out)) : w.heap.size ≤ gb367)); have n8_ := Aside0.mk ((by rw [hg]; exact Nat.ne_of_lt (blk_lt (g := gb364) (o := .cells #[.int .i64 a0_0, .slice A0_1 l0_1.length c0_1, .int .i64 a0_2, .int .i64 a0_3, .slice A0_4 l0_4.length c0_4] 25 (0, 0)) (kb_ BK364.out)) : gb364 ≠ gb367)); have n9_ := Aside0.mk ((by rw [hg]; exact Nat.ne_of_gt (blk_lt (g := gb364) (o := .cells #[.int .i64 a0_0, .slice A0_1 l0_1.length c0_1, .int .i64 a0_2, .int .i64 a0_3, .slice A0_4 l0_4.length c0_4] 25 (0, 0)) (kb_ BK364.out)) : gb367 ≠ gb364)); have n10_ := Aside0.mk ((by rw [hg]; exact Nat.ne_of_lt (blk_lt (g := gb365) (o := .cells #[.int .i64 0, .slice none 0 0, .int .i64 0, .int .i64 0, .slice none 0 0] 25 (0, 0)) (kb_ BK365.out)) : gb365 ≠ gb367)); have n11_ := Aside0.mk ((by rw [hg]; exact Nat.ne_of_gt (blk_lt (g := gb365) (o := .cells #[.int .i64 0, .slice none 0 0, .int .i64 0, .int .i64 0, .slice none 0 0] 25 (0, 0)) (kb_ BK365.out)) : gb367 ≠ gb365)); clear HO0_1; clear HO1; clear BK364; clear BK365; clear HB; have HO0_1 := n0_; have HO1 := n1_; have BK364 := n2_; have BK365 := n3_; have HB := n4_; have BK367 := n5_; have GW367 := n6_; have GE367 := n7_; have NB364_367 := n8_; have NB367_364 := n9_; have NB365_367 := n10_; have NB367_365 := n11_; clear n0_ n1_ n2_ n3_ n4_ n5_ n6_ n7_ n8_ n9_ n10_ n11_; clear hb hbox hg; have hnb17 := NB367_364.out; have hnc17 := NB364_367.out; have hnb18 := NB367_365.out; have hnc18 := NB365_367.out; have hcz19_0 : w16.cell? ⟨gb367, 0, none⟩ = some (.int .i64 0) := (blk_cell BK367.out 0).trans rfl; have hcz19_1 : w16.cell? ⟨gb367, 1, none⟩ = some (.slice none 0 0) := (blk_cell BK367.out 1).trans rfl; have hcz19_2 : w16.cell? ⟨gb367, 2, none⟩ = some (.int .i64 0) := (blk_cell BK367.out 2).trans rfl; have hcz19_3 : w16.cell? ⟨gb367, 3, none⟩ = some (.int .i64 0) := (blk_cell BK367.out 3).trans rfl; have hcz19_4 : w16.cell? ⟨gb367, 4, none⟩ = some (.slice none 0 0) := (blk_cell BK367.out 4).trans rfl; have hfz19_0 := blk_frozen BK367.out 0; have hfz19_1 := blk_frozen BK367.out 1; have hfz19_2 := blk_frozen BK367.out 2; have hfz19_3 := blk_frozen BK367.out 3; have hfz19_4 := blk_frozen BK367.out 4))
        have n0_ : Aside0 (Kd.V (Kd.int .u8) 5 (((((w16.setCell ⟨gb367, 0, none⟩ (.int .i64 a0_0)).setCell ⟨gb367, 1, none⟩ (.slice A0_1 l0_1.length c0_1)).setCell ⟨gb367, 2, none⟩ (.int .i64 a0_2)).setCell ⟨gb367, 3, none⟩ (.int .i64 a0_3)).setCell ⟨gb367, 4, none⟩ (.slice A0_4 l0_4.length c0_4)) w.heap.size (fun k_ => ((P0_1_ k_ ∨ P1_ k_) ∨ w.heap.size ≤ k_) ∧ k_ ≠ gb364 ∧ k_ ≠ gb365 ∧ k_ ≠ gb367) (.slice A0_1 l0_1.length c0_1) l0_1) := ⟨by (with_reducible repeat (first | apply Kd.V_alloc | apply Kd.V_drewN | apply Kd.V_drew)); exact Kd.V_mono (Kd.V_far (p := ⟨gb367, 4, none⟩) (Kd.V_far (p := ⟨gb367, 3, none⟩) (Kd.V_far (p := ⟨gb367, 2, none⟩) (Kd.V_far (p := ⟨gb367, 1, none⟩) (Kd.V_far (p := ⟨gb367, 0, none⟩) (Kd.V_mono HO0_1.out (fun k_ hk => (⟨hk, hk.2⟩ : _ ∧ k_ ≠ gb367))) (fun _ hk => hk.2) (.int .i64 a0_0)) (fun _ hk => hk.2) (.slice A0_1 l0_1.length c0_1)) (fun _ hk => hk.2) (.int .i64 a0_2)) (fun _ hk => hk.2) (.int .i64 a0_3)) (fun _ hk => hk.2) (.slice A0_4 l0_4.length c0_4)) (fun _ hk => ⟨hk.1.1.1.1, ⟨hk.1.1.1.2, ⟨hk.1.1.2, hk.1.2⟩⟩⟩)⟩
        have n1_ : Aside0 (Kd.V (Kd.int .u8) 5 (((((w16.setCell ⟨gb367, 0, none⟩ (.int .i64 a0_0)).setCell ⟨gb367, 1, none⟩ (.slice A0_1 l0_1.length c0_1)).setCell ⟨gb367, 2, none⟩ (.int .i64 a0_2)).setCell ⟨gb367, 3, none⟩ (.int .i64 a0_3)).setCell ⟨gb367, 4, none⟩ (.slice A0_4 l0_4.length c0_4)) w.heap.size (fun k_ => ((P0_1_ k_ ∨ P1_ k_) ∨ w.heap.size ≤ k_) ∧ k_ ≠ gb364 ∧ k_ ≠ gb365 ∧ k_ ≠ gb367) (.slice A1 l1.length c1) l1) := ⟨by (with_reducible repeat (first | apply Kd.V_alloc | apply Kd.V_drewN | apply Kd.V_drew)); exact Kd.V_mono (Kd.V_far (p := ⟨gb367, 4, none⟩) (Kd.V_far (p := ⟨gb367, 3, none⟩) (Kd.V_far (p := ⟨gb367, 2, none⟩) (Kd.V_far (p := ⟨gb367, 1, none⟩) (Kd.V_far (p := ⟨gb367, 0, none⟩) (Kd.V_mono HO1.out (fun k_ hk => (⟨hk, hk.2⟩ : _ ∧ k_ ≠ gb367))) (fun _ hk => hk.2) (.int .i64 a0_0)) (fun _ hk => hk.2) (.slice A0_1 l0_1.length c0_1)) (fun _ hk => hk.2) (.int .i64 a0_2)) (fun _ hk => hk.2) (.int .i64 a0_3)) (fun _ hk => hk.2) (.slice A0_4 l0_4.length c0_4)) (fun _ hk => ⟨hk.1.1.1.1, ⟨hk.1.1.1.2, ⟨hk.1.1.2, hk.1.2⟩⟩⟩)⟩
        have n2_ : Aside0 ((((((w16.setCell ⟨gb367, 0, none⟩ (.int .i64 a0_0)).setCell ⟨gb367, 1, none⟩ (.slice A0_1 l0_1.length c0_1)).setCell ⟨gb367, 2, none⟩ (.int .i64 a0_2)).setCell ⟨gb367, 3, none⟩ (.int .i64 a0_3)).setCell ⟨gb367, 4, none⟩ (.slice A0_4 l0_4.length c0_4)).heap[gb364]? = some (.cells #[.int .i64 a0_0, .slice A0_1 l0_1.length c0_1, .int .i64 a0_2, .int .i64 a0_3, .slice A0_4 l0_4.length c0_4] 25 (0, 0))) := ⟨by refine kb_ ?_; refine blk_far ?_ NB364_367.out _; refine kb_ ?_; refine blk_far ?_ NB364_367.out _; refine kb_ ?_; refine blk_far ?_ NB364_367.out _; refine kb_ ?_; refine blk_far ?_ NB364_367.out _; refine kb_ ?_; refine blk_far ?_ NB364_367.out _; refine kb_ ?_; exact BK364.out⟩
        have n3_ : Aside0 ((((((w16.setCell ⟨gb367, 0, none⟩ (.int .i64 a0_0)).setCell ⟨gb367, 1, none⟩ (.slice A0_1 l0_1.length c0_1)).setCell ⟨gb367, 2, none⟩ (.int .i64 a0_2)).setCell ⟨gb367, 3, none⟩ (.int .i64 a0_3)).setCell ⟨gb367, 4, none⟩ (.slice A0_4 l0_4.length c0_4)).heap[gb365]? = some (.cells #[.int .i64 0, .slice none 0 0, .int .i64 0, .int .i64 0, .slice none 0 0] 25 (0, 0))) := ⟨by refine kb_ ?_; refine blk_far ?_ NB365_367.out _; refine kb_ ?_; refine blk_far ?_ NB365_367.out _; refine kb_ ?_; refine blk_far ?_ NB365_367.out _; refine kb_ ?_; refine blk_far ?_ NB365_367.out _; refine kb_ ?_; refine blk_far ?_ NB365_367.out _; refine kb_ ?_; exact BK365.out⟩
        have n4_ : Aside0 ((((((w16.setCell ⟨gb367, 0, none⟩ (.int .i64 a0_0)).setCell ⟨gb367, 1, none⟩ (.slice A0_1 l0_1.length c0_1)).setCell ⟨gb367, 2, none⟩ (.int .i64 a0_2)).setCell ⟨gb367, 3, none⟩ (.int .i64 a0_3)).setCell ⟨gb367, 4, none⟩ (.slice A0_4 l0_4.length c0_4)).heap[gb367]? = some (.cells #[.int .i64 a0_0, .slice A0_1 l0_1.length c0_1, .int .i64 a0_2, .int .i64 a0_3, .slice A0_4 l0_4.length c0_4] 25 (0, 0))) := ⟨by refine kb_ ?_; refine blk_put (cs := #[.int .i64 a0_0, .slice A0_1 l0_1.length c0_1, .int .i64 a0_2, .int .i64 a0_3, .slice none 0 0]) ?_ 4 _ rfl; refine kb_ ?_; refine blk_put (cs := #[.int .i64 a0_0, .slice A0_1 l0_1.length c0_1, .int .i64 a0_2, .int .i64 0, .slice none 0 0]) ?_ 3 _ rfl; refine kb_ ?_; refine blk_put (cs := #[.int .i64 a0_0, .slice A0_1 l0_1.length c0_1, .int .i64 0, .int .i64 0, .slice none 0 0]) ?_ 2 _ rfl; refine kb_ ?_; refine blk_put (cs := #[.int .i64 a0_0, .slice none 0 0, .int .i64 0, .int .i64 0, .slice none 0 0]) ?_ 1 _ rfl; refine kb_ ?_; refine blk_put (cs := #[.int .i64 0, .slice none 0 0, .int .i64 0, .int .i64 0, .slice none 0 0]) ?_ 0 _ rfl; refine kb_ ?_; exact BK367.out⟩
        have n5_ : Aside0 (Below w.heap.size w (((((w16.setCell ⟨gb367, 0, none⟩ (.int .i64 a0_0)).setCell ⟨gb367, 1, none⟩ (.slice A0_1 l0_1.length c0_1)).setCell ⟨gb367, 2, none⟩ (.int .i64 a0_2)).setCell ⟨gb367, 3, none⟩ (.int .i64 a0_3)).setCell ⟨gb367, 4, none⟩ (.slice A0_4 l0_4.length c0_4))) := ⟨by repeat (first | (with_reducible first | exact HB.out | apply below_alloc | apply pw_below_drewN | apply below_drew1 | refine below_set ?_ GE364.out | refine below_set ?_ GE365.out | refine below_set ?_ GE367.out) | exact HB.out)⟩
        (try clear HO0_1)
        (try clear HO1)
        (try clear BK364)
        (try clear BK365)
        (try clear BK367)
        (try clear HB)
        generalize (((((w16.setCell ⟨gb367, 0, none⟩ (.int .i64 a0_0)).setCell ⟨gb367, 1, none⟩ (.slice A0_1 l0_1.length c0_1)).setCell ⟨gb367, 2, none⟩ (.int .i64 a0_2)).setCell ⟨gb367, 3, none⟩ (.int .i64 a0_3)).setCell ⟨gb367, 4, none⟩ (.slice A0_4 l0_4.length c0_4)) = w20 at n0_ n1_ n2_ n3_ n4_ n5_ ⊢
        have HO0_1 := n0_
        have HO1 := n1_
        have BK364 := n2_
        have BK365 := n3_
        have BK367 := n4_
        have HB := n5_
        clear n0_ n1_ n2_ n3_ n4_ n5_
        have n0_ := Aside0.mk (Kd.V_drew HO0_1.out)
        have n1_ := Aside0.mk (Kd.V_drew HO1.out)
        have n2_ := Aside0.mk (blk_drew BK364.out)
        have n3_ := Aside0.mk (blk_drew BK365.out)
        have n4_ := Aside0.mk (blk_drew BK367.out)
        have n5_ := Aside0.mk (below_drew1 HB.out)
        clear HO0_1
        clear HO1
        clear BK364
        clear BK365
        clear BK367
        clear HB
        have HO0_1 := n0_
        have HO1 := n1_
        have BK364 := n2_
        have BK365 := n3_
        have BK367 := n4_
        have HB := n5_
        clear n0_ n1_ n2_ n3_ n4_ n5_
        have q22 : ((ji5) : Int) ≤ ((l1.length : Int) : Int) := of_decide_eq_true (by first | (with_reducible assumption) | assumption)
        obtain ⟨i022, hi022, _, hsz22, _⟩ := info_parts info5
        have hroom22 : l1.length ≤ c1 := (Kd.V_reads' HO1.out).2.1
        have hC22 : Kd.F (Kd.int .u8) _ _ A1 l1.length l1 := (Kd.V_at (base := w.heap.size) HO1.out).2.2
        have hcut22 := cut_to (P := Try.prog) 22 5 .i64 Try.underlying22 hi022 A1 l1.length c1 (ji5) (of_decide_eq_true (by first | (with_reducible assumption) | assumption)) q22 hroom22
        have hr22 := Kd.F_take (m := ((ji5) : Int).toNat) hC22 (by omega)
        have hy22 : y368.length = ((ji5) : Int).toNat := (by rw [Ny368.out, List.length_take]; omega)
        rw [← Ny368.out] at hr22
        rw [← hy22] at hcut22
        have HO372 := Aside0.mk (show Kd.V (Kd.int .u8) 5 _ w.heap.size _ (.slice A1 y368.length c1) y368 from Kd.V_mk (by omega) hr22)
        have HC372 := Aside0.mk (show y368.length ≤ c1 from by omega)
        clear hr22 hC22 hroom22 hi022 hsz22
        have KY22 := Aside0.mk hy22
        clear hy22
        replace q22 := eq_true q22
        refine start_ (n := 9) (S := fun w' => w'.cell? ⟨gb364, 0, none⟩ = some (.int .i64 a0_0) ∧ w'.cell? ⟨gb364, 1, none⟩ = some (.slice A0_1 l0_1.length c0_1) ∧ w'.cell? ⟨gb364, 2, none⟩ = some (.int .i64 a0_2) ∧ w'.cell? ⟨gb364, 3, none⟩ = some (.int .i64 a0_3) ∧ w'.cell? ⟨gb364, 4, none⟩ = some (.slice A0_4 l0_4.length c0_4)) (ds := []) #[false, false, false, false, false, false, false, false, false] (by kernel_rfl) rfl rfl ⟨(blk_cell BK364.out 0).trans rfl, (blk_cell BK364.out 1).trans rfl, (blk_cell BK364.out 2).trans rfl, (blk_cell BK364.out 3).trans rfl, (blk_cell BK364.out 4).trans rfl⟩ (fun hHeld => ?_); refine with_tabW impl_MouthWrite.tab5 impl_MouthWrite.bits5 (fun HT_ HW_ => ?_)
        generalize w20.drew = w21 at HO0_1 HO1 BK364 BK365 BK367 HB HO372 hHeld ⊢
        refine pu_ (i := 0) (N := some 20) HT_ ?_
        refine pu_ (i := 2) (N := some 22) HT_ ?_
        refine pu_ (i := 3) (N := some 23) HT_ ?_
        refine pu_ (i := 4) (N := some 24) HT_ ?_
        refine tk_ (i := 1) (N := some 21) HT_ HW_ hHeld ?_
        refine on_ (i := 5) (N := some 25) HT_ (fun K hK => ?_)
        refine Kd.N_lit_step (Kd.slice 5 (Kd.int .u8)) _ 22 ?hg (N' := 25) ?hd (xs := ([l0_1, y368] : List (List Int))) (inner := [.slice A0_1 l0_1.length c0_1, .slice A1 y368.length c1]) (ok := (fun k_ => ((P0_1_ k_ ∨ P1_ k_) ∨ w.heap.size ≤ k_) ∧ k_ ≠ gb364 ∧ k_ ≠ gb365 ∧ k_ ≠ gb367)) (okp := (fun k_ => ((P0_1_ k_ ∨ P1_ k_) ∨ w.heap.size ≤ k_) ∧ k_ ≠ gb364 ∧ k_ ≠ gb365 ∧ k_ ≠ gb367)) ?hr ?hp (fun _ hk => hk) ((show ∀ k_, w21.heap.size ≤ k_ → (fun k_ => ((P0_1_ k_ ∨ P1_ k_) ∨ w.heap.size ≤ k_) ∧ k_ ≠ gb364 ∧ k_ ≠ gb365 ∧ k_ ≠ gb367) k_ from fun k_ hk => ⟨(.inr (Nat.le_trans (below_size (hb3_ HB.out GE364.out GE365.out GE367.out)) hk)), Kd.freshB (g := gb364) (o := .cells #[.int .i64 a0_0, .slice A0_1 l0_1.length c0_1, .int .i64 a0_2, .int .i64 a0_3, .slice A0_4 l0_4.length c0_4] 25 (0, 0)) (kb_ BK364.out) k_ hk, Kd.freshB (g := gb365) (o := .cells #[.int .i64 0, .slice none 0 0, .int .i64 0, .int .i64 0, .slice none 0 0] 25 (0, 0)) (kb_ BK365.out) k_ hk, Kd.freshB (g := gb367) (o := .cells #[.int .i64 a0_0, .slice A0_1 l0_1.length c0_1, .int .i64 a0_2, .int .i64 a0_3, .slice A0_4 l0_4.length c0_4] 25 (0, 0)) (kb_ BK367.out) k_ hk⟩) _ (Nat.le_refl _)) (Below.refl _ _) (Nat.le_refl _) (by simp) ?_; (case hd => rfl); (case hg => rfl); (case hr => first | (go_simp; done) | (go_simp; rfl)); (case hp => exact (Reps.one (show Kd.FK (Kd.slice 5 (Kd.int .u8)) _ _ l0_1 [.slice A0_1 l0_1.length c0_1] from (Kd.FK_slice_mk (Kd.V_reads' (Kd.V_mono (ok' := (fun k_ => ((P0_1_ k_ ∨ P1_ k_) ∨ w.heap.size ≤ k_) ∧ k_ ≠ gb364 ∧ k_ ≠ gb365 ∧ k_ ≠ gb367)) (HO0_1.out) (fun k_ hk => ⟨hk.1, ⟨hk.2.1, ⟨hk.2.2.1, hk.2.2.2⟩⟩⟩))).2.1 (Kd.V_F (Kd.V_mono (ok' := (fun k_ => ((P0_1_ k_ ∨ P1_ k_) ∨ w.heap.size ≤ k_) ∧ k_ ≠ gb364 ∧ k_ ≠ gb365 ∧ k_ ≠ gb367)) (HO0_1.out) (fun k_ hk => ⟨hk.1, ⟨hk.2.1, ⟨hk.2.2.1, hk.2.2.2⟩⟩⟩))))) (Reps.one (show Kd.FK (Kd.slice 5 (Kd.int .u8)) _ _ y368 [.slice A1 y368.length c1] from (Kd.FK_slice_mk (Kd.V_reads' (Kd.V_mono (ok' := (fun k_ => ((P0_1_ k_ ∨ P1_ k_) ∨ w.heap.size ≤ k_) ∧ k_ ≠ gb364 ∧ k_ ≠ gb365 ∧ k_ ≠ gb367)) (HO372.out) (fun k_ hk => ⟨hk.1, ⟨hk.2.1, ⟨hk.2.2.1, hk.2.2.2⟩⟩⟩))).2.1 (Kd.V_F (Kd.V_mono (ok' := (fun k_ => ((P0_1_ k_ ∨ P1_ k_) ∨ w.heap.size ≤ k_) ∧ k_ ≠ gb364 ∧ k_ ≠ gb365 ∧ k_ ≠ gb367)) (HO372.out) (fun k_ hk => ⟨hk.1, ⟨hk.2.1, ⟨hk.2.2.1, hk.2.2.2⟩⟩⟩))))) (Reps.none _ _))))
        intro v374 w23 ho24 hb hg_ hnew_
        clear hg_ hnew_
        (first | rw [← Ny373.out] at ho24 | (simp only [Int.reduceToNat] at ho24; rw [← Ny373.out] at ho24))
        have n0_ := Aside0.mk (Kd.V_elder' (by (with_reducible repeat (first | apply Kd.V_alloc | apply Kd.V_drewN | apply Kd.V_drew)); exact HO0_1.out) (Kd.N_base ho24) hb)
        have n1_ := Aside0.mk (Kd.V_elder' (by (with_reducible repeat (first | apply Kd.V_alloc | apply Kd.V_drewN | apply Kd.V_drew)); exact HO1.out) (Kd.N_base ho24) hb)
        have n2_ := Aside0.mk (Kd.V_elder' (by (with_reducible repeat (first | apply Kd.V_alloc | apply Kd.V_drewN | apply Kd.V_drew)); exact HO372.out) (Kd.N_base ho24) hb)
        have n3_ := Aside0.mk (Kd.N_lower ho24 (below_size (hb3_ HB.out GE364.out GE365.out GE367.out)))
        have n4_ := Aside0.mk (blk_below (g := gb364) (o := .cells #[.int .i64 a0_0, .slice A0_1 l0_1.length c0_1, .int .i64 a0_2, .int .i64 a0_3, .slice A0_4 l0_4.length c0_4] 25 (0, 0)) (kb_ BK364.out) hb)
        have n5_ := Aside0.mk (blk_below (g := gb365) (o := .cells #[.int .i64 0, .slice none 0 0, .int .i64 0, .int .i64 0, .slice none 0 0] 25 (0, 0)) (kb_ BK365.out) hb)
        have n6_ := Aside0.mk (blk_below (g := gb367) (o := .cells #[.int .i64 a0_0, .slice A0_1 l0_1.length c0_1, .int .i64 a0_2, .int .i64 a0_3, .slice A0_4 l0_4.length c0_4] 25 (0, 0)) (kb_ BK367.out) hb)
        have n7_ := Aside0.mk (below_step (hb3_ HB.out GE364.out GE365.out GE367.out) hb)
        clear HO0_1
        clear HO1
        clear HO372
        clear BK364
        clear BK365
        clear BK367
        clear HB
        have HO0_1 := n0_
        have HO1 := n1_
        have HO372 := n2_
        have HO375 := n3_
        have BK364 := n4_
        have BK365 := n5_
        have BK367 := n6_
        have HB := n7_
        clear n0_ n1_ n2_ n3_ n4_ n5_ n6_ n7_
        clear hb ho24
        obtain ⟨Ao25, co25, eo25⟩ := Kd.N_slice HO375.out
        (first | subst eo25 | (injection eo25 with f1_ f2_ f3_; have f4_ := f1_.symm; have f5_ := f3_.symm; clear f1_ f2_ f3_; subst f4_; subst f5_))
        refine hK.out _ _ ⟨(blk_cell BK364.out 0).trans rfl, (blk_cell BK364.out 1).trans rfl, (blk_cell BK364.out 2).trans rfl, (blk_cell BK364.out 3).trans rfl, (blk_cell BK364.out 4).trans rfl⟩ (fun hHeld => ?_)
        clear hK K
        refine nm_ 25 ?_
        refine on_ (i := 6) (N := some 26) HT_ (fun K hK => ?_)
        refine goes_ Try.func31 (by kernel_rfl) rfl #[.slice Ao25 y373.length co25] (by rfl) rfl rfl ar_ ?_
        with_reducible refine (slices_Concat_byte_byte.calls k _ _ y373 t376 _ ?side1 ?side2 A8.out).mono ?_
        (case side1 => exact kC_ (Kd.N_reads' HO375.out).2.2)
        (case side2 => exact (Kd.N_reads' HO375.out).2.1)
        rintro e w26 ⟨v377, rfl, ho0, hb⟩
        refine ⟨_, rfl, ?_⟩
        have n0_ := Aside0.mk (Kd.V_elder' (by (with_reducible repeat (first | apply Kd.V_alloc | apply Kd.V_drewN | apply Kd.V_drew)); exact HO0_1.out) (Kd.R_base ho0) hb)
        have n1_ := Aside0.mk (Kd.V_elder' (by (with_reducible repeat (first | apply Kd.V_alloc | apply Kd.V_drewN | apply Kd.V_drew)); exact HO1.out) (Kd.R_base ho0) hb)
        have n2_ := Aside0.mk (Kd.V_elder' (by (with_reducible repeat (first | apply Kd.V_alloc | apply Kd.V_drewN | apply Kd.V_drew)); exact HO372.out) (Kd.R_base ho0) hb)
        have n3_ := Aside0.mk (Kd.N_elder' (by (with_reducible repeat (first | apply Kd.N_alloc | apply Kd.N_drewN | apply Kd.N_drew)); exact HO375.out) (Kd.R_base ho0) hb)
        have n4_ := Aside0.mk (Kd.R_lower (Kd.R_newM (M := fun k_ => (w.heap.size ≤ k_)) ho0 (below_size (hb3_ HB.out GE364.out GE365.out GE367.out)) (fun k_ h_ => h_)) (below_size (hb3_ HB.out GE364.out GE365.out GE367.out)))
        have n5_ := Aside0.mk (blk_below (g := gb364) (o := .cells #[.int .i64 a0_0, .slice A0_1 l0_1.length c0_1, .int .i64 a0_2, .int .i64 a0_3, .slice A0_4 l0_4.length c0_4] 25 (0, 0)) (kb_ BK364.out) hb)
        have n6_ := Aside0.mk (blk_below (g := gb365) (o := .cells #[.int .i64 0, .slice none 0 0, .int .i64 0, .int .i64 0, .slice none 0 0] 25 (0, 0)) (kb_ BK365.out) hb)
        have n7_ := Aside0.mk (blk_below (g := gb367) (o := .cells #[.int .i64 a0_0, .slice A0_1 l0_1.length c0_1, .int .i64 a0_2, .int .i64 a0_3, .slice A0_4 l0_4.length c0_4] 25 (0, 0)) (kb_ BK367.out) hb)
        have n8_ := Aside0.mk (below_step (hb3_ HB.out GE364.out GE365.out GE367.out) hb)
        clear HO0_1
        clear HO1
        clear HO372
        clear HO375
        clear BK364
        clear BK365
        clear BK367
        clear HB
        have HO0_1 := n0_
        have HO1 := n1_
        have HO372 := n2_
        have HO375 := n3_
        have HO378 := n4_
        have BK364 := n5_
        have BK365 := n6_
        have BK367 := n7_
        have HB := n8_
        clear n0_ n1_ n2_ n3_ n4_ n5_ n6_ n7_ n8_
        (try clear hb)
        (try clear hb2)
        (try clear hk)
        (try clear hi)
        (try clear ho0)
        obtain ⟨Ao27, co27, eo27⟩ := Kd.R_slice HO378.out
        (first | subst eo27 | (injection eo27 with f1_ f2_ f3_; have f4_ := f1_.symm; have f5_ := f3_.symm; clear f1_ f2_ f3_; subst f4_; subst f5_))
        refine hK.out _ _ ⟨(blk_cell BK364.out 0).trans rfl, (blk_cell BK364.out 1).trans rfl, (blk_cell BK364.out 2).trans rfl, (blk_cell BK364.out 3).trans rfl, (blk_cell BK364.out 4).trans rfl⟩ (fun hHeld => ?_)
        clear hK K
        refine nm_ 26 ?_
        refine pu_ (i := 7) (N := some 27) HT_ ?_
        refine on_ (i := 8) (N := none) HT_ (fun K hK => ?_)
        have hs28 : w26.cell? ⟨gb367, 1, none⟩ = some (.slice A0_1 l0_1.length c0_1) := (blk_cell BK367.out 1).trans rfl
        have hfs28 := blk_frozen BK367.out 1
        have hns28_0 := NB364_367.out
        have hns28_1 := NB365_367.out
        have hms28_0 := NB367_364.out
        have hms28_1 := NB367_365.out
        refine skip_ (w1 := ?_) (by rfl) rfl ?_ ?_
        rotate_left
        · go_simp
          rfl
        refine hK.out _ _ ⟨((cell_far (p := ⟨gb367, _, none⟩) NB364_367.out _).trans (hHeld.1)), ((cell_far (p := ⟨gb367, _, none⟩) NB364_367.out _).trans (hHeld.2.1)), ((cell_far (p := ⟨gb367, _, none⟩) NB364_367.out _).trans (hHeld.2.2.1)), ((cell_far (p := ⟨gb367, _, none⟩) NB364_367.out _).trans (hHeld.2.2.2.1)), ((cell_far (p := ⟨gb367, _, none⟩) NB364_367.out _).trans (hHeld.2.2.2.2))⟩ (fun hHeld => ?_)
        clear hK K
        refine done_ (done_of HT_.out (by kernel_rfl)) ?_
        have hcz29_0 : w26.cell? ⟨gb367, 0, none⟩ = some (.int .i64 a0_0) := (blk_cell BK367.out 0).trans rfl
        have hcz29_1 : w26.cell? ⟨gb367, 1, none⟩ = some (.slice A0_1 l0_1.length c0_1) := (blk_cell BK367.out 1).trans rfl
        have hcz29_2 : w26.cell? ⟨gb367, 2, none⟩ = some (.int .i64 a0_2) := (blk_cell BK367.out 2).trans rfl
        have hcz29_3 : w26.cell? ⟨gb367, 3, none⟩ = some (.int .i64 a0_3) := (blk_cell BK367.out 3).trans rfl
        have hcz29_4 : w26.cell? ⟨gb367, 4, none⟩ = some (.slice A0_4 l0_4.length c0_4) := (blk_cell BK367.out 4).trans rfl
        have hfz29_0 := blk_frozen BK367.out 0
        have hfz29_1 := blk_frozen BK367.out 1
        have hfz29_2 := blk_frozen BK367.out 2
        have hfz29_3 := blk_frozen BK367.out 3
        have hfz29_4 := blk_frozen BK367.out 4
        try go_wp2_with (first | ((with_reducible refine gate_callee (f := 32) rfl ?_); refine goesL_ (some 29) rfl rfl Try.func32 (by kernel_rfl) rfl #[.agg #[.int .i64 a0_0, .slice Ao27 t376.length co27, .int .i64 a0_2, .int .i64 a0_3, .slice A0_4 l0_4.length c0_4]] rfl ar_ ?_; (with_reducible refine (impl_Mouth_copy.calls a0_0 _ _ t376 a0_2 a0_3 _ _ l0_4 t379 t380 t383 t384 t385 _ ?side1 ?side2 ?side3 ?side4 A9.out).mono ?_); (case side1 => refine (Kd.R_reads' (e := 5) (base := w.heap.size) (ok := fun k_ => ((w.heap.size ≤ k_) ∧ True)) (n := t376.length) (c := co27) ?_).2.2; exact (by refine kR_ ?_; exact (Kd.R_mono (Kd.R_f gb367 1 (.slice Ao27 t376.length co27) (Kd.R_types HO378.out BK367.out (by decide))) (fun _ h_ => op1_ h_)))); (case side2 => exact (Kd.R_reads' HO378.out).2.1); (case side3 => exact Kd.C_below HR0_4.out (hb3_ HB.out GE364.out GE365.out GE367.out)); (case side4 => exact HC0_4.out); rintro e w30 ⟨v381, v386, rfl, ho0, ho1, hb⟩; refine ⟨_, rfl, ?_⟩; have n0_ := Aside0.mk (Kd.V_mono (Kd.V_told (Kd.V_told (Kd.V_old (by (with_reducible repeat (first | apply Kd.V_alloc | apply Kd.V_drewN | apply Kd.V_drew)); exact (Kd.V_mono (Kd.V_far (p := ⟨gb367, 1, none⟩) (Kd.V_mono HO0_1.out (fun k_ hk => (⟨hk, hk.1.1.2.2.2⟩ : _ ∧ k_ ≠ gb367))) (fun _ hk => hk.2) (.slice Ao27 t376.length co27)) (fun _ h_ => op1_ h_))) hb) (Kd.R_base ho0)) (Kd.R_base ho1)) (fun _ h_ => op1_ h_)); have n1_ := Aside0.mk (Kd.V_mono (Kd.V_told (Kd.V_told (Kd.V_old (by (with_reducible repeat (first | apply Kd.V_alloc | apply Kd.V_drewN | apply Kd.V_drew)); exact (Kd.V_mono (Kd.V_far (p := ⟨gb367, 1, none⟩) (Kd.V_mono HO1.out (fun k_ hk => (⟨hk, hk.1.1.2.2.2⟩ : _ ∧ k_ ≠ gb367))) (fun _ hk => hk.2) (.slice Ao27 t376.length co27)) (fun _ h_ => op1_ h_))) hb) (Kd.R_base ho0)) (Kd.R_base ho1)) (fun _ h_ => op1_ h_)); have n2_ := Aside0.mk (Kd.V_mono (Kd.V_told (Kd.V_told (Kd.V_old (by (with_reducible repeat (first | apply Kd.V_alloc | apply Kd.V_drewN | apply Kd.V_drew)); exact (Kd.V_mono (Kd.V_far (p := ⟨gb367, 1, none⟩) (Kd.V_mono HO372.out (fun k_ hk => (⟨hk, hk.1.1.2.2.2⟩ : _ ∧ k_ ≠ gb367))) (fun _ hk => hk.2) (.slice Ao27 t376.length co27)) (fun _ h_ => op1_ h_))) hb) (Kd.R_base ho0)) (Kd.R_base ho1)) (fun _ h_ => op1_ h_)); have n3_ := Aside0.mk (Kd.N_mono (Kd.N_told (Kd.N_told (Kd.N_old (by (with_reducible repeat (first | apply Kd.N_alloc | apply Kd.N_drewN | apply Kd.N_drew)); exact (Kd.N_mono (Kd.N_far (p := ⟨gb367, 1, none⟩) (Kd.N_mono HO375.out (fun k_ hk => (⟨hk, hk.1.2.2.2⟩ : _ ∧ k_ ≠ gb367))) (fun _ hk => hk.2) (.slice Ao27 t376.length co27)) (fun _ h_ => op1_ h_))) hb) (Kd.R_base ho0)) (Kd.R_base ho1)) (fun _ h_ => op1_ h_)); have n4_ := Aside0.mk (Kd.R_elder' (by refine kR_ ?_; exact (Kd.R_mono (Kd.R_f gb367 1 (.slice Ao27 t376.length co27) (Kd.R_types HO378.out BK367.out (by decide))) (fun _ h_ => op1_ h_))) (Kd.R_base ho0) hb); have n5_ := Aside0.mk (Kd.R_lower (Kd.R_new' (Kd.R_newM (M := fun k_ => (w.heap.size ≤ k_)) ho0 (below_size (hb3_ HB.out GE364.out GE365.out GE367.out)) (fun k_ h_ => h_)) (Kd.R_lt (by refine kR_ ?_; exact (Kd.R_mono (Kd.R_f gb367 1 (.slice Ao27 t376.length co27) (Kd.R_types HO378.out BK367.out (by decide))) (fun _ h_ => op1_ h_))))) (below_size (hb3_ HB.out GE364.out GE365.out GE367.out))); have n6_ := Aside0.mk (Kd.R_lower (Kd.R_newM (M := fun k_ => (w.heap.size ≤ k_)) ho1 (below_size (hb3_ HB.out GE364.out GE365.out GE367.out)) (fun k_ h_ => h_)) (below_size (hb3_ HB.out GE364.out GE365.out GE367.out))); have n7_ := Aside0.mk (blk_below (g := gb364) (o := .cells #[.int .i64 a0_0, .slice A0_1 l0_1.length c0_1, .int .i64 a0_2, .int .i64 a0_3, .slice A0_4 l0_4.length c0_4] 25 (0, 0)) (by refine kb_ ?_; refine blk_far ?_ NB364_367.out _; refine kb_ ?_; exact BK364.out) hb); have n8_ := Aside0.mk (blk_below (g := gb365) (o := .cells #[.int .i64 0, .slice none 0 0, .int .i64 0, .int .i64 0, .slice none 0 0] 25 (0, 0)) (by refine kb_ ?_; refine blk_far ?_ NB365_367.out _; refine kb_ ?_; exact BK365.out) hb); have n9_ := Aside0.mk (blk_below (g := gb367) (o := .cells #[.int .i64 a0_0, .slice Ao27 t376.length co27, .int .i64 a0_2, .int .i64 a0_3, .slice A0_4 l0_4.length c0_4] 25 (0, 0)) (by refine kb_ ?_; refine blk_put (cs := #[.int .i64 a0_0, .slice A0_1 l0_1.length c0_1, .int .i64 a0_2, .int .i64 a0_3, .slice A0_4 l0_4.length c0_4]) ?_ 1 _ rfl; refine kb_ ?_; exact BK367.out) hb); have n10_ := Aside0.mk (below_step (hb3_ HB.out GE364.out GE365.out GE367.out) hb); clear HO0_1; clear HO1; clear HO372; clear HO375; clear HO378; clear BK364; clear BK365; clear BK367; clear HB; have HO0_1 := n0_; have HO1 := n1_; have HO372 := n2_; have HO375 := n3_; have HO378 := n4_; have HO382 := n5_; have HO387 := n6_; have BK364 := n7_; have BK365 := n8_; have BK367 := n9_; have HB := n10_; clear n0_ n1_ n2_ n3_ n4_ n5_ n6_ n7_ n8_ n9_ n10_; (try clear hb); (try clear hb2); (try clear hk); (try clear hi); (try clear ho0); (try clear ho1); have hcz31_0 : w30.cell? ⟨gb365, 0, none⟩ = some (.int .i64 0) := (blk_cell BK365.out 0).trans rfl; have hcz31_1 : w30.cell? ⟨gb365, 1, none⟩ = some (.slice none 0 0) := (blk_cell BK365.out 1).trans rfl; have hcz31_2 : w30.cell? ⟨gb365, 2, none⟩ = some (.int .i64 0) := (blk_cell BK365.out 2).trans rfl; have hcz31_3 : w30.cell? ⟨gb365, 3, none⟩ = some (.int .i64 0) := (blk_cell BK365.out 3).trans rfl; have hcz31_4 : w30.cell? ⟨gb365, 4, none⟩ = some (.slice none 0 0) := (blk_cell BK365.out 4).trans rfl; have hfz31_0 := blk_frozen BK365.out 0; have hfz31_1 := blk_frozen BK365.out 1; have hfz31_2 := blk_frozen BK365.out 2; have hfz31_3 := blk_frozen BK365.out 3; have hfz31_4 := blk_frozen BK365.out 4; obtain ⟨Ao32, co32, eo32⟩ := Kd.R_slice HO382.out; subst eo32; obtain ⟨Ao33, co33, eo33⟩ := Kd.R_slice HO387.out; subst eo33))
        refine bodyPost_ret (results_ct rfl _ _ gb365 25 #[.int .i64 t379, .slice Ao32 t380.length co32, .int .i64 t383, .int .i64 t384, .slice Ao33 t385.length co33] (0, 0) _ rfl (by refine kb_ ?_; refine blk_put (cs := #[.int .i64 t379, .slice Ao32 t380.length co32, .int .i64 t383, .int .i64 t384, .slice none 0 0]) ?_ 4 _ rfl; refine kb_ ?_; refine blk_put (cs := #[.int .i64 t379, .slice Ao32 t380.length co32, .int .i64 t383, .int .i64 0, .slice none 0 0]) ?_ 3 _ rfl; refine kb_ ?_; refine blk_put (cs := #[.int .i64 t379, .slice Ao32 t380.length co32, .int .i64 0, .int .i64 0, .slice none 0 0]) ?_ 2 _ rfl; refine kb_ ?_; refine blk_put (cs := #[.int .i64 t379, .slice none 0 0, .int .i64 0, .int .i64 0, .slice none 0 0]) ?_ 1 _ rfl; refine kb_ ?_; refine blk_put (cs := #[.int .i64 0, .slice none 0 0, .int .i64 0, .int .i64 0, .slice none 0 0]) ?_ 0 _ rfl; refine kb_ ?_; exact BK365.out) Try.underlying25 rfl (by kernel_rfl)) rfl ?_
        exact ⟨_, _, by first | rfl | (simp [errW_none, errW_some] <;> rfl) | (simp only [← hji5]; first | rfl | (simp [errW_none, errW_some] <;> rfl)) | (simp [*, errW_none, errW_some] <;> rfl), by refine kR_ ?_; exact Kd.R_mono (Kd.R_f gb365 4 (.slice Ao33 t385.length co33) (Kd.R_f gb365 3 (.int .i64 t384) (Kd.R_f gb365 2 (.int .i64 t383) (Kd.R_f gb365 1 (.slice Ao32 t380.length co32) (Kd.R_f gb365 0 (.int .i64 t379) (Kd.R_types HO382.out BK365.out (by decide))))))) (fun _ hk => hk.1.1.1), by refine kR_ ?_; exact Kd.R_mono (Kd.R_f gb365 4 (.slice Ao33 t385.length co33) (Kd.R_f gb365 3 (.int .i64 t384) (Kd.R_f gb365 2 (.int .i64 t383) (Kd.R_f gb365 1 (.slice Ao32 t380.length co32) (Kd.R_f gb365 0 (.int .i64 t379) (Kd.R_types HO387.out BK365.out (by decide))))))) (fun _ hk => hk.1.1), by repeat (first | (with_reducible first | exact HB.out | apply below_alloc | apply pw_below_drewN | apply below_drew1 | refine below_set ?_ GE364.out | refine below_set ?_ GE365.out | refine below_set ?_ GE367.out) | exact HB.out)⟩
      · rw [if_neg c7] at H
        exact absurd H (by simp)
    · rw [if_neg c6] at H
      exact absurd H (by simp)
  · replace c4 := Bool.eq_false_iff.mpr c4
    subst c4
    have H1 : (some (0, ([] : List Int), 0, 0, ([] : List (S60)), 0)) = some (r1, r2, r3, r4, r5, r6) := by rw [if_neg (show ¬ (false = true) by decide)] at H; exact H
    clear H
    have H := H1
    clear H1
    simp only [Option.some.injEq, Prod.mk.injEq] at H
    obtain ⟨rfl, rfl, rfl, rfl, rfl, rfl⟩ := H
    go_enter Try.func7, Try.ntmps7
    go_wp2_with (first | ((with_reducible refine gate_dst (N := 2) rfl ?_); refine box_event ?hg (N := 2) ?hd (cs := #[.int .i64 a0_0, .slice A0_1 l0_1.length c0_1, .int .i64 a0_2, .int .i64 a0_3, .slice A0_4 l0_4.length c0_4]) (t := 25) ?hr ?_; (case hd => rfl); (case hg => rfl); (case hr => first | (go_simp; done) | (go_simp; rfl)); intro gb364 hg w34 hbox hb; have n0_ := Aside0.mk (Kd.V_below (Kd.V_elderB (by (with_reducible repeat (first | apply Kd.V_alloc | apply Kd.V_drewN | apply Kd.V_drew)); exact HO0_1.out) gb364 (Nat.le_of_eq hg.symm)) hb); have n1_ := Aside0.mk (Kd.V_below (Kd.V_elderB (by (with_reducible repeat (first | apply Kd.V_alloc | apply Kd.V_drewN | apply Kd.V_drew)); exact HO1.out) gb364 (Nat.le_of_eq hg.symm)) hb); have n2_ := Aside0.mk (below_step (hb0_ HB.out) hb); have n3_ := Aside0.mk (hbox); have n4_ := Aside0.mk ((by rw [hg]; exact (below_size (hb0_ HB.out)) : w.heap.size ≤ gb364)); have n5_ := Aside0.mk ((by rw [hg]; exact (below_size (hb0_ HB.out)) : w.heap.size ≤ gb364)); clear HO0_1; clear HO1; clear HB; have HO0_1 := n0_; have HO1 := n1_; have HB := n2_; have BK364 := n3_; have GW364 := n4_; have GE364 := n5_; clear n0_ n1_ n2_ n3_ n4_ n5_; clear hb hbox hg) | ((with_reducible refine gate_dst (N := 4) rfl ?_); refine box_event ?hg (N := 4) ?hd (cs := #[.int .i64 0, .slice none 0 0, .int .i64 0, .int .i64 0, .slice none 0 0]) (t := 25) ?hr ?_; (case hd => rfl); (case hg => rfl); (case hr => first | (go_simp; done) | (go_simp; rfl)); intro gb365 hg w35 hbox hb; have n0_ := Aside0.mk (Kd.V_below (Kd.V_elderB (by (with_reducible repeat (first | apply Kd.V_alloc | apply Kd.V_drewN | apply Kd.V_drew)); exact HO0_1.out) gb365 (Nat.le_of_eq hg.symm)) hb); have n1_ := Aside0.mk (Kd.V_below (Kd.V_elderB (by (with_reducible repeat (first | apply Kd.V_alloc | apply Kd.V_drewN | apply Kd.V_drew)); exact HO1.out) gb365 (Nat.le_of_eq hg.symm)) hb); have n2_ := Aside0.mk (blk_below (g := gb364) (o := .cells #[.int .i64 a0_0, .slice A0_1 l0_1.length c0_1, .int .i64 a0_2, .int .i64 a0_3, .slice A0_4 l0_4.length c0_4] 25 (0, 0)) (kb_ BK364.out) hb); have n3_ := Aside0.mk (below_step (hb1_ HB.out GE364.out) hb); have n4_ := Aside0.mk (hbox); have n5_ := Aside0.mk ((by rw [hg]; exact (below_size (hb1_ HB.out GE364.out)) : w.heap.size ≤ gb365)); have n6_ := Aside0.mk ((by rw [hg]; exact (below_size (hb1_ HB.out GE364.out)) : w.heap.size ≤ gb365)); have n7_ := Aside0.mk ((by rw [hg]; exact Nat.ne_of_lt (blk_lt (g := gb364) (o := .cells #[.int .i64 a0_0, .slice A0_1 l0_1.length c0_1, .int .i64 a0_2, .int .i64 a0_3, .slice A0_4 l0_4.length c0_4] 25 (0, 0)) (kb_ BK364.out)) : gb364 ≠ gb365)); have n8_ := Aside0.mk ((by rw [hg]; exact Nat.ne_of_gt (blk_lt (g := gb364) (o := .cells #[.int .i64 a0_0, .slice A0_1 l0_1.length c0_1, .int .i64 a0_2, .int .i64 a0_3, .slice A0_4 l0_4.length c0_4] 25 (0, 0)) (kb_ BK364.out)) : gb365 ≠ gb364)); clear HO0_1; clear HO1; clear BK364; clear HB; have HO0_1 := n0_; have HO1 := n1_; have BK364 := n2_; have HB := n3_; have BK365 := n4_; have GW365 := n5_; have GE365 := n6_; have NB364_365 := n7_; have NB365_364 := n8_; clear n0_ n1_ n2_ n3_ n4_ n5_ n6_ n7_ n8_; clear hb hbox hg; have hnb36 := NB364_365.out; have hnc36 := NB365_364.out; have hcz37_0 : w35.cell? ⟨gb364, 0, none⟩ = some (.int .i64 a0_0) := (blk_cell BK364.out 0).trans rfl; have hcz37_1 : w35.cell? ⟨gb364, 1, none⟩ = some (.slice A0_1 l0_1.length c0_1) := (blk_cell BK364.out 1).trans rfl; have hcz37_2 : w35.cell? ⟨gb364, 2, none⟩ = some (.int .i64 a0_2) := (blk_cell BK364.out 2).trans rfl; have hcz37_3 : w35.cell? ⟨gb364, 3, none⟩ = some (.int .i64 a0_3) := (blk_cell BK364.out 3).trans rfl; have hcz37_4 : w35.cell? ⟨gb364, 4, none⟩ = some (.slice A0_4 l0_4.length c0_4) := (blk_cell BK364.out 4).trans rfl; have hfz37_0 := blk_frozen BK364.out 0; have hfz37_1 := blk_frozen BK364.out 1; have hfz37_2 := blk_frozen BK364.out 2; have hfz37_3 := blk_frozen BK364.out 3; have hfz37_4 := blk_frozen BK364.out 4) | ((with_reducible refine gate_callee (f := 10) rfl ?_); refine goesL_ (some 9) rfl rfl Try.func10 (by kernel_rfl) rfl #[.agg #[.int .i64 a0_0, .slice A0_1 l0_1.length c0_1, .int .i64 a0_2, .int .i64 a0_3, .slice A0_4 l0_4.length c0_4]] rfl ar_ ?_; (with_reducible refine (impl_MouthOk.calls k a0_0 _ _ l0_1 a0_2 a0_3 _ _ l0_4 false _ ?side1 ?side2 ?side3 ?side4 A3.out).mono ?_); (case side1 => exact kC_ (Kd.V_reads' HO0_1.out).2.2); (case side2 => exact (Kd.V_reads' HO0_1.out).2.1); (case side3 => exact kC_ (Kd.C_below HR0_4.out HB.out)); (case side4 => exact HC0_4.out); rintro e w38 ⟨rfl, hb⟩; refine ⟨_, rfl, ?_⟩; have n0_ := Aside0.mk (Kd.V_below (by (with_reducible repeat (first | apply Kd.V_alloc | apply Kd.V_drewN | apply Kd.V_drew)); exact HO0_1.out) hb); have n1_ := Aside0.mk (Kd.V_below (by (with_reducible repeat (first | apply Kd.V_alloc | apply Kd.V_drewN | apply Kd.V_drew)); exact HO1.out) hb); have n2_ := Aside0.mk (blk_below (g := gb364) (o := .cells #[.int .i64 a0_0, .slice A0_1 l0_1.length c0_1, .int .i64 a0_2, .int .i64 a0_3, .slice A0_4 l0_4.length c0_4] 25 (0, 0)) (kb_ BK364.out) hb); have n3_ := Aside0.mk (blk_below (g := gb365) (o := .cells #[.int .i64 0, .slice none 0 0, .int .i64 0, .int .i64 0, .slice none 0 0] 25 (0, 0)) (kb_ BK365.out) hb); have n4_ := Aside0.mk (below_step (hb2_ HB.out GE364.out GE365.out) hb); clear HO0_1; clear HO1; clear BK364; clear BK365; clear HB; have HO0_1 := n0_; have HO1 := n1_; have BK364 := n2_; have BK365 := n3_; have HB := n4_; clear n0_ n1_ n2_ n3_ n4_; (try clear hb); (try clear hb2); (try clear hk); (try clear hi); have hcz39_0 : w38.cell? ⟨gb365, 0, none⟩ = some (.int .i64 0) := (blk_cell BK365.out 0).trans rfl; have hcz39_1 : w38.cell? ⟨gb365, 1, none⟩ = some (.slice none 0 0) := (blk_cell BK365.out 1).trans rfl; have hcz39_2 : w38.cell? ⟨gb365, 2, none⟩ = some (.int .i64 0) := (blk_cell BK365.out 2).trans rfl; have hcz39_3 : w38.cell? ⟨gb365, 3, none⟩ = some (.int .i64 0) := (blk_cell BK365.out 3).trans rfl; have hcz39_4 : w38.cell? ⟨gb365, 4, none⟩ = some (.slice none 0 0) := (blk_cell BK365.out 4).trans rfl; have hfz39_0 := blk_frozen BK365.out 0; have hfz39_1 := blk_frozen BK365.out 1; have hfz39_2 := blk_frozen BK365.out 2; have hfz39_3 := blk_frozen BK365.out 3; have hfz39_4 := blk_frozen BK365.out 4))
    refine bodyPost_ret (results_ct rfl _ _ gb365 25 #[.int .i64 0, .slice none 0 0, .int .i64 0, .int .i64 0, .slice none 0 0] (0, 0) _ rfl (by refine kb_ ?_; refine blk_put (cs := #[.int .i64 0, .slice none 0 0, .int .i64 0, .int .i64 0, .slice none 0 0]) ?_ 4 _ rfl; refine kb_ ?_; refine blk_put (cs := #[.int .i64 0, .slice none 0 0, .int .i64 0, .int .i64 0, .slice none 0 0]) ?_ 3 _ rfl; refine kb_ ?_; refine blk_put (cs := #[.int .i64 0, .slice none 0 0, .int .i64 0, .int .i64 0, .slice none 0 0]) ?_ 2 _ rfl; refine kb_ ?_; refine blk_put (cs := #[.int .i64 0, .slice none 0 0, .int .i64 0, .int .i64 0, .slice none 0 0]) ?_ 1 _ rfl; refine kb_ ?_; refine blk_put (cs := #[.int .i64 0, .slice none 0 0, .int .i64 0, .int .i64 0, .slice none 0 0]) ?_ 0 _ rfl; refine kb_ ?_; exact BK365.out) Try.underlying25 rfl (by kernel_rfl)) rfl ?_
    exact ⟨_, _, by first | rfl | (simp [errW_none, errW_some] <;> rfl) | (simp [*, errW_none, errW_some] <;> rfl), by first | exact Kd.R_nil _ _ _ _ _ | exact Kd.N_nil _ _ _ _ _ | exact Kd.V_nil _ _ _ _ _ | exact Kd.Q_nil _ _ _ _ _ | exact Kd.S_nil _ _ _ _ _, by first | exact Kd.R_nil _ _ _ _ _ | exact Kd.N_nil _ _ _ _ _ | exact Kd.V_nil _ _ _ _ _ | exact Kd.Q_nil _ _ _ _ _ | exact Kd.S_nil _ _ _ _ _, by repeat (first | (with_reducible first | exact HB.out | apply below_alloc | apply pw_below_drewN | apply below_drew1 | refine below_set ?_ GE364.out | refine below_set ?_ GE365.out) | exact HB.out)⟩
set_option maxHeartbeats 8000000 in
theorem impl_MouthWrite.calls (k : Nat) (a0_0 : Int) (A0_1 : Option Addr) (c0_1 : Nat) (l0_1 : List Int) (a0_2 : Int) (a0_3 : Int) (A0_4 : Option Addr) (c0_4 : Nat) (l0_4 : List (S60)) (A1 : Option Addr) (c1 : Nat) (l1 : List Int) (r1 : Int) (r2 : List Int) (r3 : Int) (r4 : Int) (r5 : List (S60)) (r6 : Int) (w : World) (hr0_1 : Kd.C (Kd.int .u8) w A0_1 l0_1.length l0_1) (hc0_1 : l0_1.length ≤ c0_1) (hr0_4 : Kd.C k60 w A0_4 l0_4.length l0_4) (hc0_4 : l0_4.length ≤ c0_4) (hr1 : Kd.C (Kd.int .u8) w A1 l1.length l1) (hc1 : l1.length ≤ c1) (h : impl_MouthWrite.f k a0_0 l0_1 a0_2 a0_3 l0_4 l1 = some (r1, r2, r3, r4, r5, r6)) :
    Calls Try.prog 7 #[.agg #[.int .i64 a0_0, .slice A0_1 l0_1.length c0_1, .int .i64 a0_2, .int .i64 a0_3, .slice A0_4 l0_4.length c0_4], .slice A1 l1.length c1] w fun e w' => ∃ v1_ v4_ : Value, e = .returned (.tuple #[.agg #[.int .i64 r1, v1_, .int .i64 r3, .int .i64 r4, v4_], .int .i64 r6]) ∧ Kd.R (Kd.int .u8) 5 w' w.heap.size (fun _ => True) v1_ r2 ∧ Kd.R k60 60 w' w.heap.size (fun _ => True) v4_ r5 ∧ Below w.heap.size w w' := by
  refine (impl_MouthWrite.callsV k a0_0 (fun _ => True) A0_1 c0_1 l0_1 a0_2 a0_3 A0_4 c0_4 l0_4 (fun _ => True) A1 c1 l1 r1 r2 r3 r4 r5 r6 w (Kd.V_mk hc0_1 (fun W_ hW_ => Kd.Heap.C (Kd.heap_int .u8) (fun k_ hlt_ => hW_ k_ trivial hlt_) hr0_1)) hr0_4 hc0_4 (Kd.V_mk hc1 (fun W_ hW_ => Kd.Heap.C (Kd.heap_int .u8) (fun k_ hlt_ => hW_ k_ trivial hlt_) hr1)) h).mono ?_
  rintro e w' ⟨v1_, v4_, rfl, ho1, ho4, hb⟩
  exact ⟨v1_, v4_, rfl, Kd.R_mono ho1 (fun k_ hk_ => trivial), Kd.R_mono ho4 (fun k_ hk_ => trivial), hb⟩

/-! ### laws_sameBytes: function 12 -/
def laws_sameBytes.f (l0 : List Int) (l1 : List Int) : Option (Bool) := some ((strOfNums l0).toList == (strOfNums l1).toList)
set_option maxHeartbeats 8000000 in
set_option maxRecDepth 100000 in
theorem laws_sameBytes.calls (A0 : Option Addr) (c0 : Nat) (l0 : List Int) (A1 : Option Addr) (c1 : Nat) (l1 : List Int) (r : Bool) (w : World) (hr0 : Kd.C (Kd.int .u8) w A0 l0.length l0) (hc0 : l0.length ≤ c0) (hr1 : Kd.C (Kd.int .u8) w A1 l1.length l1) (hc1 : l1.length ≤ c1) (h : laws_sameBytes.f l0 l1 = some r) :
    Calls Try.prog 12 #[.slice A0 l0.length c0, .slice A1 l1.length c1] w fun e w' => e = .returned (.bool r) ∧ Drawn0 w w' := by
  have HR0 := Aside0.mk hr0
  have HC0 := Aside0.mk hc0
  clear hr0 hc0
  have HR1 := Aside0.mk hr1
  have HC1 := Aside0.mk hc1
  clear hr1 hc1
  have H : (some ((strOfNums l0).toList == (strOfNums l1).toList)) = some r := h
  clear h
  obtain rfl := Option.some.inj H
  have hcv3 := Kd.C_string (P := Try.prog) (A := A0) (c := c0) Try.underlying22 Try.underlying5 Try.underlying9 HR0.out
  have hcv4 := Kd.C_string (P := Try.prog) (A := A1) (c := c1) Try.underlying22 Try.underlying5 Try.underlying9 HR1.out
  go_enter Try.func12, Try.ntmps12
  go_wp2
  go_ret
  exact ⟨by first | rfl | (simp; done) | (simp [*]; done), by repeat (first | exact Drawn0.refl _ | apply Drawn0.step)⟩

/-! ### laws_sameRanges: function 35 -/
def laws_sameRanges.l0 : Nat → List (S60) → List (S60) → Int → Option (Bool)
  | 0, _, _, _ => none
  | k + 1, x0, x1, x5 => if x5 < (x0.length : Int) then (if 0 ≤ x5 then (if x5 < (x1.length : Int) then (if (!(((rd_T60 x0 x5).f0) == ((rd_T60 x1 x5).f0)) || (!(((rd_T60 x0 x5).f1) == ((rd_T60 x1 x5).f1)))) = true then (some false) else (laws_sameRanges.l0 k x0 x1 (wrap64 (x5 + 1)))) else (none)) else (none)) else (some true)
def laws_sameRanges.f (k : Nat) (l0 : List (S60)) (l1 : List (S60)) : Option (Bool) := if (l0.length : Int) = (l1.length : Int) then (laws_sameRanges.l0 k l0 l1 0) else (some false)
theorem laws_sameRanges.mono_l : ∀ k, (∀ y0 y1 y2, LeO (laws_sameRanges.l0 k y0 y1 y2) (laws_sameRanges.l0 (k + 1) y0 y1 y2))
  | 0 => fun _ _ _ r h => by simp [laws_sameRanges.l0] at h
  | k + 1 => by
    have ih0 := laws_sameRanges.mono_l k
    · intro y0 y1 y2
      unfold laws_sameRanges.l0
      repeat' first
      | (with_reducible exact ih0 _ _ _)
      | (with_reducible exact LeO.refl _)
      | (with_reducible exact LeO.none _)
      | (with_reducible refine LeO.ite ?_ ?_)
      | (with_reducible refine LeO.bind ?_ (fun _ => ?_))
      | exact ih0 _ _ _
      | exact LeO.none _
      | refine LeO.ite ?_ ?_
      | refine LeO.bind ?_ (fun _ => ?_)
theorem laws_sameRanges.mono : ∀ a0 a1 k, LeO (laws_sameRanges.f k a0 a1) (laws_sameRanges.f (k + 1) a0 a1) := by
  intro a0 a1 k
  have ih0 := laws_sameRanges.mono_l k
  unfold laws_sameRanges.f
  repeat' first
      | (with_reducible exact ih0 _ _ _)
      | (with_reducible exact LeO.refl _)
      | (with_reducible exact LeO.none _)
      | (with_reducible refine LeO.ite ?_ ?_)
      | (with_reducible refine LeO.bind ?_ (fun _ => ?_))
      | exact ih0 _ _ _
      | exact LeO.none _
      | refine LeO.ite ?_ ?_
      | refine LeO.bind ?_ (fun _ => ?_)
set_option maxHeartbeats 8000000 in
set_option maxRecDepth 100000 in
theorem laws_sameRanges.calls (k : Nat) (A0 : Option Addr) (c0 : Nat) (l0 : List (S60)) (A1 : Option Addr) (c1 : Nat) (l1 : List (S60)) (r : Bool) (w : World) (hr0 : Kd.C k60 w A0 l0.length l0) (hc0 : l0.length ≤ c0) (hr1 : Kd.C k60 w A1 l1.length l1) (hc1 : l1.length ≤ c1) (h : laws_sameRanges.f k l0 l1 = some r) :
    Calls Try.prog 35 #[.slice A0 l0.length c0, .slice A1 l1.length c1] w fun e w' => e = .returned (.bool r) ∧ Drawn0 w w' := by
  have hu60 := Try.underlying60
  have HR0 := Aside0.mk hr0
  have HC0 := Aside0.mk hc0
  clear hr0 hc0
  have HR1 := Aside0.mk hr1
  have HC1 := Aside0.mk hc1
  clear hr1 hc1
  have H : (if (l0.length : Int) = (l1.length : Int) then (laws_sameRanges.l0 k l0 l1 0) else (some false)) = some r := h
  clear h
  by_cases c3 : (l0.length : Int) = (l1.length : Int)
  · rw [if_pos c3] at H
    have c3b0 : ((l0.length : Int) == (l1.length : Int)) = true := beq_iff_eq.mpr c3
    have c3b1 : ((l0.length : Int) != (l1.length : Int)) = false := bne_eq_false_iff_eq.mpr c3
    have c3b2 : (l0.length == l1.length) = true := by first | simpa using c3 | (simp at c3 ⊢; omega)
    clear c3
    have H' := Aside0.mk H
    clear H
    go_enter Try.func35, Try.ntmps35
    go_wp2
    repeat (go_quiet (fail); try go_wp2)
    go_loopg [5] k (fun kq v5 w' => ∃ (x5_1 : Int), v5 = .int .i64 x5_1 ∧ Aside0 (laws_sameRanges.l0 kq l0 l1 x5_1 = some r) ∧ Aside0 (kq ≤ k) ∧ Drawn0 w w')
    case atStart => exact ⟨(0), (by first | rfl | (simp; done) | (simp [*]; done)), H', ⟨Nat.le_refl _⟩, by repeat (first | exact Drawn0.refl _ | apply Drawn0.step)⟩
    case round =>
      clear H'
      try clear c1
      try clear p2
      try clear c3
      try clear c3b0
      try clear c3b1
      try clear c3b2
      obtain ⟨x5_1, rfl, HA, HK1, ⟨m1, rfl⟩⟩ := hrel
      cases gk with
      | zero => exact absurd HA.out (by simp [laws_sameRanges.l0])
      | succ k1 =>
        have H := HA.out
        clear HA
        simp only [laws_sameRanges.l0] at H
        by_cases c4 : x5_1 < (l0.length : Int)
        · rw [if_pos c4] at H
          have c4b0 : decide (x5_1 < (l0.length : Int)) = true := decide_eq_true c4
          clear c4
          by_cases c5 : 0 ≤ x5_1
          · rw [if_pos c5] at H
            have c5b0 : decide (0 ≤ x5_1) = true := decide_eq_true c5
            clear c5
            by_cases c6 : x5_1 < (l1.length : Int)
            · rw [if_pos c6] at H
              have c6b0 : decide (x5_1 < (l1.length : Int)) = true := decide_eq_true c6
              clear c6
              by_cases c7 : (!(((rd_T60 l0 x5_1).f0) == ((rd_T60 l1 x5_1).f0)) || (!(((rd_T60 l0 x5_1).f1) == ((rd_T60 l1 x5_1).f1)))) = true
              · rw [if_pos c7] at H
                have c7b0 : (!(((rd_T60 l0 x5_1).f0) == ((rd_T60 l1 x5_1).f0)) || (!(((rd_T60 l0 x5_1).f1) == ((rd_T60 l1 x5_1).f1)))) = true := c7
                clear c7
                obtain rfl := Option.some.inj H
                have p388 : 0 ≤ (x5_1 : Int) := of_decide_eq_true (by first | (with_reducible assumption) | assumption)
                have q388 : x5_1 < (l0.length : Int) := of_decide_eq_true (by first | (with_reducible assumption) | assumption)
                obtain ⟨ad388, e388, hx388_0, hx388_1⟩ := at_T60 HR0.out x5_1 p388 q388
                cases e388
                replace p388 := eq_true p388
                replace q388 := eq_true q388
                have p389 : 0 ≤ (x5_1 : Int) := of_decide_eq_true (by first | (with_reducible assumption) | assumption)
                have q389 : x5_1 < (l1.length : Int) := of_decide_eq_true (by first | (with_reducible assumption) | assumption)
                obtain ⟨ad389, e389, hx389_0, hx389_1⟩ := at_T60 HR1.out x5_1 p389 q389
                cases e389
                replace p389 := eq_true p389
                replace q389 := eq_true q389
                go_wp2
                repeat (go_quiet (fail); try go_wp2)
                go_ret
                exact ⟨by first | rfl | (simp; done) | (simp [*]; done), by repeat (first | exact Drawn0.refl _ | apply Drawn0.step)⟩
              · rw [if_neg c7] at H
                have c7b0 : (!(((rd_T60 l0 x5_1).f0) == ((rd_T60 l1 x5_1).f0)) || (!(((rd_T60 l0 x5_1).f1) == ((rd_T60 l1 x5_1).f1)))) = false := by simpa using c7
                clear c7
                have H' := Aside0.mk H
                clear H
                have p388 : 0 ≤ (x5_1 : Int) := of_decide_eq_true (by first | (with_reducible assumption) | assumption)
                have q388 : x5_1 < (l0.length : Int) := of_decide_eq_true (by first | (with_reducible assumption) | assumption)
                obtain ⟨ad388, e388, hx388_0, hx388_1⟩ := at_T60 HR0.out x5_1 p388 q388
                cases e388
                replace p388 := eq_true p388
                replace q388 := eq_true q388
                have p389 : 0 ≤ (x5_1 : Int) := of_decide_eq_true (by first | (with_reducible assumption) | assumption)
                have q389 : x5_1 < (l1.length : Int) := of_decide_eq_true (by first | (with_reducible assumption) | assumption)
                obtain ⟨ad389, e389, hx389_0, hx389_1⟩ := at_T60 HR1.out x5_1 p389 q389
                cases e389
                replace p389 := eq_true p389
                replace q389 := eq_true q389
                go_wp2
                repeat (go_quiet (fail); try go_wp2)
                go_roundg k1
                case measure => have := HK1.out; omega
                case rel => exact ⟨(wrap64 (x5_1 + 1)), (by first | rfl | (simp; done) | (simp [*]; done)), H', ⟨by have := HK1.out; omega⟩, by repeat (first | exact Drawn0.refl _ | apply Drawn0.step)⟩
            · rw [if_neg c6] at H
              exact absurd H (by simp)
          · rw [if_neg c5] at H
            exact absurd H (by simp)
        · rw [if_neg c4] at H
          have c4b0 : decide (x5_1 < (l0.length : Int)) = false := decide_eq_false c4
          clear c4
          obtain rfl := Option.some.inj H
          go_wp2
          repeat (go_quiet (fail); try go_wp2)
          go_ret
          exact ⟨by first | rfl | (simp; done) | (simp [*]; done), by repeat (first | exact Drawn0.refl _ | apply Drawn0.step)⟩
  · rw [if_neg c3] at H
    have c3b0 : ((l0.length : Int) == (l1.length : Int)) = false := beq_eq_false_iff_ne.mpr c3
    have c3b1 : ((l0.length : Int) != (l1.length : Int)) = true := bne_iff_ne.mpr c3
    have c3b2 : (l0.length == l1.length) = false := by first | simpa using c3 | (simp at c3 ⊢; omega)
    obtain rfl := Option.some.inj H
    go_enter Try.func35, Try.ntmps35
    go_wp2
    repeat (go_quiet (fail); try go_wp2)
    go_ret
    exact ⟨by first | rfl | (simp; done) | (simp [*]; done), by repeat (first | exact Drawn0.refl _ | apply Drawn0.step)⟩

/-! ### laws_sameMouth: function 9 -/
def laws_sameMouth.f (k : Nat) (a0_0 : Int) (l0_1 : List Int) (a0_2 : Int) (a0_3 : Int) (l0_4 : List (S60)) (a1_0 : Int) (l1_1 : List Int) (a1_2 : Int) (a1_3 : Int) (l1_4 : List (S60)) : Option (Bool) := if a0_0 = a1_0 then (if a0_2 = a1_2 then (if a0_3 = a1_3 then ((laws_sameBytes.f l0_1 l1_1).bind fun t392 => (if t392 = true then ((laws_sameRanges.f k l0_4 l1_4).bind fun t393 => (some t393)) else (some false))) else (some false)) else (some false)) else (some false)
theorem laws_sameMouth.mono : ∀ a0 a1 a2 a3 a4 a5 a6 a7 a8 a9 k, LeO (laws_sameMouth.f k a0 a1 a2 a3 a4 a5 a6 a7 a8 a9) (laws_sameMouth.f (k + 1) a0 a1 a2 a3 a4 a5 a6 a7 a8 a9) := by
  intro a0 a1 a2 a3 a4 a5 a6 a7 a8 a9 k
  unfold laws_sameMouth.f
  repeat' first
      | (with_reducible exact laws_sameRanges.mono _ _ _)
      | (with_reducible exact LeO.refl _)
      | (with_reducible exact LeO.none _)
      | (with_reducible refine LeO.ite ?_ ?_)
      | (with_reducible refine LeO.bind ?_ (fun _ => ?_))
      | exact laws_sameRanges.mono _ _ _
      | exact LeO.none _
      | refine LeO.ite ?_ ?_
      | refine LeO.bind ?_ (fun _ => ?_)
set_option maxHeartbeats 8000000 in
set_option maxRecDepth 100000 in
theorem laws_sameMouth.calls (k : Nat) (a0_0 : Int) (A0_1 : Option Addr) (c0_1 : Nat) (l0_1 : List Int) (a0_2 : Int) (a0_3 : Int) (A0_4 : Option Addr) (c0_4 : Nat) (l0_4 : List (S60)) (a1_0 : Int) (A1_1 : Option Addr) (c1_1 : Nat) (l1_1 : List Int) (a1_2 : Int) (a1_3 : Int) (A1_4 : Option Addr) (c1_4 : Nat) (l1_4 : List (S60)) (r : Bool) (w : World) (hr0_1 : Kd.C (Kd.int .u8) w A0_1 l0_1.length l0_1) (hc0_1 : l0_1.length ≤ c0_1) (hr0_4 : Kd.C k60 w A0_4 l0_4.length l0_4) (hc0_4 : l0_4.length ≤ c0_4) (hr1_1 : Kd.C (Kd.int .u8) w A1_1 l1_1.length l1_1) (hc1_1 : l1_1.length ≤ c1_1) (hr1_4 : Kd.C k60 w A1_4 l1_4.length l1_4) (hc1_4 : l1_4.length ≤ c1_4) (h : laws_sameMouth.f k a0_0 l0_1 a0_2 a0_3 l0_4 a1_0 l1_1 a1_2 a1_3 l1_4 = some r) :
    Calls Try.prog 9 #[.agg #[.int .i64 a0_0, .slice A0_1 l0_1.length c0_1, .int .i64 a0_2, .int .i64 a0_3, .slice A0_4 l0_4.length c0_4], .agg #[.int .i64 a1_0, .slice A1_1 l1_1.length c1_1, .int .i64 a1_2, .int .i64 a1_3, .slice A1_4 l1_4.length c1_4]] w fun e w' => e = .returned (.bool r) ∧ Below w.heap.size w w' := by
  have hu25 := Try.underlying25
  have HR0_1 := Aside0.mk hr0_1
  have HC0_1 := Aside0.mk hc0_1
  clear hr0_1 hc0_1
  have HR0_4 := Aside0.mk hr0_4
  have HC0_4 := Aside0.mk hc0_4
  clear hr0_4 hc0_4
  have HR1_1 := Aside0.mk hr1_1
  have HC1_1 := Aside0.mk hc1_1
  clear hr1_1 hc1_1
  have HR1_4 := Aside0.mk hr1_4
  have HC1_4 := Aside0.mk hc1_4
  clear hr1_4 hc1_4
  have HB := Aside0.mk (Below.refl w.heap.size w)
  have H : (if a0_0 = a1_0 then (if a0_2 = a1_2 then (if a0_3 = a1_3 then ((laws_sameBytes.f l0_1 l1_1).bind fun t392 => (if t392 = true then ((laws_sameRanges.f k l0_4 l1_4).bind fun t393 => (some t393)) else (some false))) else (some false)) else (some false)) else (some false)) = some r := h
  clear h
  by_cases c3 : a0_0 = a1_0
  · rw [if_pos c3] at H
    have c3b0 : (a0_0 == a1_0) = true := beq_iff_eq.mpr c3
    have c3b1 : (a0_0 != a1_0) = false := bne_eq_false_iff_eq.mpr c3
    clear c3
    by_cases c4 : a0_2 = a1_2
    · rw [if_pos c4] at H
      have c4b0 : (a0_2 == a1_2) = true := beq_iff_eq.mpr c4
      have c4b1 : (a0_2 != a1_2) = false := bne_eq_false_iff_eq.mpr c4
      clear c4
      by_cases c5 : a0_3 = a1_3
      · rw [if_pos c5] at H
        have c5b0 : (a0_3 == a1_3) = true := beq_iff_eq.mpr c5
        have c5b1 : (a0_3 != a1_3) = false := bne_eq_false_iff_eq.mpr c5
        clear c5
        replace H := Option.bind_eq_some_iff.mp H
        obtain ⟨t392, A60, H⟩ := H
        replace H : (if t392 = true then ((laws_sameRanges.f k l0_4 l1_4).bind fun t393 => (some t393)) else (some false)) = some r := H
        have A6 := Aside0.mk A60
        clear A60
        by_cases c7 : t392 = true
        · subst c7
          have H1 : ((laws_sameRanges.f k l0_4 l1_4).bind fun t393 => (some t393)) = some r := by rw [if_pos rfl] at H; exact H
          clear H
          have H := H1
          clear H1
          replace H := Option.bind_eq_some_iff.mp H
          obtain ⟨t393, A80, H⟩ := H
          replace H : (some t393) = some r := H
          have A8 := Aside0.mk A80
          clear A80
          obtain rfl := Option.some.inj H
          go_enter Try.func9, Try.ntmps9
          go_wp2_with (first | ((with_reducible refine gate_dst (N := 2) rfl ?_); refine box_event ?hg (N := 2) ?hd (cs := #[.int .i64 a0_0, .slice A0_1 l0_1.length c0_1, .int .i64 a0_2, .int .i64 a0_3, .slice A0_4 l0_4.length c0_4]) (t := 25) ?hr ?_; (case hd => rfl); (case hg => rfl); (case hr => first | (go_simp; done) | (go_simp; rfl)); intro gb390 hg w9 hbox hb; have n0_ := Aside0.mk (below_step (hb0_ HB.out) hb); have n1_ := Aside0.mk (hbox); have n2_ := Aside0.mk ((by rw [hg]; exact (below_size (hb0_ HB.out)) : w.heap.size ≤ gb390)); have n3_ := Aside0.mk ((by rw [hg]; exact (below_size (hb0_ HB.out)) : w.heap.size ≤ gb390)); clear HB; have HB := n0_; have BK390 := n1_; have GW390 := n2_; have GE390 := n3_; clear n0_ n1_ n2_ n3_; clear hb hbox hg) | ((with_reducible refine gate_dst (N := 3) rfl ?_); refine box_event ?hg (N := 3) ?hd (cs := #[.int .i64 a1_0, .slice A1_1 l1_1.length c1_1, .int .i64 a1_2, .int .i64 a1_3, .slice A1_4 l1_4.length c1_4]) (t := 25) ?hr ?_; (case hd => rfl); (case hg => rfl); (case hr => first | (go_simp; done) | (go_simp; rfl)); intro gb391 hg w10 hbox hb; have n0_ := Aside0.mk (blk_below (g := gb390) (o := .cells #[.int .i64 a0_0, .slice A0_1 l0_1.length c0_1, .int .i64 a0_2, .int .i64 a0_3, .slice A0_4 l0_4.length c0_4] 25 (0, 0)) (kb_ BK390.out) hb); have n1_ := Aside0.mk (below_step (hb1_ HB.out GE390.out) hb); have n2_ := Aside0.mk (hbox); have n3_ := Aside0.mk ((by rw [hg]; exact (below_size (hb1_ HB.out GE390.out)) : w.heap.size ≤ gb391)); have n4_ := Aside0.mk ((by rw [hg]; exact (below_size (hb1_ HB.out GE390.out)) : w.heap.size ≤ gb391)); have n5_ := Aside0.mk ((by rw [hg]; exact Nat.ne_of_lt (blk_lt (g := gb390) (o := .cells #[.int .i64 a0_0, .slice A0_1 l0_1.length c0_1, .int .i64 a0_2, .int .i64 a0_3, .slice A0_4 l0_4.length c0_4] 25 (0, 0)) (kb_ BK390.out)) : gb390 ≠ gb391)); have n6_ := Aside0.mk ((by rw [hg]; exact Nat.ne_of_gt (blk_lt (g := gb390) (o := .cells #[.int .i64 a0_0, .slice A0_1 l0_1.length c0_1, .int .i64 a0_2, .int .i64 a0_3, .slice A0_4 l0_4.length c0_4] 25 (0, 0)) (kb_ BK390.out)) : gb391 ≠ gb390)); clear BK390; clear HB; have BK390 := n0_; have HB := n1_; have BK391 := n2_; have GW391 := n3_; have GE391 := n4_; have NB390_391 := n5_; have NB391_390 := n6_; clear n0_ n1_ n2_ n3_ n4_ n5_ n6_; clear hb hbox hg; have hnb11 := NB390_391.out; have hnc11 := NB391_390.out; have hcz12_0 : w10.cell? ⟨gb390, 0, none⟩ = some (.int .i64 a0_0) := (blk_cell BK390.out 0).trans rfl; have hcz12_1 : w10.cell? ⟨gb390, 1, none⟩ = some (.slice A0_1 l0_1.length c0_1) := (blk_cell BK390.out 1).trans rfl; have hcz12_2 : w10.cell? ⟨gb390, 2, none⟩ = some (.int .i64 a0_2) := (blk_cell BK390.out 2).trans rfl; have hcz12_3 : w10.cell? ⟨gb390, 3, none⟩ = some (.int .i64 a0_3) := (blk_cell BK390.out 3).trans rfl; have hcz12_4 : w10.cell? ⟨gb390, 4, none⟩ = some (.slice A0_4 l0_4.length c0_4) := (blk_cell BK390.out 4).trans rfl; have hfz12_0 := blk_frozen BK390.out 0; have hfz12_1 := blk_frozen BK390.out 1; have hfz12_2 := blk_frozen BK390.out 2; have hfz12_3 := blk_frozen BK390.out 3; have hfz12_4 := blk_frozen BK390.out 4; have hcz13_0 : w10.cell? ⟨gb391, 0, none⟩ = some (.int .i64 a1_0) := (blk_cell BK391.out 0).trans rfl; have hcz13_1 : w10.cell? ⟨gb391, 1, none⟩ = some (.slice A1_1 l1_1.length c1_1) := (blk_cell BK391.out 1).trans rfl; have hcz13_2 : w10.cell? ⟨gb391, 2, none⟩ = some (.int .i64 a1_2) := (blk_cell BK391.out 2).trans rfl; have hcz13_3 : w10.cell? ⟨gb391, 3, none⟩ = some (.int .i64 a1_3) := (blk_cell BK391.out 3).trans rfl; have hcz13_4 : w10.cell? ⟨gb391, 4, none⟩ = some (.slice A1_4 l1_4.length c1_4) := (blk_cell BK391.out 4).trans rfl; have hfz13_0 := blk_frozen BK391.out 0; have hfz13_1 := blk_frozen BK391.out 1; have hfz13_2 := blk_frozen BK391.out 2; have hfz13_3 := blk_frozen BK391.out 3; have hfz13_4 := blk_frozen BK391.out 4) | (go_at_call 12; (with_reducible refine (laws_sameBytes.calls _ _ l0_1 _ _ l1_1 true _ ?side1 ?side2 ?side3 ?side4 A6.out).mono ?_); (case side1 => exact kC_ (Kd.C_below HR0_1.out HB.out)); (case side2 => exact HC0_1.out); (case side3 => exact kC_ (Kd.C_below HR1_1.out HB.out)); (case side4 => exact HC1_1.out); rintro e w' ⟨rfl, ⟨nd, rfl⟩⟩) | (go_at_call 35; (with_reducible refine (laws_sameRanges.calls k _ _ l0_4 _ _ l1_4 t393 _ ?side1 ?side2 ?side3 ?side4 A8.out).mono ?_); (case side1 => exact kC_ (Kd.C_below HR0_4.out (hb2_ HB.out GE390.out GE391.out))); (case side2 => exact HC0_4.out); (case side3 => exact kC_ (Kd.C_below HR1_4.out (hb2_ HB.out GE390.out GE391.out))); (case side4 => exact HC1_4.out); rintro e w' ⟨rfl, ⟨nd, rfl⟩⟩))
          go_ret
          exact ⟨by first | rfl | (simp [errW_none, errW_some] <;> rfl) | (simp [*, errW_none, errW_some] <;> rfl), by repeat (first | (with_reducible first | exact HB.out | apply below_alloc | apply pw_below_drewN | apply below_drew1 | refine below_set ?_ GE390.out | refine below_set ?_ GE391.out) | exact HB.out)⟩
        · replace c7 := Bool.eq_false_iff.mpr c7
          subst c7
          have H1 : (some false) = some r := by rw [if_neg (show ¬ (false = true) by decide)] at H; exact H
          clear H
          have H := H1
          clear H1
          obtain rfl := Option.some.inj H
          go_enter Try.func9, Try.ntmps9
          go_wp2_with (first | ((with_reducible refine gate_dst (N := 2) rfl ?_); refine box_event ?hg (N := 2) ?hd (cs := #[.int .i64 a0_0, .slice A0_1 l0_1.length c0_1, .int .i64 a0_2, .int .i64 a0_3, .slice A0_4 l0_4.length c0_4]) (t := 25) ?hr ?_; (case hd => rfl); (case hg => rfl); (case hr => first | (go_simp; done) | (go_simp; rfl)); intro gb390 hg w14 hbox hb; have n0_ := Aside0.mk (below_step (hb0_ HB.out) hb); have n1_ := Aside0.mk (hbox); have n2_ := Aside0.mk ((by rw [hg]; exact (below_size (hb0_ HB.out)) : w.heap.size ≤ gb390)); have n3_ := Aside0.mk ((by rw [hg]; exact (below_size (hb0_ HB.out)) : w.heap.size ≤ gb390)); clear HB; have HB := n0_; have BK390 := n1_; have GW390 := n2_; have GE390 := n3_; clear n0_ n1_ n2_ n3_; clear hb hbox hg) | ((with_reducible refine gate_dst (N := 3) rfl ?_); refine box_event ?hg (N := 3) ?hd (cs := #[.int .i64 a1_0, .slice A1_1 l1_1.length c1_1, .int .i64 a1_2, .int .i64 a1_3, .slice A1_4 l1_4.length c1_4]) (t := 25) ?hr ?_; (case hd => rfl); (case hg => rfl); (case hr => first | (go_simp; done) | (go_simp; rfl)); intro gb391 hg w15 hbox hb; have n0_ := Aside0.mk (blk_below (g := gb390) (o := .cells #[.int .i64 a0_0, .slice A0_1 l0_1.length c0_1, .int .i64 a0_2, .int .i64 a0_3, .slice A0_4 l0_4.length c0_4] 25 (0, 0)) (kb_ BK390.out) hb); have n1_ := Aside0.mk (below_step (hb1_ HB.out GE390.out) hb); have n2_ := Aside0.mk (hbox); have n3_ := Aside0.mk ((by rw [hg]; exact (below_size (hb1_ HB.out GE390.out)) : w.heap.size ≤ gb391)); have n4_ := Aside0.mk ((by rw [hg]; exact (below_size (hb1_ HB.out GE390.out)) : w.heap.size ≤ gb391)); have n5_ := Aside0.mk ((by rw [hg]; exact Nat.ne_of_lt (blk_lt (g := gb390) (o := .cells #[.int .i64 a0_0, .slice A0_1 l0_1.length c0_1, .int .i64 a0_2, .int .i64 a0_3, .slice A0_4 l0_4.length c0_4] 25 (0, 0)) (kb_ BK390.out)) : gb390 ≠ gb391)); have n6_ := Aside0.mk ((by rw [hg]; exact Nat.ne_of_gt (blk_lt (g := gb390) (o := .cells #[.int .i64 a0_0, .slice A0_1 l0_1.length c0_1, .int .i64 a0_2, .int .i64 a0_3, .slice A0_4 l0_4.length c0_4] 25 (0, 0)) (kb_ BK390.out)) : gb391 ≠ gb390)); clear BK390; clear HB; have BK390 := n0_; have HB := n1_; have BK391 := n2_; have GW391 := n3_; have GE391 := n4_; have NB390_391 := n5_; have NB391_390 := n6_; clear n0_ n1_ n2_ n3_ n4_ n5_ n6_; clear hb hbox hg; have hnb16 := NB390_391.out; have hnc16 := NB391_390.out; have hcz17_0 : w15.cell? ⟨gb390, 0, none⟩ = some (.int .i64 a0_0) := (blk_cell BK390.out 0).trans rfl; have hcz17_1 : w15.cell? ⟨gb390, 1, none⟩ = some (.slice A0_1 l0_1.length c0_1) := (blk_cell BK390.out 1).trans rfl; have hcz17_2 : w15.cell? ⟨gb390, 2, none⟩ = some (.int .i64 a0_2) := (blk_cell BK390.out 2).trans rfl; have hcz17_3 : w15.cell? ⟨gb390, 3, none⟩ = some (.int .i64 a0_3) := (blk_cell BK390.out 3).trans rfl; have hcz17_4 : w15.cell? ⟨gb390, 4, none⟩ = some (.slice A0_4 l0_4.length c0_4) := (blk_cell BK390.out 4).trans rfl; have hfz17_0 := blk_frozen BK390.out 0; have hfz17_1 := blk_frozen BK390.out 1; have hfz17_2 := blk_frozen BK390.out 2; have hfz17_3 := blk_frozen BK390.out 3; have hfz17_4 := blk_frozen BK390.out 4; have hcz18_0 : w15.cell? ⟨gb391, 0, none⟩ = some (.int .i64 a1_0) := (blk_cell BK391.out 0).trans rfl; have hcz18_1 : w15.cell? ⟨gb391, 1, none⟩ = some (.slice A1_1 l1_1.length c1_1) := (blk_cell BK391.out 1).trans rfl; have hcz18_2 : w15.cell? ⟨gb391, 2, none⟩ = some (.int .i64 a1_2) := (blk_cell BK391.out 2).trans rfl; have hcz18_3 : w15.cell? ⟨gb391, 3, none⟩ = some (.int .i64 a1_3) := (blk_cell BK391.out 3).trans rfl; have hcz18_4 : w15.cell? ⟨gb391, 4, none⟩ = some (.slice A1_4 l1_4.length c1_4) := (blk_cell BK391.out 4).trans rfl; have hfz18_0 := blk_frozen BK391.out 0; have hfz18_1 := blk_frozen BK391.out 1; have hfz18_2 := blk_frozen BK391.out 2; have hfz18_3 := blk_frozen BK391.out 3; have hfz18_4 := blk_frozen BK391.out 4) | (go_at_call 12; (with_reducible refine (laws_sameBytes.calls _ _ l0_1 _ _ l1_1 false _ ?side1 ?side2 ?side3 ?side4 A6.out).mono ?_); (case side1 => exact kC_ (Kd.C_below HR0_1.out HB.out)); (case side2 => exact HC0_1.out); (case side3 => exact kC_ (Kd.C_below HR1_1.out HB.out)); (case side4 => exact HC1_1.out); rintro e w' ⟨rfl, ⟨nd, rfl⟩⟩))
          go_ret
          exact ⟨by first | rfl | (simp [errW_none, errW_some] <;> rfl) | (simp [*, errW_none, errW_some] <;> rfl), by repeat (first | (with_reducible first | exact HB.out | apply below_alloc | apply pw_below_drewN | apply below_drew1 | refine below_set ?_ GE390.out | refine below_set ?_ GE391.out) | exact HB.out)⟩
      · rw [if_neg c5] at H
        have c5b0 : (a0_3 == a1_3) = false := beq_eq_false_iff_ne.mpr c5
        have c5b1 : (a0_3 != a1_3) = true := bne_iff_ne.mpr c5
        obtain rfl := Option.some.inj H
        go_enter Try.func9, Try.ntmps9
        go_wp2_with (first | ((with_reducible refine gate_dst (N := 2) rfl ?_); refine box_event ?hg (N := 2) ?hd (cs := #[.int .i64 a0_0, .slice A0_1 l0_1.length c0_1, .int .i64 a0_2, .int .i64 a0_3, .slice A0_4 l0_4.length c0_4]) (t := 25) ?hr ?_; (case hd => rfl); (case hg => rfl); (case hr => first | (go_simp; done) | (go_simp; rfl)); intro gb390 hg w19 hbox hb; have n0_ := Aside0.mk (below_step (hb0_ HB.out) hb); have n1_ := Aside0.mk (hbox); have n2_ := Aside0.mk ((by rw [hg]; exact (below_size (hb0_ HB.out)) : w.heap.size ≤ gb390)); have n3_ := Aside0.mk ((by rw [hg]; exact (below_size (hb0_ HB.out)) : w.heap.size ≤ gb390)); clear HB; have HB := n0_; have BK390 := n1_; have GW390 := n2_; have GE390 := n3_; clear n0_ n1_ n2_ n3_; clear hb hbox hg) | ((with_reducible refine gate_dst (N := 3) rfl ?_); refine box_event ?hg (N := 3) ?hd (cs := #[.int .i64 a1_0, .slice A1_1 l1_1.length c1_1, .int .i64 a1_2, .int .i64 a1_3, .slice A1_4 l1_4.length c1_4]) (t := 25) ?hr ?_; (case hd => rfl); (case hg => rfl); (case hr => first | (go_simp; done) | (go_simp; rfl)); intro gb391 hg w20 hbox hb; have n0_ := Aside0.mk (blk_below (g := gb390) (o := .cells #[.int .i64 a0_0, .slice A0_1 l0_1.length c0_1, .int .i64 a0_2, .int .i64 a0_3, .slice A0_4 l0_4.length c0_4] 25 (0, 0)) (kb_ BK390.out) hb); have n1_ := Aside0.mk (below_step (hb1_ HB.out GE390.out) hb); have n2_ := Aside0.mk (hbox); have n3_ := Aside0.mk ((by rw [hg]; exact (below_size (hb1_ HB.out GE390.out)) : w.heap.size ≤ gb391)); have n4_ := Aside0.mk ((by rw [hg]; exact (below_size (hb1_ HB.out GE390.out)) : w.heap.size ≤ gb391)); have n5_ := Aside0.mk ((by rw [hg]; exact Nat.ne_of_lt (blk_lt (g := gb390) (o := .cells #[.int .i64 a0_0, .slice A0_1 l0_1.length c0_1, .int .i64 a0_2, .int .i64 a0_3, .slice A0_4 l0_4.length c0_4] 25 (0, 0)) (kb_ BK390.out)) : gb390 ≠ gb391)); have n6_ := Aside0.mk ((by rw [hg]; exact Nat.ne_of_gt (blk_lt (g := gb390) (o := .cells #[.int .i64 a0_0, .slice A0_1 l0_1.length c0_1, .int .i64 a0_2, .int .i64 a0_3, .slice A0_4 l0_4.length c0_4] 25 (0, 0)) (kb_ BK390.out)) : gb391 ≠ gb390)); clear BK390; clear HB; have BK390 := n0_; have HB := n1_; have BK391 := n2_; have GW391 := n3_; have GE391 := n4_; have NB390_391 := n5_; have NB391_390 := n6_; clear n0_ n1_ n2_ n3_ n4_ n5_ n6_; clear hb hbox hg; have hnb21 := NB390_391.out; have hnc21 := NB391_390.out; have hcz22_0 : w20.cell? ⟨gb390, 0, none⟩ = some (.int .i64 a0_0) := (blk_cell BK390.out 0).trans rfl; have hcz22_1 : w20.cell? ⟨gb390, 1, none⟩ = some (.slice A0_1 l0_1.length c0_1) := (blk_cell BK390.out 1).trans rfl; have hcz22_2 : w20.cell? ⟨gb390, 2, none⟩ = some (.int .i64 a0_2) := (blk_cell BK390.out 2).trans rfl; have hcz22_3 : w20.cell? ⟨gb390, 3, none⟩ = some (.int .i64 a0_3) := (blk_cell BK390.out 3).trans rfl; have hcz22_4 : w20.cell? ⟨gb390, 4, none⟩ = some (.slice A0_4 l0_4.length c0_4) := (blk_cell BK390.out 4).trans rfl; have hfz22_0 := blk_frozen BK390.out 0; have hfz22_1 := blk_frozen BK390.out 1; have hfz22_2 := blk_frozen BK390.out 2; have hfz22_3 := blk_frozen BK390.out 3; have hfz22_4 := blk_frozen BK390.out 4; have hcz23_0 : w20.cell? ⟨gb391, 0, none⟩ = some (.int .i64 a1_0) := (blk_cell BK391.out 0).trans rfl; have hcz23_1 : w20.cell? ⟨gb391, 1, none⟩ = some (.slice A1_1 l1_1.length c1_1) := (blk_cell BK391.out 1).trans rfl; have hcz23_2 : w20.cell? ⟨gb391, 2, none⟩ = some (.int .i64 a1_2) := (blk_cell BK391.out 2).trans rfl; have hcz23_3 : w20.cell? ⟨gb391, 3, none⟩ = some (.int .i64 a1_3) := (blk_cell BK391.out 3).trans rfl; have hcz23_4 : w20.cell? ⟨gb391, 4, none⟩ = some (.slice A1_4 l1_4.length c1_4) := (blk_cell BK391.out 4).trans rfl; have hfz23_0 := blk_frozen BK391.out 0; have hfz23_1 := blk_frozen BK391.out 1; have hfz23_2 := blk_frozen BK391.out 2; have hfz23_3 := blk_frozen BK391.out 3; have hfz23_4 := blk_frozen BK391.out 4))
        go_ret
        exact ⟨by first | rfl | (simp [errW_none, errW_some] <;> rfl) | (simp [*, errW_none, errW_some] <;> rfl), by repeat (first | (with_reducible first | exact HB.out | apply below_alloc | apply pw_below_drewN | apply below_drew1 | refine below_set ?_ GE390.out | refine below_set ?_ GE391.out) | exact HB.out)⟩
    · rw [if_neg c4] at H
      have c4b0 : (a0_2 == a1_2) = false := beq_eq_false_iff_ne.mpr c4
      have c4b1 : (a0_2 != a1_2) = true := bne_iff_ne.mpr c4
      obtain rfl := Option.some.inj H
      go_enter Try.func9, Try.ntmps9
      go_wp2_with (first | ((with_reducible refine gate_dst (N := 2) rfl ?_); refine box_event ?hg (N := 2) ?hd (cs := #[.int .i64 a0_0, .slice A0_1 l0_1.length c0_1, .int .i64 a0_2, .int .i64 a0_3, .slice A0_4 l0_4.length c0_4]) (t := 25) ?hr ?_; (case hd => rfl); (case hg => rfl); (case hr => first | (go_simp; done) | (go_simp; rfl)); intro gb390 hg w24 hbox hb; have n0_ := Aside0.mk (below_step (hb0_ HB.out) hb); have n1_ := Aside0.mk (hbox); have n2_ := Aside0.mk ((by rw [hg]; exact (below_size (hb0_ HB.out)) : w.heap.size ≤ gb390)); have n3_ := Aside0.mk ((by rw [hg]; exact (below_size (hb0_ HB.out)) : w.heap.size ≤ gb390)); clear HB; have HB := n0_; have BK390 := n1_; have GW390 := n2_; have GE390 := n3_; clear n0_ n1_ n2_ n3_; clear hb hbox hg) | ((with_reducible refine gate_dst (N := 3) rfl ?_); refine box_event ?hg (N := 3) ?hd (cs := #[.int .i64 a1_0, .slice A1_1 l1_1.length c1_1, .int .i64 a1_2, .int .i64 a1_3, .slice A1_4 l1_4.length c1_4]) (t := 25) ?hr ?_; (case hd => rfl); (case hg => rfl); (case hr => first | (go_simp; done) | (go_simp; rfl)); intro gb391 hg w25 hbox hb; have n0_ := Aside0.mk (blk_below (g := gb390) (o := .cells #[.int .i64 a0_0, .slice A0_1 l0_1.length c0_1, .int .i64 a0_2, .int .i64 a0_3, .slice A0_4 l0_4.length c0_4] 25 (0, 0)) (kb_ BK390.out) hb); have n1_ := Aside0.mk (below_step (hb1_ HB.out GE390.out) hb); have n2_ := Aside0.mk (hbox); have n3_ := Aside0.mk ((by rw [hg]; exact (below_size (hb1_ HB.out GE390.out)) : w.heap.size ≤ gb391)); have n4_ := Aside0.mk ((by rw [hg]; exact (below_size (hb1_ HB.out GE390.out)) : w.heap.size ≤ gb391)); have n5_ := Aside0.mk ((by rw [hg]; exact Nat.ne_of_lt (blk_lt (g := gb390) (o := .cells #[.int .i64 a0_0, .slice A0_1 l0_1.length c0_1, .int .i64 a0_2, .int .i64 a0_3, .slice A0_4 l0_4.length c0_4] 25 (0, 0)) (kb_ BK390.out)) : gb390 ≠ gb391)); have n6_ := Aside0.mk ((by rw [hg]; exact Nat.ne_of_gt (blk_lt (g := gb390) (o := .cells #[.int .i64 a0_0, .slice A0_1 l0_1.length c0_1, .int .i64 a0_2, .int .i64 a0_3, .slice A0_4 l0_4.length c0_4] 25 (0, 0)) (kb_ BK390.out)) : gb391 ≠ gb390)); clear BK390; clear HB; have BK390 := n0_; have HB := n1_; have BK391 := n2_; have GW391 := n3_; have GE391 := n4_; have NB390_391 := n5_; have NB391_390 := n6_; clear n0_ n1_ n2_ n3_ n4_ n5_ n6_; clear hb hbox hg; have hnb26 := NB390_391.out; have hnc26 := NB391_390.out; have hcz27_0 : w25.cell? ⟨gb390, 0, none⟩ = some (.int .i64 a0_0) := (blk_cell BK390.out 0).trans rfl; have hcz27_1 : w25.cell? ⟨gb390, 1, none⟩ = some (.slice A0_1 l0_1.length c0_1) := (blk_cell BK390.out 1).trans rfl; have hcz27_2 : w25.cell? ⟨gb390, 2, none⟩ = some (.int .i64 a0_2) := (blk_cell BK390.out 2).trans rfl; have hcz27_3 : w25.cell? ⟨gb390, 3, none⟩ = some (.int .i64 a0_3) := (blk_cell BK390.out 3).trans rfl; have hcz27_4 : w25.cell? ⟨gb390, 4, none⟩ = some (.slice A0_4 l0_4.length c0_4) := (blk_cell BK390.out 4).trans rfl; have hfz27_0 := blk_frozen BK390.out 0; have hfz27_1 := blk_frozen BK390.out 1; have hfz27_2 := blk_frozen BK390.out 2; have hfz27_3 := blk_frozen BK390.out 3; have hfz27_4 := blk_frozen BK390.out 4; have hcz28_0 : w25.cell? ⟨gb391, 0, none⟩ = some (.int .i64 a1_0) := (blk_cell BK391.out 0).trans rfl; have hcz28_1 : w25.cell? ⟨gb391, 1, none⟩ = some (.slice A1_1 l1_1.length c1_1) := (blk_cell BK391.out 1).trans rfl; have hcz28_2 : w25.cell? ⟨gb391, 2, none⟩ = some (.int .i64 a1_2) := (blk_cell BK391.out 2).trans rfl; have hcz28_3 : w25.cell? ⟨gb391, 3, none⟩ = some (.int .i64 a1_3) := (blk_cell BK391.out 3).trans rfl; have hcz28_4 : w25.cell? ⟨gb391, 4, none⟩ = some (.slice A1_4 l1_4.length c1_4) := (blk_cell BK391.out 4).trans rfl; have hfz28_0 := blk_frozen BK391.out 0; have hfz28_1 := blk_frozen BK391.out 1; have hfz28_2 := blk_frozen BK391.out 2; have hfz28_3 := blk_frozen BK391.out 3; have hfz28_4 := blk_frozen BK391.out 4))
      go_ret
      exact ⟨by first | rfl | (simp [errW_none, errW_some] <;> rfl) | (simp [*, errW_none, errW_some] <;> rfl), by repeat (first | (with_reducible first | exact HB.out | apply below_alloc | apply pw_below_drewN | apply below_drew1 | refine below_set ?_ GE390.out | refine below_set ?_ GE391.out) | exact HB.out)⟩
  · rw [if_neg c3] at H
    have c3b0 : (a0_0 == a1_0) = false := beq_eq_false_iff_ne.mpr c3
    have c3b1 : (a0_0 != a1_0) = true := bne_iff_ne.mpr c3
    obtain rfl := Option.some.inj H
    go_enter Try.func9, Try.ntmps9
    go_wp2_with (first | ((with_reducible refine gate_dst (N := 2) rfl ?_); refine box_event ?hg (N := 2) ?hd (cs := #[.int .i64 a0_0, .slice A0_1 l0_1.length c0_1, .int .i64 a0_2, .int .i64 a0_3, .slice A0_4 l0_4.length c0_4]) (t := 25) ?hr ?_; (case hd => rfl); (case hg => rfl); (case hr => first | (go_simp; done) | (go_simp; rfl)); intro gb390 hg w29 hbox hb; have n0_ := Aside0.mk (below_step (hb0_ HB.out) hb); have n1_ := Aside0.mk (hbox); have n2_ := Aside0.mk ((by rw [hg]; exact (below_size (hb0_ HB.out)) : w.heap.size ≤ gb390)); have n3_ := Aside0.mk ((by rw [hg]; exact (below_size (hb0_ HB.out)) : w.heap.size ≤ gb390)); clear HB; have HB := n0_; have BK390 := n1_; have GW390 := n2_; have GE390 := n3_; clear n0_ n1_ n2_ n3_; clear hb hbox hg) | ((with_reducible refine gate_dst (N := 3) rfl ?_); refine box_event ?hg (N := 3) ?hd (cs := #[.int .i64 a1_0, .slice A1_1 l1_1.length c1_1, .int .i64 a1_2, .int .i64 a1_3, .slice A1_4 l1_4.length c1_4]) (t := 25) ?hr ?_; (case hd => rfl); (case hg => rfl); (case hr => first | (go_simp; done) | (go_simp; rfl)); intro gb391 hg w30 hbox hb; have n0_ := Aside0.mk (blk_below (g := gb390) (o := .cells #[.int .i64 a0_0, .slice A0_1 l0_1.length c0_1, .int .i64 a0_2, .int .i64 a0_3, .slice A0_4 l0_4.length c0_4] 25 (0, 0)) (kb_ BK390.out) hb); have n1_ := Aside0.mk (below_step (hb1_ HB.out GE390.out) hb); have n2_ := Aside0.mk (hbox); have n3_ := Aside0.mk ((by rw [hg]; exact (below_size (hb1_ HB.out GE390.out)) : w.heap.size ≤ gb391)); have n4_ := Aside0.mk ((by rw [hg]; exact (below_size (hb1_ HB.out GE390.out)) : w.heap.size ≤ gb391)); have n5_ := Aside0.mk ((by rw [hg]; exact Nat.ne_of_lt (blk_lt (g := gb390) (o := .cells #[.int .i64 a0_0, .slice A0_1 l0_1.length c0_1, .int .i64 a0_2, .int .i64 a0_3, .slice A0_4 l0_4.length c0_4] 25 (0, 0)) (kb_ BK390.out)) : gb390 ≠ gb391)); have n6_ := Aside0.mk ((by rw [hg]; exact Nat.ne_of_gt (blk_lt (g := gb390) (o := .cells #[.int .i64 a0_0, .slice A0_1 l0_1.length c0_1, .int .i64 a0_2, .int .i64 a0_3, .slice A0_4 l0_4.length c0_4] 25 (0, 0)) (kb_ BK390.out)) : gb391 ≠ gb390)); clear BK390; clear HB; have BK390 := n0_; have HB := n1_; have BK391 := n2_; have GW391 := n3_; have GE391 := n4_; have NB390_391 := n5_; have NB391_390 := n6_; clear n0_ n1_ n2_ n3_ n4_ n5_ n6_; clear hb hbox hg; have hnb31 := NB390_391.out; have hnc31 := NB391_390.out; have hcz32_0 : w30.cell? ⟨gb390, 0, none⟩ = some (.int .i64 a0_0) := (blk_cell BK390.out 0).trans rfl; have hcz32_1 : w30.cell? ⟨gb390, 1, none⟩ = some (.slice A0_1 l0_1.length c0_1) := (blk_cell BK390.out 1).trans rfl; have hcz32_2 : w30.cell? ⟨gb390, 2, none⟩ = some (.int .i64 a0_2) := (blk_cell BK390.out 2).trans rfl; have hcz32_3 : w30.cell? ⟨gb390, 3, none⟩ = some (.int .i64 a0_3) := (blk_cell BK390.out 3).trans rfl; have hcz32_4 : w30.cell? ⟨gb390, 4, none⟩ = some (.slice A0_4 l0_4.length c0_4) := (blk_cell BK390.out 4).trans rfl; have hfz32_0 := blk_frozen BK390.out 0; have hfz32_1 := blk_frozen BK390.out 1; have hfz32_2 := blk_frozen BK390.out 2; have hfz32_3 := blk_frozen BK390.out 3; have hfz32_4 := blk_frozen BK390.out 4; have hcz33_0 : w30.cell? ⟨gb391, 0, none⟩ = some (.int .i64 a1_0) := (blk_cell BK391.out 0).trans rfl; have hcz33_1 : w30.cell? ⟨gb391, 1, none⟩ = some (.slice A1_1 l1_1.length c1_1) := (blk_cell BK391.out 1).trans rfl; have hcz33_2 : w30.cell? ⟨gb391, 2, none⟩ = some (.int .i64 a1_2) := (blk_cell BK391.out 2).trans rfl; have hcz33_3 : w30.cell? ⟨gb391, 3, none⟩ = some (.int .i64 a1_3) := (blk_cell BK391.out 3).trans rfl; have hcz33_4 : w30.cell? ⟨gb391, 4, none⟩ = some (.slice A1_4 l1_4.length c1_4) := (blk_cell BK391.out 4).trans rfl; have hfz33_0 := blk_frozen BK391.out 0; have hfz33_1 := blk_frozen BK391.out 1; have hfz33_2 := blk_frozen BK391.out 2; have hfz33_3 := blk_frozen BK391.out 3; have hfz33_4 := blk_frozen BK391.out 4))
    go_ret
    exact ⟨by first | rfl | (simp [errW_none, errW_some] <;> rfl) | (simp [*, errW_none, errW_some] <;> rfl), by repeat (first | (with_reducible first | exact HB.out | apply below_alloc | apply pw_below_drewN | apply below_drew1 | refine below_set ?_ GE390.out | refine below_set ?_ GE391.out) | exact HB.out)⟩

/-! ### impl_bytesOf: function 52 -/
def impl_bytesOf.l0 : Nat → Int → List Int → Int → Option (List Int)
  | 0, _, _, _ => none
  | k + 1, x0, x5, x6 => if x6 ≥ 0 then (if 0 ≤ x6 then (if x6 < (x5.length : Int) then (impl_bytesOf.l0 k (x0 / 256) (x5.set (x6 : Int).toNat ((x0) % 256)) (wrap64 (x6 - 1))) else (none)) else (none)) else (some x5)
def impl_bytesOf.f (k : Nat) (a0 : Int) (a1 : Int) : Option (List Int) := if 0 ≤ a1 then (if (a1 : Int).toNat ≤ 281474976710656 then (impl_bytesOf.l0 k a0 (List.replicate (a1 : Int).toNat 0) (wrap64 (a1 - 1))) else (none)) else (none)
theorem impl_bytesOf.mono_l : ∀ k, (∀ y0 y1 y2, LeO (impl_bytesOf.l0 k y0 y1 y2) (impl_bytesOf.l0 (k + 1) y0 y1 y2))
  | 0 => fun _ _ _ r h => by simp [impl_bytesOf.l0] at h
  | k + 1 => by
    have ih0 := impl_bytesOf.mono_l k
    · intro y0 y1 y2
      unfold impl_bytesOf.l0
      repeat' first
      | (with_reducible exact ih0 _ _ _)
      | (with_reducible exact LeO.refl _)
      | (with_reducible exact LeO.none _)
      | (with_reducible refine LeO.ite ?_ ?_)
      | (with_reducible refine LeO.bind ?_ (fun _ => ?_))
      | exact ih0 _ _ _
      | exact LeO.none _
      | refine LeO.ite ?_ ?_
      | refine LeO.bind ?_ (fun _ => ?_)
theorem impl_bytesOf.mono : ∀ a0 a1 k, LeO (impl_bytesOf.f k a0 a1) (impl_bytesOf.f (k + 1) a0 a1) := by
  intro a0 a1 k
  have ih0 := impl_bytesOf.mono_l k
  unfold impl_bytesOf.f
  repeat' first
      | (with_reducible exact ih0 _ _ _)
      | (with_reducible exact LeO.refl _)
      | (with_reducible exact LeO.none _)
      | (with_reducible refine LeO.ite ?_ ?_)
      | (with_reducible refine LeO.bind ?_ (fun _ => ?_))
      | exact ih0 _ _ _
      | exact LeO.none _
      | refine LeO.ite ?_ ?_
      | refine LeO.bind ?_ (fun _ => ?_)
set_option maxHeartbeats 8000000 in
set_option maxRecDepth 100000 in
theorem impl_bytesOf.calls (k : Nat) (a0 : Int) (a1 : Int) (r : List Int) (w : World) (h : impl_bytesOf.f k a0 a1 = some r) :
    Calls Try.prog 52 #[.int .i64 a0, .int .i64 a1] w fun e w' => ∃ v0_ : Value, e = .returned (v0_) ∧ Kd.R (Kd.int .u8) 5 w' w.heap.size (fun _ => True) v0_ r ∧ Below w.heap.size w w' := by
  have HB := Aside0.mk (Below.refl w.heap.size w)
  have H : (if 0 ≤ a1 then (if (a1 : Int).toNat ≤ 281474976710656 then (impl_bytesOf.l0 k a0 (List.replicate (a1 : Int).toNat 0) (wrap64 (a1 - 1))) else (none)) else (none)) = some r := h
  clear h
  by_cases c3 : 0 ≤ a1
  · rw [if_pos c3] at H
    have c3b0 := eq_true c3
    have c3b1 : decide (0 ≤ a1) = true := decide_eq_true c3
    clear c3
    by_cases c4 : (a1 : Int).toNat ≤ 281474976710656
    · rw [if_pos c4] at H
      have c4b0 := eq_true c4
      have c4b1 : decide ((a1 : Int).toNat ≤ 281474976710656) = true := decide_eq_true c4
      clear c4
      obtain ⟨y394, hy394⟩ : ∃ y_ : List Int, y_ = (List.replicate (a1 : Int).toNat 0) := ⟨_, rfl⟩
      replace H : (impl_bytesOf.l0 k a0 y394 (wrap64 (a1 - 1))) = some r := by first | (rw [hy394]; with_reducible exact H) | (have H2_ := (Option.bind_some _ _).symm.trans H; rw [hy394]; with_reducible exact H2_) | (have H2_ := (Option.bind_some _ _).symm.trans H; with_reducible exact H2_) | with_reducible exact H | (rw [hy394]; exact H) | exact H
      have Ny394 := Aside0.mk hy394
      clear hy394
      have H' := Aside0.mk H
      clear H
      go_enter Try.func52, Try.ntmps52
      go_wp2_with (first | ((with_reducible refine gate_dst (N := 8) rfl ?_); refine Kd.R_make (Kd.int .u8) _ 5 rfl (N := 8) rfl 22 _ _ rfl a1 rfl rfl Try.underlying22 (.int .u8 0) 1 info5 rfl (by decide) (by omega) 0 (ok := fun _ => True) (okp := fun _ => True) rfl (fun _ hk => hk) trivial (of_decide_eq_true (by first | (with_reducible assumption) | assumption)) (Nat.le_trans (Nat.mul_le_mul_right _ (of_decide_eq_true (by first | (with_reducible assumption) | assumption) : a1.toNat ≤ 281474976710656)) (by omega)) (Below.refl _ _) (Nat.le_refl _) ?_; intro v395 w5 ho6 hb hg_ hnew_; clear hg_ hnew_; (first | rw [← Ny394.out] at ho6 | (simp only [Int.reduceToNat] at ho6; rw [← Ny394.out] at ho6)); have n0_ := Aside0.mk (Kd.R_lower ho6 (below_size (hb0_ HB.out))); have n1_ := Aside0.mk (below_step (hb0_ HB.out) hb); clear HB; have HO396 := n0_; have HB := n1_; clear n0_ n1_; clear hb ho6))
      go_loopg [0, 6] k (fun kq v0 v6 w' => ∃ (x0_1 : Int) (x5_1 : List Int) (x6_1 : Int), v0 = .int .i64 x0_1 ∧ v6 = .int .i64 x6_1 ∧ Aside0 (impl_bytesOf.l0 kq x0_1 x5_1 x6_1 = some r) ∧ Aside0 (kq ≤ k) ∧ Aside0 (Kd.R (Kd.int .u8) 5 w' w.heap.size (fun _ => True) v395 x5_1) ∧ Aside0 (Below w.heap.size w w'))
      case atStart => exact ⟨(a0), (y394), (wrap64 (a1 - 1)), (by first | rfl | (simp; done) | (simp [*]; done)), (by first | rfl | (simp; done) | (simp [*]; done)), H', ⟨Nat.le_refl _⟩, ⟨kR_ HO396.out⟩, ⟨by repeat (first | (with_reducible first | exact HB.out | apply below_alloc | apply pw_below_drewN | apply below_drew1) | exact HB.out)⟩⟩
      case round =>
        clear H'
        try clear p2
        try clear c3
        try clear c3b0
        try clear c3b1
        try clear c4
        try clear c4b0
        try clear c4b1
        try clear c5
        try clear p6
        obtain ⟨x0_1, x5_1, x6_1, rfl, rfl, HA, HK1, HO_5, HB⟩ := hrel
        cases gk with
        | zero => exact absurd HA.out (by simp [impl_bytesOf.l0])
        | succ k1 =>
          have H := HA.out
          clear HA
          simp only [impl_bytesOf.l0] at H
          by_cases c7 : x6_1 ≥ 0
          · rw [if_pos c7] at H
            have c7b0 : decide (0 ≤ x6_1) = true := decide_eq_true c7
            clear c7
            by_cases c8 : 0 ≤ x6_1
            · rw [if_pos c8] at H
              have c8b0 : decide (0 ≤ x6_1) = true := decide_eq_true c8
              clear c8
              by_cases c9 : x6_1 < (x5_1.length : Int)
              · rw [if_pos c9] at H
                have c9b0 : decide (x6_1 < (x5_1.length : Int)) = true := decide_eq_true c9
                clear c9
                obtain ⟨y397, hy397⟩ : ∃ y_ : List Int, y_ = (x5_1.set (x6_1 : Int).toNat ((x0_1) % 256)) := ⟨_, rfl⟩
                replace H : (impl_bytesOf.l0 k1 (x0_1 / 256) y397 (wrap64 (x6_1 - 1))) = some r := by first | (rw [hy397]; with_reducible exact H) | (have H2_ := (Option.bind_some _ _).symm.trans H; rw [hy397]; with_reducible exact H2_) | (have H2_ := (Option.bind_some _ _).symm.trans H; with_reducible exact H2_) | with_reducible exact H | (rw [hy397]; exact H) | exact H
                have Ny397 := Aside0.mk hy397
                clear hy397
                have H' := Aside0.mk H
                clear H
                have p10 : 0 ≤ (x6_1 : Int) := of_decide_eq_true (by first | (with_reducible assumption) | assumption)
                have q10 : (x6_1 : Int) < ((x5_1.length : Int) : Int) := of_decide_eq_true (by first | (with_reducible assumption) | assumption)
                obtain ⟨go10, co10, eo10, gb10, gl10, cl10, HG10⟩ := Kd.R_form HO_5.out (by omega)
                (first | cases eo10 | (injection eo10 with ea_ en_ ec_; (first | subst ea_ | (injection ea_ with ea_; subst ea_)); subst ec_; clear en_))
                have GB10 := Aside0.mk gb10
                have GG10 := Aside0.mk HG10
                clear gb10 gl10 HG10
                obtain ⟨hx10_0, hf10_0⟩ := Kd.R_celln 0 HO_5.out (x6_1 : Int) p10 q10
                replace p10 := eq_true p10
                replace q10 := eq_true q10
                have HP11 := Kd.R_putg HO_5.out (x6_1 : Int) ((x0_1) % 256)
                go_wp2_with (first | ((with_reducible refine gate_store (t := 5) (p := 19) rfl ?_); refine store_event (t := 5) (p := 19) (v := ?vo_w12) (w1 := (wr.setCell ⟨go10, (x6_1 : Int).toNat, none⟩ (.int .u8 ((x0_1) % 256)))) ?hg ?ho ?hn ?hr ?_; (case ho => rfl); (case hg => rfl); (case hn => rfl); (case hr => first | (go_simp; done) | (go_simp; rfl)); intro w12 hw; have hg : wr.grownBy w12 (some go10) := (by rw [hw]; exact HP11.2); have hp_ : Kd.R (Kd.int .u8) 5 w12 w.heap.size (fun _ => True) (.slice (some ⟨go10, 0, none⟩) x5_1.length co10) y397 := (by rw [hw, Ny397.out]; exact HP11.1); clear HP11; have n0_ := Aside0.mk (hp_); have n1_ := Aside0.mk ((by rw [hw]; exact below_set (HB.out) GB10.out : Below w.heap.size w w12)); clear HO_5; clear HB; have HO_5 := n0_; have HB := n1_; clear n0_ n1_; clear hg hw hp_))
                go_roundg k1
                case measure => have := HK1.out; omega
                case rel => exact ⟨(x0_1 / 256), (y397), (wrap64 (x6_1 - 1)), (by first | rfl | (simp; done) | (simp [*]; done)), (by first | rfl | (simp; done) | (simp [*]; done)), H', ⟨by have := HK1.out; omega⟩, ⟨kR_ HO_5.out⟩, ⟨by repeat (first | (with_reducible first | exact HB.out | apply below_alloc | apply pw_below_drewN | apply below_drew1) | exact HB.out)⟩⟩
              · rw [if_neg c9] at H
                exact absurd H (by simp)
            · rw [if_neg c8] at H
              exact absurd H (by simp)
          · rw [if_neg c7] at H
            have c7b0 : decide (0 ≤ x6_1) = false := decide_eq_false c7
            clear c7
            obtain rfl := Option.some.inj H
            go_wp2
            go_ret
            exact ⟨_, by first | rfl | (simp [errW_none, errW_some] <;> rfl) | (simp [*, errW_none, errW_some] <;> rfl), kR_ HO_5.out, by repeat (first | (with_reducible first | exact HB.out | apply below_alloc | apply pw_below_drewN | apply below_drew1) | exact HB.out)⟩
    · rw [if_neg c4] at H
      exact absurd H (by simp)
  · rw [if_neg c3] at H
    exact absurd H (by simp)

end Go.Proofs.Ytjiodkbbmhhccab.PFnMouthWrite
