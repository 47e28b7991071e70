/- Printed by wip/xp/xprint.sh out of the translation, for this claim: what each function answers, as a plain function, and that the machine does just that. No condition. -/
import Derived.Test.YtjiodkbbmhhccaaPFnEarReadx0
import Derived.Test.YtjiodkbbmhhccaaPFnEarReadx2
import Derived.Test.YtjiodkbbmhhccaaPFnEarReadx3
import Derived.Test.YtjiodkbbmhhccaaPFnEarReadx5
import Derived.Test.YtjiodkbbmhhccaaPFnEarReadx10
namespace Go.Proofs.Ytjiodkbbmhhccaa.PFnEarRead
open Go.RowKit Go.Proofs.YtjiodkbbmhhccaaW.PrintWords Go.Proofs.YtjiodkbbmhhccaaW.PrintLast Go.Proofs.YtjiodkbbmhhccaaW.PrintMore
attribute [local go_sem] max2_int min2_int max_two min_two max_three min_three max_four min_four   -- for this text's walks alone
set_option linter.unusedVariables false
set_option linter.unusedSimpArgs false

/-! ### laws_FnEarRead: function 4 -/
mutual
def laws_FnEarRead.j0 : Nat → Int → List Int → Bool → Int → Int → List Int → List (S70) → Int → Int → List Int → List (S70) → Option (Bool)
  | 0, _, _, _, _, _, _, _, _, _, _, _ => none
  | k + 1, x4, x6, x38, x339000, x339001, x339002, x339003, x351000, x351001, x351002, x351003 => if x38 = true then (some false) else ((impl_EarOk.f k x339000 x339001 x339002 x339003).bind fun t365 => (if t365 = true then (laws_FnEarRead.j1 k x4 x6 (decide (x4 < 0)) x339000 x339001 x339002 x339003 x351000 x351001 x351002 x351003) else (laws_FnEarRead.j1 k x4 x6 true x339000 x339001 x339002 x339003 x351000 x351001 x351002 x351003)))
def laws_FnEarRead.j1 : Nat → Int → List Int → Bool → Int → Int → List Int → List (S70) → Int → Int → List Int → List (S70) → Option (Bool)
  | 0, _, _, _, _, _, _, _, _, _, _, _ => none
  | k + 1, x4, x6, x45, x339000, x339001, x339002, x339003, x351000, x351001, x351002, x351003 => if x45 = true then (if (x6.length : Int) = 0 then ((laws_alive.f k).bind fun t366 => (some t366)) else (some false)) else ((impl_EarOk.f k x351000 x351001 x351002 x351003).bind fun t367 => (if t367 = true then (if x351000 = x339000 then (if (x6.length : Int) ≤ x4 then ((some (([] : List Int) : List Int)).bind fun y368 => (if y368.length + x6.length < 140737488355328 then ((some (y368 ++ x6 : List Int)).bind fun y371 => (if y371.length + x351002.length < 140737488355328 then ((laws_sameBytes.f (y371 ++ x351002) x339002).bind fun t377 => (if t377 = true then ((laws_alive.f k).bind fun t378 => (some t378)) else (some false))) else (none))) else (none))) else (some false)) else (some false)) else (some false)))
end
def laws_FnEarRead.f (k : Nat) (l0 : List Int) : Option (Bool) := if (l0.length : Int) > 1048576 then (some true) else ((spec_DrawEarRead.f k l0).bind fun bt329 => ((impl_EarRead.f k bt329.1 bt329.2.1 bt329.2.2.1 bt329.2.2.2.1 bt329.2.2.2.2).bind fun bt339 => ((spec_EarRead.f k bt329.1 bt329.2.1 bt329.2.2.1 bt329.2.2.2.1 bt329.2.2.2.2).bind fun bt351 => ((laws_sameEar.f k bt339.1 bt339.2.1 bt339.2.2.1 bt339.2.2.2.1 bt351.1 bt351.2.1 bt351.2.2.1 bt351.2.2.2.1).bind fun t363 => (if t363 = true then ((laws_sameBytes.f bt339.2.2.2.2 bt351.2.2.2.2).bind fun t364 => (laws_FnEarRead.j0 k bt329.2.2.2.2 bt339.2.2.2.2 (!t364) bt329.1 bt329.2.1 bt329.2.2.1 bt329.2.2.2.1 bt339.1 bt339.2.1 bt339.2.2.1 bt339.2.2.2.1)) else (laws_FnEarRead.j0 k bt329.2.2.2.2 bt339.2.2.2.2 true bt329.1 bt329.2.1 bt329.2.2.1 bt329.2.2.2.1 bt339.1 bt339.2.1 bt339.2.2.1 bt339.2.2.2.1))))))
theorem laws_FnEarRead.mono_l : ∀ k, (∀ y0 y1 y2 y3 y4 y5 y6 y7 y8 y9 y10, LeO (laws_FnEarRead.j0 k y0 y1 y2 y3 y4 y5 y6 y7 y8 y9 y10) (laws_FnEarRead.j0 (k + 1) y0 y1 y2 y3 y4 y5 y6 y7 y8 y9 y10)) ∧ (∀ y0 y1 y2 y3 y4 y5 y6 y7 y8 y9 y10, LeO (laws_FnEarRead.j1 k y0 y1 y2 y3 y4 y5 y6 y7 y8 y9 y10) (laws_FnEarRead.j1 (k + 1) y0 y1 y2 y3 y4 y5 y6 y7 y8 y9 y10))
  | 0 => ⟨fun _ _ _ _ _ _ _ _ _ _ _ r h => by simp [laws_FnEarRead.j0] at h, fun _ _ _ _ _ _ _ _ _ _ _ r h => by simp [laws_FnEarRead.j1] at h⟩
  | k + 1 => by
    obtain ⟨ih0, ih1⟩ := laws_FnEarRead.mono_l k
    refine ⟨?_, ?_⟩
    · intro y0 y1 y2 y3 y4 y5 y6 y7 y8 y9 y10
      unfold laws_FnEarRead.j0
      repeat' first
      | (with_reducible exact ih0 _ _ _ _ _ _ _ _ _ _ _)
      | (with_reducible exact ih1 _ _ _ _ _ _ _ _ _ _ _)
      | (with_reducible exact impl_EarOk.mono _ _ _ _ _)
      | (with_reducible exact impl_EarRead.mono _ _ _ _ _ _)
      | (with_reducible exact laws_alive.mono _)
      | (with_reducible exact laws_sameEar.mono _ _ _ _ _ _ _ _ _)
      | (with_reducible exact spec_DrawEarRead.mono _ _)
      | (with_reducible exact spec_EarRead.mono _ _ _ _ _ _)
      | (with_reducible exact LeO.refl _)
      | (with_reducible exact LeO.none _)
      | (with_reducible refine LeO.ite ?_ ?_)
      | (with_reducible refine LeO.bind ?_ (fun _ => ?_))
      | exact ih0 _ _ _ _ _ _ _ _ _ _ _
      | exact ih1 _ _ _ _ _ _ _ _ _ _ _
      | exact impl_EarOk.mono _ _ _ _ _
      | exact impl_EarRead.mono _ _ _ _ _ _
      | exact laws_alive.mono _
      | exact laws_sameEar.mono _ _ _ _ _ _ _ _ _
      | exact spec_DrawEarRead.mono _ _
      | exact spec_EarRead.mono _ _ _ _ _ _
      | exact LeO.none _
      | refine LeO.ite ?_ ?_
      | refine LeO.bind ?_ (fun _ => ?_)
    · intro y0 y1 y2 y3 y4 y5 y6 y7 y8 y9 y10
      unfold laws_FnEarRead.j1
      repeat' first
      | (with_reducible exact ih0 _ _ _ _ _ _ _ _ _ _ _)
      | (with_reducible exact ih1 _ _ _ _ _ _ _ _ _ _ _)
      | (with_reducible exact impl_EarOk.mono _ _ _ _ _)
      | (with_reducible exact impl_EarRead.mono _ _ _ _ _ _)
      | (with_reducible exact laws_alive.mono _)
      | (with_reducible exact laws_sameEar.mono _ _ _ _ _ _ _ _ _)
      | (with_reducible exact spec_DrawEarRead.mono _ _)
      | (with_reducible exact spec_EarRead.mono _ _ _ _ _ _)
      | (with_reducible exact LeO.refl _)
      | (with_reducible exact LeO.none _)
      | (with_reducible refine LeO.ite ?_ ?_)
      | (with_reducible refine LeO.bind ?_ (fun _ => ?_))
      | exact ih0 _ _ _ _ _ _ _ _ _ _ _
      | exact ih1 _ _ _ _ _ _ _ _ _ _ _
      | exact impl_EarOk.mono _ _ _ _ _
      | exact impl_EarRead.mono _ _ _ _ _ _
      | exact laws_alive.mono _
      | exact laws_sameEar.mono _ _ _ _ _ _ _ _ _
      | exact spec_DrawEarRead.mono _ _
      | exact spec_EarRead.mono _ _ _ _ _ _
      | exact LeO.none _
      | refine LeO.ite ?_ ?_
      | refine LeO.bind ?_ (fun _ => ?_)
theorem laws_FnEarRead.mono : ∀ a0 k, LeO (laws_FnEarRead.f k a0) (laws_FnEarRead.f (k + 1) a0) := by
  intro a0 k
  obtain ⟨ih0, ih1⟩ := laws_FnEarRead.mono_l k
  unfold laws_FnEarRead.f
  repeat' first
      | (with_reducible exact ih0 _ _ _ _ _ _ _ _ _ _ _)
      | (with_reducible exact ih1 _ _ _ _ _ _ _ _ _ _ _)
      | (with_reducible exact impl_EarOk.mono _ _ _ _ _)
      | (with_reducible exact impl_EarRead.mono _ _ _ _ _ _)
      | (with_reducible exact laws_alive.mono _)
      | (with_reducible exact laws_sameEar.mono _ _ _ _ _ _ _ _ _)
      | (with_reducible exact spec_DrawEarRead.mono _ _)
      | (with_reducible exact spec_EarRead.mono _ _ _ _ _ _)
      | (with_reducible exact LeO.refl _)
      | (with_reducible exact LeO.none _)
      | (with_reducible refine LeO.ite ?_ ?_)
      | (with_reducible refine LeO.bind ?_ (fun _ => ?_))
      | exact ih0 _ _ _ _ _ _ _ _ _ _ _
      | exact ih1 _ _ _ _ _ _ _ _ _ _ _
      | exact impl_EarOk.mono _ _ _ _ _
      | exact impl_EarRead.mono _ _ _ _ _ _
      | exact laws_alive.mono _
      | exact laws_sameEar.mono _ _ _ _ _ _ _ _ _
      | exact spec_DrawEarRead.mono _ _
      | exact spec_EarRead.mono _ _ _ _ _ _
      | exact LeO.none _
      | refine LeO.ite ?_ ?_
      | refine LeO.bind ?_ (fun _ => ?_)
def laws_FnEarRead.T10 : Bool × List (List Nat × List Nat) := (true, [([], []), ([0], [0]), ([1, 1], [1]), ([2], [2]), ([3, 2], [2, 3]), ([2], [2]), ([5, 2], [2, 5]), ([4, 6, 2], [2, 4, 6]), ([2, 7], [2, 7]), ([8, 2], [8]), ([9], [9]), ([10, 9], [9, 10]), ([9], [9]), ([11, 12, 9], [9, 11, 12]), ([9, 13], [9, 13]), ([14, 9], [14]), ([15], [15]), ([15], [15]), ([16, 17, 15, 15], [15, 16, 17]), ([15], [15]), ([19, 15], [15, 19]), ([18, 20, 18, 15], [15, 18, 20]), ([15], [15]), ([22, 15], [15, 22]), ([21, 23, 21, 15], [15, 21, 23]), ([15, 24], [15, 24]), ([25, 24], [25]), ([26, 26], [26]), ([26, 27], [26, 27]), ([28, 27, 0, 1, 2, 3, 4, 5, 6, 7, 8, 9, 10, 11, 12, 13, 14, 15, 16, 17, 18, 19, 20, 21, 22, 23, 24, 25, 26, 27, 28], [28])])
def laws_FnEarRead.B10 : List Nat := [0, 1, 3, 7, 15, 7, 39, 127, 255, 511, 1023, 2047, 1023, 8191, 16383, 32767, 65535, 65535, 262143, 65535, 589823, 2097151, 65535, 4259839, 16777215, 33554431, 67108863, 134217727, 268435455, 536870911]
theorem laws_FnEarRead.tab10 : rtab .any (opsOf Try.f4 10) = laws_FnEarRead.T10 := by kernel_rfl
theorem laws_FnEarRead.bits10 : waitsOk laws_FnEarRead.T10.2 laws_FnEarRead.B10 = true := by kernel_rfl
set_option maxHeartbeats 8000000 in
set_option maxRecDepth 100000 in
theorem laws_FnEarRead.calls (k : Nat) (A0 : Option Addr) (c0 : Nat) (l0 : List Int) (r : Bool) (w : World) (hr0 : Kd.C (Kd.int .u8) w A0 l0.length l0) (hc0 : l0.length ≤ c0) (h : laws_FnEarRead.f k l0 = some r) (hlw : r = true) :
    Calls Try.prog 4 #[.slice A0 l0.length c0] w fun e w' => e = .returned (.bool r) ∧ Below w.heap.size w w' := by
  have hu25 := Try.underlying25
  have HLW := Aside0.mk hlw
  clear hlw
  have HR0 := Aside0.mk hr0
  have HC0 := Aside0.mk hc0
  clear hr0 hc0
  have HB := Aside0.mk (Below.refl w.heap.size w)
  have H : (if (l0.length : Int) > 1048576 then (some true) else ((spec_DrawEarRead.f k l0).bind fun bt329 => ((impl_EarRead.f k bt329.1 bt329.2.1 bt329.2.2.1 bt329.2.2.2.1 bt329.2.2.2.2).bind fun bt339 => ((spec_EarRead.f k bt329.1 bt329.2.1 bt329.2.2.1 bt329.2.2.2.1 bt329.2.2.2.2).bind fun bt351 => ((laws_sameEar.f k bt339.1 bt339.2.1 bt339.2.2.1 bt339.2.2.2.1 bt351.1 bt351.2.1 bt351.2.2.1 bt351.2.2.2.1).bind fun t363 => (if t363 = true then ((laws_sameBytes.f bt339.2.2.2.2 bt351.2.2.2.2).bind fun t364 => (laws_FnEarRead.j0 k bt329.2.2.2.2 bt339.2.2.2.2 (!t364) bt329.1 bt329.2.1 bt329.2.2.1 bt329.2.2.2.1 bt339.1 bt339.2.1 bt339.2.2.1 bt339.2.2.2.1)) else (laws_FnEarRead.j0 k bt329.2.2.2.2 bt339.2.2.2.2 true bt329.1 bt329.2.1 bt329.2.2.1 bt329.2.2.2.1 bt339.1 bt339.2.1 bt339.2.2.1 bt339.2.2.2.1))))))) = some r := h
  clear h
  by_cases c2 : (l0.length : Int) > 1048576
  · rw [if_pos c2] at H
    have c2b0 : decide (1048576 < (l0.length : Int)) = true := decide_eq_true c2
    have c2b1 : decide (1048576 < l0.length) = true := decide_eq_true (by omega)
    clear c2
    obtain rfl := Option.some.inj H
    go_enter Try.func4, Try.ntmps4
    go_wp2
    go_ret
    exact ⟨by first | rfl | (simp [errW_none, errW_some] <;> rfl) | (simp [*, errW_none, errW_some] <;> rfl), by repeat (first | (with_reducible first | exact HB.out | apply below_alloc | apply pw_below_drewN | apply below_drew1) | exact HB.out)⟩
  · rw [if_neg c2] at H
    have c2b0 : decide (1048576 < (l0.length : Int)) = false := decide_eq_false c2
    have c2b1 : decide (1048576 < l0.length) = false := decide_eq_false (by omega)
    clear c2
    replace H := Option.bind_eq_some_iff.mp H
    obtain ⟨⟨t329, t330, t331, t334, t337⟩, A30, H⟩ := H
    replace H : ((impl_EarRead.f k t329 t330 t331 t334 t337).bind fun bt339 => ((spec_EarRead.f k t329 t330 t331 t334 t337).bind fun bt351 => ((laws_sameEar.f k bt339.1 bt339.2.1 bt339.2.2.1 bt339.2.2.2.1 bt351.1 bt351.2.1 bt351.2.2.1 bt351.2.2.2.1).bind fun t363 => (if t363 = true then ((laws_sameBytes.f bt339.2.2.2.2 bt351.2.2.2.2).bind fun t364 => (laws_FnEarRead.j0 k t337 bt339.2.2.2.2 (!t364) t329 t330 t331 t334 bt339.1 bt339.2.1 bt339.2.2.1 bt339.2.2.2.1)) else (laws_FnEarRead.j0 k t337 bt339.2.2.2.2 true t329 t330 t331 t334 bt339.1 bt339.2.1 bt339.2.2.1 bt339.2.2.2.1))))) = some r := H
    have A3 := Aside0.mk A30
    clear A30
    replace H := Option.bind_eq_some_iff.mp H
    obtain ⟨⟨t339, t340, t341, t344, t347⟩, A40, H⟩ := H
    replace H : ((spec_EarRead.f k t329 t330 t331 t334 t337).bind fun bt351 => ((laws_sameEar.f k t339 t340 t341 t344 bt351.1 bt351.2.1 bt351.2.2.1 bt351.2.2.2.1).bind fun t363 => (if t363 = true then ((laws_sameBytes.f t347 bt351.2.2.2.2).bind fun t364 => (laws_FnEarRead.j0 k t337 t347 (!t364) t329 t330 t331 t334 t339 t340 t341 t344)) else (laws_FnEarRead.j0 k t337 t347 true t329 t330 t331 t334 t339 t340 t341 t344)))) = some r := H
    have A4 := Aside0.mk A40
    clear A40
    replace H := Option.bind_eq_some_iff.mp H
    obtain ⟨⟨t351, t352, t353, t356, t359⟩, A50, H⟩ := H
    replace H : ((laws_sameEar.f k t339 t340 t341 t344 t351 t352 t353 t356).bind fun t363 => (if t363 = true then ((laws_sameBytes.f t347 t359).bind fun t364 => (laws_FnEarRead.j0 k t337 t347 (!t364) t329 t330 t331 t334 t339 t340 t341 t344)) else (laws_FnEarRead.j0 k t337 t347 true t329 t330 t331 t334 t339 t340 t341 t344))) = some r := H
    have A5 := Aside0.mk A50
    clear A50
    have HC6 := Aside0.mk H
    clear H
    go_enter Try.func4, Try.ntmps4
    go_upto_region 6 with (first | ((with_reducible refine gate_callee (f := 15) rfl ?_); refine goesL_ (some 14) rfl rfl Try.func15 (by kernel_rfl) rfl #[.slice A0 l0.length c0] rfl ar_ ?_; (with_reducible refine (spec_DrawEarRead.calls k _ _ l0 t329 t330 t331 t334 t337 _ ?side1 ?side2 A3.out).mono ?_); (case side1 => exact kC_ HR0.out); (case side2 => exact HC0.out); rintro e w7 ⟨v332, v335, rfl, ho0, ho1, hb⟩; refine ⟨_, rfl, ?_⟩; have n0_ := Aside0.mk (Kd.R_lower ho0 (below_size (hb0_ HB.out))); have n1_ := Aside0.mk (Kd.Q_lower ho1 (below_size (hb0_ HB.out))); have n2_ := Aside0.mk (below_step (hb0_ HB.out) hb); clear HB; have HO333 := n0_; have HO336 := n1_; have HB := n2_; clear n0_ n1_ n2_; (try clear hb); (try clear hb2); (try clear hk); (try clear hi); (try clear ho0); (try clear ho1)) | ((with_reducible refine gate_dst (N := 3) rfl ?_); (try (refine gate_guard (by rfl) ?_; dsimp only)); refine box_event ?hg (N := 3) ?hd (cs := #[.int .i64 0, .int .i64 0, .slice none 0 0, .slice none 0 0]) (t := 25) ?hr ?_; (case hd => rfl); (case hg => rfl); (case hr => first | (go_simp; done) | (go_simp; rfl)); intro gb338 hg w8 hbox hb; have n0_ := Aside0.mk (Kd.R_below (kR_ HO333.out) hb); have n1_ := Aside0.mk (Kd.Q_below (by (with_reducible repeat (first | apply Kd.Q_alloc | apply Kd.Q_drewN | apply Kd.Q_drew)); exact HO336.out) hb); have n2_ := Aside0.mk (below_step (hb0_ HB.out) hb); have n3_ := Aside0.mk (hbox); have n4_ := Aside0.mk ((by rw [hg]; exact (below_size (hb0_ HB.out)) : w.heap.size ≤ gb338)); have n5_ := Aside0.mk ((by rw [hg]; exact (below_size (hb0_ HB.out)) : w.heap.size ≤ gb338)); clear HO333; clear HO336; clear HB; have HO333 := n0_; have HO336 := n1_; have HB := n2_; have BK338 := n3_; have GW338 := n4_; have GE338 := n5_; clear n0_ n1_ n2_ n3_ n4_ n5_; clear hb hbox hg; have hcz9_0 : w8.cell? ⟨gb338, 0, none⟩ = some (.int .i64 0) := (blk_cell BK338.out 0).trans rfl; have hcz9_1 : w8.cell? ⟨gb338, 1, none⟩ = some (.int .i64 0) := (blk_cell BK338.out 1).trans rfl; have hcz9_2 : w8.cell? ⟨gb338, 2, none⟩ = some (.slice none 0 0) := (blk_cell BK338.out 2).trans rfl; have hcz9_3 : w8.cell? ⟨gb338, 3, none⟩ = some (.slice none 0 0) := (blk_cell BK338.out 3).trans rfl; have hfz9_0 := blk_frozen BK338.out 0; have hfz9_1 := blk_frozen BK338.out 1; have hfz9_2 := blk_frozen BK338.out 2; have hfz9_3 := blk_frozen BK338.out 3; obtain ⟨Ao10, co10, eo10⟩ := Kd.R_slice HO333.out; subst eo10; obtain ⟨Ao11, co11, eo11, _⟩ := Kd.Q_slice HO336.out; subst eo11) | ((with_reducible refine gate_callee (f := 14) rfl ?_); refine goesL_ (some 20) rfl rfl Try.func14 (by kernel_rfl) rfl #[.agg #[.int .i64 t329, .int .i64 t330, .slice Ao10 t331.length co10, .slice Ao11 t334.length co11], .int .i64 t337] rfl ar_ ?_; (with_reducible refine (impl_EarRead.calls k t329 t330 _ _ t331 _ _ t334 t337 t339 t340 t341 t344 t347 _ ?side1 ?side2 ?side3 ?side4 A4.out).mono ?_); (case side1 => refine (Kd.R_reads' (e := 5) (base := w.heap.size) (ok := fun k_ => True) (n := t331.length) (c := co10) ?_).2.2; exact (by refine kR_ ?_; exact (Kd.R_mono (Kd.R_f gb338 3 (.slice Ao11 t334.length co11) (Kd.R_f gb338 2 (.slice Ao10 t331.length co10) (Kd.R_f gb338 1 (.int .i64 t330) (Kd.R_f gb338 0 (.int .i64 t329) (Kd.R_types HO333.out BK338.out (by decide)))))) (fun _ h_ => op1_ h_)))); (case side2 => exact (Kd.R_reads' HO333.out).2.1); (case side3 => refine (Kd.Q_reads' (e := 70) (base := w.heap.size) (ok := fun k_ => True) (n := t334.length) (c := co11) ?_).2.2; exact (by (with_reducible repeat (first | apply Kd.Q_alloc | apply Kd.Q_drewN | apply Kd.Q_drew)); exact (Kd.Q_mono (Kd.Q_far (p := ⟨gb338, 3, none⟩) (Kd.Q_far (p := ⟨gb338, 2, none⟩) (Kd.Q_far (p := ⟨gb338, 1, none⟩) (Kd.Q_far (p := ⟨gb338, 0, none⟩) (Kd.Q_types HO336.out BK338.out (by decide)) (fun _ hk => hk.2) (.int .i64 t329)) (fun _ hk => hk.2) (.int .i64 t330)) (fun _ hk => hk.2) (.slice Ao10 t331.length co10)) (fun _ hk => hk.2) (.slice Ao11 t334.length co11)) (fun _ h_ => op1_ h_)))); (case side4 => exact (Kd.Q_reads' HO336.out).2.1); rintro e w12 ⟨v342, v345, v348, rfl, ho0, ho1, ho2, hb⟩; refine ⟨_, rfl, ?_⟩; have n0_ := Aside0.mk (Kd.R_mono (Kd.R_told (Kd.R_told (Kd.R_old (by refine kR_ ?_; exact (Kd.R_mono (Kd.R_f gb338 3 (.slice Ao11 t334.length co11) (Kd.R_f gb338 2 (.slice Ao10 t331.length co10) (Kd.R_f gb338 1 (.int .i64 t330) (Kd.R_f gb338 0 (.int .i64 t329) (Kd.R_types HO333.out BK338.out (by decide)))))) (fun _ h_ => op1_ h_))) hb) (Kd.R_base ho0)) (Kd.R_base ho2)) (fun _ h_ => op1_ h_)); have n1_ := Aside0.mk (Kd.Q_elder' (by (with_reducible repeat (first | apply Kd.Q_alloc | apply Kd.Q_drewN | apply Kd.Q_drew)); exact (Kd.Q_mono (Kd.Q_far (p := ⟨gb338, 3, none⟩) (Kd.Q_far (p := ⟨gb338, 2, none⟩) (Kd.Q_far (p := ⟨gb338, 1, none⟩) (Kd.Q_far (p := ⟨gb338, 0, none⟩) (Kd.Q_types HO336.out BK338.out (by decide)) (fun _ hk => hk.2) (.int .i64 t329)) (fun _ hk => hk.2) (.int .i64 t330)) (fun _ hk => hk.2) (.slice Ao10 t331.length co10)) (fun _ hk => hk.2) (.slice Ao11 t334.length co11)) (fun _ h_ => op1_ h_))) (Kd.R_base ho1) hb); have n2_ := Aside0.mk (Kd.R_lower (Kd.R_new' ho0 (Kd.R_lt (by refine kR_ ?_; exact (Kd.R_mono (Kd.R_f gb338 3 (.slice Ao11 t334.length co11) (Kd.R_f gb338 2 (.slice Ao10 t331.length co10) (Kd.R_f gb338 1 (.int .i64 t330) (Kd.R_f gb338 0 (.int .i64 t329) (Kd.R_types HO333.out BK338.out (by decide)))))) (fun _ h_ => op1_ h_))))) (below_size (hb1_ HB.out GE338.out))); have n3_ := Aside0.mk (Kd.R_lower (Kd.R_new' ho1 (Kd.Q_lt (by (with_reducible repeat (first | apply Kd.Q_alloc | apply Kd.Q_drewN | apply Kd.Q_drew)); exact (Kd.Q_mono (Kd.Q_far (p := ⟨gb338, 3, none⟩) (Kd.Q_far (p := ⟨gb338, 2, none⟩) (Kd.Q_far (p := ⟨gb338, 1, none⟩) (Kd.Q_far (p := ⟨gb338, 0, none⟩) (Kd.Q_types HO336.out BK338.out (by decide)) (fun _ hk => hk.2) (.int .i64 t329)) (fun _ hk => hk.2) (.int .i64 t330)) (fun _ hk => hk.2) (.slice Ao10 t331.length co10)) (fun _ hk => hk.2) (.slice Ao11 t334.length co11)) (fun _ h_ => op1_ h_))))) (below_size (hb1_ HB.out GE338.out))); have n4_ := Aside0.mk (Kd.R_lower (Kd.R_new' ho2 (Kd.R_lt (by refine kR_ ?_; exact (Kd.R_mono (Kd.R_f gb338 3 (.slice Ao11 t334.length co11) (Kd.R_f gb338 2 (.slice Ao10 t331.length co10) (Kd.R_f gb338 1 (.int .i64 t330) (Kd.R_f gb338 0 (.int .i64 t329) (Kd.R_types HO333.out BK338.out (by decide)))))) (fun _ h_ => op1_ h_))))) (below_size (hb1_ HB.out GE338.out))); have n5_ := Aside0.mk (blk_below (g := gb338) (o := .cells #[.int .i64 t329, .int .i64 t330, .slice Ao10 t331.length co10, .slice Ao11 t334.length co11] 25 (0, 0)) (by refine kb_ ?_; refine blk_put (cs := #[.int .i64 t329, .int .i64 t330, .slice Ao10 t331.length co10, .slice none 0 0]) ?_ 3 _ rfl; refine kb_ ?_; refine blk_put (cs := #[.int .i64 t329, .int .i64 t330, .slice none 0 0, .slice none 0 0]) ?_ 2 _ rfl; refine kb_ ?_; refine blk_put (cs := #[.int .i64 t329, .int .i64 0, .slice none 0 0, .slice none 0 0]) ?_ 1 _ rfl; refine kb_ ?_; refine blk_put (cs := #[.int .i64 0, .int .i64 0, .slice none 0 0, .slice none 0 0]) ?_ 0 _ rfl; refine kb_ ?_; exact BK338.out) hb); have n6_ := Aside0.mk (below_step (hb1_ HB.out GE338.out) hb); clear HO333; clear HO336; clear BK338; clear HB; have HO333 := n0_; have HO336 := n1_; have HO343 := n2_; have HO346 := n3_; have HO349 := n4_; have BK338 := n5_; have HB := n6_; clear n0_ n1_ n2_ n3_ n4_ n5_ n6_; (try clear hb); (try clear hb2); (try clear hk); (try clear hi); (try clear ho0); (try clear ho1); (try clear ho2)) | ((with_reducible refine gate_dst (N := 5) rfl ?_); (try (refine gate_guard (by rfl) ?_; dsimp only)); refine box_event ?hg (N := 5) ?hd (cs := #[.int .i64 0, .int .i64 0, .slice none 0 0, .slice none 0 0]) (t := 25) ?hr ?_; (case hd => rfl); (case hg => rfl); (case hr => first | (go_simp; done) | (go_simp; rfl)); intro gb350 hg w13 hbox hb; have n0_ := Aside0.mk (Kd.R_below (kR_ HO333.out) hb); have n1_ := Aside0.mk (Kd.Q_below (by (with_reducible repeat (first | apply Kd.Q_alloc | apply Kd.Q_drewN | apply Kd.Q_drew)); exact HO336.out) hb); have n2_ := Aside0.mk (Kd.R_below (kR_ HO343.out) hb); have n3_ := Aside0.mk (Kd.R_below (kR_ HO346.out) hb); have n4_ := Aside0.mk (Kd.R_below (kR_ HO349.out) hb); have n5_ := Aside0.mk (blk_below (g := gb338) (o := .cells #[.int .i64 t329, .int .i64 t330, .slice Ao10 t331.length co10, .slice Ao11 t334.length co11] 25 (0, 0)) (kb_ BK338.out) hb); have n6_ := Aside0.mk (below_step (hb1_ HB.out GE338.out) hb); have n7_ := Aside0.mk (hbox); have n8_ := Aside0.mk ((by rw [hg]; exact (below_size (hb1_ HB.out GE338.out)) : w.heap.size ≤ gb350)); have n9_ := Aside0.mk ((by rw [hg]; exact (below_size (hb1_ HB.out GE338.out)) : w.heap.size ≤ gb350)); have n10_ := Aside0.mk ((by rw [hg]; exact Nat.ne_of_lt (blk_lt (g := gb338) (o := .cells #[.int .i64 t329, .int .i64 t330, .slice Ao10 t331.length co10, .slice Ao11 t334.length co11] 25 (0, 0)) (kb_ BK338.out)) : gb338 ≠ gb350)); have n11_ := Aside0.mk ((by rw [hg]; exact Nat.ne_of_gt (blk_lt (g := gb338) (o := .cells #[.int .i64 t329, .int .i64 t330, .slice Ao10 t331.length co10, .slice Ao11 t334.length co11] 25 (0, 0)) (kb_ BK338.out)) : gb350 ≠ gb338)); clear HO333; clear HO336; clear HO343; clear HO346; clear HO349; clear BK338; clear HB; have HO333 := n0_; have HO336 := n1_; have HO343 := n2_; have HO346 := n3_; have HO349 := n4_; have BK338 := n5_; have HB := n6_; have BK350 := n7_; have GW350 := n8_; have GE350 := n9_; have NB338_350 := n10_; have NB350_338 := n11_; clear n0_ n1_ n2_ n3_ n4_ n5_ n6_ n7_ n8_ n9_ n10_ n11_; clear hb hbox hg; have hnb14 := NB350_338.out; have hnc14 := NB338_350.out; have hcz15_0 : w13.cell? ⟨gb350, 0, none⟩ = some (.int .i64 0) := (blk_cell BK350.out 0).trans rfl; have hcz15_1 : w13.cell? ⟨gb350, 1, none⟩ = some (.int .i64 0) := (blk_cell BK350.out 1).trans rfl; have hcz15_2 : w13.cell? ⟨gb350, 2, none⟩ = some (.slice none 0 0) := (blk_cell BK350.out 2).trans rfl; have hcz15_3 : w13.cell? ⟨gb350, 3, none⟩ = some (.slice none 0 0) := (blk_cell BK350.out 3).trans rfl; have hfz15_0 := blk_frozen BK350.out 0; have hfz15_1 := blk_frozen BK350.out 1; have hfz15_2 := blk_frozen BK350.out 2; have hfz15_3 := blk_frozen BK350.out 3; obtain ⟨Ao16, co16, eo16⟩ := Kd.R_slice HO343.out; subst eo16; obtain ⟨Ao17, co17, eo17⟩ := Kd.R_slice HO346.out; subst eo17; have hcz18_0 : w13.cell? ⟨gb338, 0, none⟩ = some (.int .i64 t329) := (blk_cell BK338.out 0).trans rfl; have hcz18_1 : w13.cell? ⟨gb338, 1, none⟩ = some (.int .i64 t330) := (blk_cell BK338.out 1).trans rfl; have hcz18_2 : w13.cell? ⟨gb338, 2, none⟩ = some (.slice Ao10 t331.length co10) := (blk_cell BK338.out 2).trans rfl; have hcz18_3 : w13.cell? ⟨gb338, 3, none⟩ = some (.slice Ao11 t334.length co11) := (blk_cell BK338.out 3).trans rfl; have hfz18_0 := blk_frozen BK338.out 0; have hfz18_1 := blk_frozen BK338.out 1; have hfz18_2 := blk_frozen BK338.out 2; have hfz18_3 := blk_frozen BK338.out 3) | ((with_reducible refine gate_callee (f := 16) rfl ?_); refine goesL_ (some 26) rfl rfl Try.func16 (by kernel_rfl) rfl #[.agg #[.int .i64 t329, .int .i64 t330, .slice Ao10 t331.length co10, .slice Ao11 t334.length co11], .int .i64 t337] rfl ar_ ?_; (with_reducible refine (spec_EarRead.calls k t329 t330 _ _ t331 _ _ t334 t337 t351 t352 t353 t356 t359 _ ?side1 ?side2 ?side3 ?side4 A5.out).mono ?_); (case side1 => refine (Kd.R_reads' (e := 5) (base := w.heap.size) (ok := fun k_ => ((True ∧ some k_ ≠ (.slice Ao16 t341.length co16 : Value).ownBlock) ∧ some k_ ≠ (v348 : Value).ownBlock)) (n := t331.length) (c := co10) ?_).2.2; exact (by refine kR_ ?_; exact (Kd.R_mono (Kd.R_f gb350 3 (.slice Ao17 t344.length co17) (Kd.R_f gb350 2 (.slice Ao16 t341.length co16) (Kd.R_f gb350 1 (.int .i64 t340) (Kd.R_f gb350 0 (.int .i64 t339) (Kd.R_types HO333.out BK350.out (by decide)))))) (fun _ h_ => op1_ h_)))); (case side2 => exact (Kd.R_reads' HO333.out).2.1); (case side3 => refine (Kd.Q_reads' (e := 70) (base := w.heap.size) (ok := fun k_ => (True ∧ some k_ ≠ (.slice Ao17 t344.length co17 : Value).ownBlock)) (n := t334.length) (c := co11) ?_).2.2; exact (by (with_reducible repeat (first | apply Kd.Q_alloc | apply Kd.Q_drewN | apply Kd.Q_drew)); exact (Kd.Q_mono (Kd.Q_far (p := ⟨gb350, 3, none⟩) (Kd.Q_far (p := ⟨gb350, 2, none⟩) (Kd.Q_far (p := ⟨gb350, 1, none⟩) (Kd.Q_far (p := ⟨gb350, 0, none⟩) (Kd.Q_types HO336.out BK350.out (by decide)) (fun _ hk => hk.2) (.int .i64 t339)) (fun _ hk => hk.2) (.int .i64 t340)) (fun _ hk => hk.2) (.slice Ao16 t341.length co16)) (fun _ hk => hk.2) (.slice Ao17 t344.length co17)) (fun _ h_ => op1_ h_)))); (case side4 => exact (Kd.Q_reads' HO336.out).2.1); rintro e w19 ⟨v354, v357, v360, rfl, ho0, ho1, ho2, hb⟩; refine ⟨_, rfl, ?_⟩; have n0_ := Aside0.mk (Kd.R_mono (Kd.R_told (Kd.R_told (Kd.R_old (by refine kR_ ?_; exact (Kd.R_mono (Kd.R_f gb350 3 (.slice Ao17 t344.length co17) (Kd.R_f gb350 2 (.slice Ao16 t341.length co16) (Kd.R_f gb350 1 (.int .i64 t340) (Kd.R_f gb350 0 (.int .i64 t339) (Kd.R_types HO333.out BK350.out (by decide)))))) (fun _ h_ => op1_ h_))) hb) (Kd.R_base ho0)) (Kd.R_base ho2)) (fun _ h_ => op1_ h_)); have n1_ := Aside0.mk (Kd.Q_elder' (by (with_reducible repeat (first | apply Kd.Q_alloc | apply Kd.Q_drewN | apply Kd.Q_drew)); exact (Kd.Q_mono (Kd.Q_far (p := ⟨gb350, 3, none⟩) (Kd.Q_far (p := ⟨gb350, 2, none⟩) (Kd.Q_far (p := ⟨gb350, 1, none⟩) (Kd.Q_far (p := ⟨gb350, 0, none⟩) (Kd.Q_types HO336.out BK350.out (by decide)) (fun _ hk => hk.2) (.int .i64 t339)) (fun _ hk => hk.2) (.int .i64 t340)) (fun _ hk => hk.2) (.slice Ao16 t341.length co16)) (fun _ hk => hk.2) (.slice Ao17 t344.length co17)) (fun _ h_ => op1_ h_))) (Kd.R_base ho1) hb); have n2_ := Aside0.mk (Kd.R_mono (Kd.R_told (Kd.R_told (Kd.R_old (by refine kR_ ?_; exact (Kd.R_mono (Kd.R_f gb350 3 (.slice Ao17 t344.length co17) (Kd.R_f gb350 2 (.slice Ao16 t341.length co16) (Kd.R_f gb350 1 (.int .i64 t340) (Kd.R_f gb350 0 (.int .i64 t339) (Kd.R_types HO343.out BK350.out (by decide)))))) (fun _ h_ => op1_ h_))) hb) (Kd.R_base ho0)) (Kd.R_base ho2)) (fun _ h_ => op1_ h_)); have n3_ := Aside0.mk (Kd.R_elder' (by refine kR_ ?_; exact (Kd.R_mono (Kd.R_f gb350 3 (.slice Ao17 t344.length co17) (Kd.R_f gb350 2 (.slice Ao16 t341.length co16) (Kd.R_f gb350 1 (.int .i64 t340) (Kd.R_f gb350 0 (.int .i64 t339) (Kd.R_types HO346.out BK350.out (by decide)))))) (fun _ h_ => op1_ h_))) (Kd.R_base ho1) hb); have n4_ := Aside0.mk (Kd.R_mono (Kd.R_told (Kd.R_told (Kd.R_old (by refine kR_ ?_; exact (Kd.R_mono (Kd.R_f gb350 3 (.slice Ao17 t344.length co17) (Kd.R_f gb350 2 (.slice Ao16 t341.length co16) (Kd.R_f gb350 1 (.int .i64 t340) (Kd.R_f gb350 0 (.int .i64 t339) (Kd.R_types HO349.out BK350.out (by decide)))))) (fun _ h_ => op1_ h_))) hb) (Kd.R_base ho0)) (Kd.R_base ho2)) (fun _ h_ => op1_ h_)); have n5_ := Aside0.mk (Kd.R_lower (Kd.R_new' (Kd.R_new' (Kd.R_new' ho0 (Kd.R_lt (by refine kR_ ?_; exact (Kd.R_mono (Kd.R_f gb350 3 (.slice Ao17 t344.length co17) (Kd.R_f gb350 2 (.slice Ao16 t341.length co16) (Kd.R_f gb350 1 (.int .i64 t340) (Kd.R_f gb350 0 (.int .i64 t339) (Kd.R_types HO333.out BK350.out (by decide)))))) (fun _ h_ => op1_ h_))))) (Kd.R_lt (by refine kR_ ?_; exact (Kd.R_mono (Kd.R_f gb350 3 (.slice Ao17 t344.length co17) (Kd.R_f gb350 2 (.slice Ao16 t341.length co16) (Kd.R_f gb350 1 (.int .i64 t340) (Kd.R_f gb350 0 (.int .i64 t339) (Kd.R_types HO343.out BK350.out (by decide)))))) (fun _ h_ => op1_ h_))))) (Kd.R_lt (by refine kR_ ?_; exact (Kd.R_mono (Kd.R_f gb350 3 (.slice Ao17 t344.length co17) (Kd.R_f gb350 2 (.slice Ao16 t341.length co16) (Kd.R_f gb350 1 (.int .i64 t340) (Kd.R_f gb350 0 (.int .i64 t339) (Kd.R_types HO349.out BK350.out (by decide)))))) (fun _ h_ => op1_ h_))))) (below_size (hb2_ HB.out GE338.out GE350.out))); have n6_ := Aside0.mk (Kd.R_lower (Kd.R_new' (Kd.R_new' ho1 (Kd.Q_lt (by (with_reducible repeat (first | apply Kd.Q_alloc | apply Kd.Q_drewN | apply Kd.Q_drew)); exact (Kd.Q_mono (Kd.Q_far (p := ⟨gb350, 3, none⟩) (Kd.Q_far (p := ⟨gb350, 2, none⟩) (Kd.Q_far (p := ⟨gb350, 1, none⟩) (Kd.Q_far (p := ⟨gb350, 0, none⟩) (Kd.Q_types HO336.out BK350.out (by decide)) (fun _ hk => hk.2) (.int .i64 t339)) (fun _ hk => hk.2) (.int .i64 t340)) (fun _ hk => hk.2) (.slice Ao16 t341.length co16)) (fun _ hk => hk.2) (.slice Ao17 t344.length co17)) (fun _ h_ => op1_ h_))))) (Kd.R_lt (by refine kR_ ?_; exact (Kd.R_mono (Kd.R_f gb350 3 (.slice Ao17 t344.length co17) (Kd.R_f gb350 2 (.slice Ao16 t341.length co16) (Kd.R_f gb350 1 (.int .i64 t340) (Kd.R_f gb350 0 (.int .i64 t339) (Kd.R_types HO346.out BK350.out (by decide)))))) (fun _ h_ => op1_ h_))))) (below_size (hb2_ HB.out GE338.out GE350.out))); have n7_ := Aside0.mk (Kd.R_lower (Kd.R_new' (Kd.R_new' (Kd.R_new' ho2 (Kd.R_lt (by refine kR_ ?_; exact (Kd.R_mono (Kd.R_f gb350 3 (.slice Ao17 t344.length co17) (Kd.R_f gb350 2 (.slice Ao16 t341.length co16) (Kd.R_f gb350 1 (.int .i64 t340) (Kd.R_f gb350 0 (.int .i64 t339) (Kd.R_types HO333.out BK350.out (by decide)))))) (fun _ h_ => op1_ h_))))) (Kd.R_lt (by refine kR_ ?_; exact (Kd.R_mono (Kd.R_f gb350 3 (.slice Ao17 t344.length co17) (Kd.R_f gb350 2 (.slice Ao16 t341.length co16) (Kd.R_f gb350 1 (.int .i64 t340) (Kd.R_f gb350 0 (.int .i64 t339) (Kd.R_types HO343.out BK350.out (by decide)))))) (fun _ h_ => op1_ h_))))) (Kd.R_lt (by refine kR_ ?_; exact (Kd.R_mono (Kd.R_f gb350 3 (.slice Ao17 t344.length co17) (Kd.R_f gb350 2 (.slice Ao16 t341.length co16) (Kd.R_f gb350 1 (.int .i64 t340) (Kd.R_f gb350 0 (.int .i64 t339) (Kd.R_types HO349.out BK350.out (by decide)))))) (fun _ h_ => op1_ h_))))) (below_size (hb2_ HB.out GE338.out GE350.out))); have n8_ := Aside0.mk (blk_below (g := gb338) (o := .cells #[.int .i64 t329, .int .i64 t330, .slice Ao10 t331.length co10, .slice Ao11 t334.length co11] 25 (0, 0)) (by refine kb_ ?_; refine blk_far ?_ NB338_350.out _; refine kb_ ?_; refine blk_far ?_ NB338_350.out _; refine kb_ ?_; refine blk_far ?_ NB338_350.out _; refine kb_ ?_; refine blk_far ?_ NB338_350.out _; refine kb_ ?_; exact BK338.out) hb); have n9_ := Aside0.mk (blk_below (g := gb350) (o := .cells #[.int .i64 t339, .int .i64 t340, .slice Ao16 t341.length co16, .slice Ao17 t344.length co17] 25 (0, 0)) (by refine kb_ ?_; refine blk_put (cs := #[.int .i64 t339, .int .i64 t340, .slice Ao16 t341.length co16, .slice none 0 0]) ?_ 3 _ rfl; refine kb_ ?_; refine blk_put (cs := #[.int .i64 t339, .int .i64 t340, .slice none 0 0, .slice none 0 0]) ?_ 2 _ rfl; refine kb_ ?_; refine blk_put (cs := #[.int .i64 t339, .int .i64 0, .slice none 0 0, .slice none 0 0]) ?_ 1 _ rfl; refine kb_ ?_; refine blk_put (cs := #[.int .i64 0, .int .i64 0, .slice none 0 0, .slice none 0 0]) ?_ 0 _ rfl; refine kb_ ?_; exact BK350.out) hb); have n10_ := Aside0.mk (below_step (hb2_ HB.out GE338.out GE350.out) hb); clear HO333; clear HO336; clear HO343; clear HO346; clear HO349; clear BK338; clear BK350; clear HB; have HO333 := n0_; have HO336 := n1_; have HO343 := n2_; have HO346 := n3_; have HO349 := n4_; have HO355 := n5_; have HO358 := n6_; have HO361 := n7_; have BK338 := n8_; have BK350 := n9_; have HB := n10_; clear n0_ n1_ n2_ n3_ n4_ n5_ n6_ n7_ n8_ n9_ n10_; (try clear hb); (try clear hb2); (try clear hk); (try clear hi); (try clear ho0); (try clear ho1); (try clear ho2)) | ((with_reducible refine gate_dst (N := 7) rfl ?_); (try (refine gate_guard (by rfl) ?_; dsimp only)); refine box_event ?hg (N := 7) ?hd (cs := #[.int .i64 0, .int .i64 0, .slice none 0 0, .slice none 0 0]) (t := 25) ?hr ?_; (case hd => rfl); (case hg => rfl); (case hr => first | (go_simp; done) | (go_simp; rfl)); intro gb362 hg w20 hbox hb; have n0_ := Aside0.mk (Kd.R_below (kR_ HO333.out) hb); have n1_ := Aside0.mk (Kd.Q_below (by (with_reducible repeat (first | apply Kd.Q_alloc | apply Kd.Q_drewN | apply Kd.Q_drew)); exact HO336.out) hb); have n2_ := Aside0.mk (Kd.R_below (kR_ HO343.out) hb); have n3_ := Aside0.mk (Kd.R_below (kR_ HO346.out) hb); have n4_ := Aside0.mk (Kd.R_below (kR_ HO349.out) hb); have n5_ := Aside0.mk (Kd.R_below (kR_ HO355.out) hb); have n6_ := Aside0.mk (Kd.R_below (kR_ HO358.out) hb); have n7_ := Aside0.mk (Kd.R_below (kR_ HO361.out) hb); have n8_ := Aside0.mk (blk_below (g := gb338) (o := .cells #[.int .i64 t329, .int .i64 t330, .slice Ao10 t331.length co10, .slice Ao11 t334.length co11] 25 (0, 0)) (kb_ BK338.out) hb); have n9_ := Aside0.mk (blk_below (g := gb350) (o := .cells #[.int .i64 t339, .int .i64 t340, .slice Ao16 t341.length co16, .slice Ao17 t344.length co17] 25 (0, 0)) (kb_ BK350.out) hb); have n10_ := Aside0.mk (below_step (hb2_ HB.out GE338.out GE350.out) hb); have n11_ := Aside0.mk (hbox); have n12_ := Aside0.mk ((by rw [hg]; exact (below_size (hb2_ HB.out GE338.out GE350.out)) : w.heap.size ≤ gb362)); have n13_ := Aside0.mk ((by rw [hg]; exact (below_size (hb2_ HB.out GE338.out GE350.out)) : w.heap.size ≤ gb362)); have n14_ := Aside0.mk ((by rw [hg]; exact Nat.ne_of_lt (blk_lt (g := gb338) (o := .cells #[.int .i64 t329, .int .i64 t330, .slice Ao10 t331.length co10, .slice Ao11 t334.length co11] 25 (0, 0)) (kb_ BK338.out)) : gb338 ≠ gb362)); have n15_ := Aside0.mk ((by rw [hg]; exact Nat.ne_of_gt (blk_lt (g := gb338) (o := .cells #[.int .i64 t329, .int .i64 t330, .slice Ao10 t331.length co10, .slice Ao11 t334.length co11] 25 (0, 0)) (kb_ BK338.out)) : gb362 ≠ gb338)); have n16_ := Aside0.mk ((by rw [hg]; exact Nat.ne_of_lt (blk_lt (g := gb350) (o := .cells #[.int .i64 t339, .int .i64 t340, .slice Ao16 t341.length co16, .slice Ao17 t344.length co17] 25 (0, 0)) (kb_ BK350.out)) : gb350 ≠ gb362)); have n17_ := Aside0.mk ((by rw [hg]; exact Nat.ne_of_gt (blk_lt (g := gb350) (o := .cells #[.int .i64 t339, .int .i64 t340, .slice Ao16 t341.length co16, .slice Ao17 t344.length co17] 25 (0, 0)) (kb_ BK350.out)) : gb362 ≠ gb350)); clear HO333; clear HO336; clear HO343; clear HO346; clear HO349; clear HO355; clear HO358; clear HO361; clear BK338; clear BK350; clear HB; have HO333 := n0_; have HO336 := n1_; have HO343 := n2_; have HO346 := n3_; have HO349 := n4_; have HO355 := n5_; have HO358 := n6_; have HO361 := n7_; have BK338 := n8_; have BK350 := n9_; have HB := n10_; have BK362 := n11_; have GW362 := n12_; have GE362 := n13_; have NB338_362 := n14_; have NB362_338 := n15_; have NB350_362 := n16_; have NB362_350 := n17_; clear n0_ n1_ n2_ n3_ n4_ n5_ n6_ n7_ n8_ n9_ n10_ n11_ n12_ n13_ n14_ n15_ n16_ n17_; clear hb hbox hg; have hnb21 := NB362_338.out; have hnc21 := NB338_362.out; have hnb22 := NB362_350.out; have hnc22 := NB350_362.out; have hcz23_0 : w20.cell? ⟨gb362, 0, none⟩ = some (.int .i64 0) := (blk_cell BK362.out 0).trans rfl; have hcz23_1 : w20.cell? ⟨gb362, 1, none⟩ = some (.int .i64 0) := (blk_cell BK362.out 1).trans rfl; have hcz23_2 : w20.cell? ⟨gb362, 2, none⟩ = some (.slice none 0 0) := (blk_cell BK362.out 2).trans rfl; have hcz23_3 : w20.cell? ⟨gb362, 3, none⟩ = some (.slice none 0 0) := (blk_cell BK362.out 3).trans rfl; have hfz23_0 := blk_frozen BK362.out 0; have hfz23_1 := blk_frozen BK362.out 1; have hfz23_2 := blk_frozen BK362.out 2; have hfz23_3 := blk_frozen BK362.out 3; obtain ⟨Ao24, co24, eo24⟩ := Kd.R_slice HO355.out; subst eo24; obtain ⟨Ao25, co25, eo25⟩ := Kd.R_slice HO358.out; subst eo25))
    (try simp only [Act.put, List.setIfInBounds_toArray, List.set_cons_zero, List.set_cons_succ])
    go_cut [38] (fun v38 wc => ∃ (kq : Nat) (x38_5 : Bool), v38 = .bool x38_5 ∧ Aside0 (laws_FnEarRead.j0 kq t337 t347 x38_5 t329 t330 t331 t334 t339 t340 t341 t344 = some r) ∧ Aside0 (kq ≤ k) ∧ Aside0 (Kd.R (Kd.int .u8) 5 wc w.heap.size (fun k_ => some k_ ≠ ((.slice Ao10 t331.length co10) : Value).ownBlock ∧ some k_ ≠ ((.slice Ao16 t341.length co16) : Value).ownBlock ∧ some k_ ≠ ((.slice Ao24 t353.length co24) : Value).ownBlock) v348 t347) ∧ Aside0 (Kd.R (Kd.int .u8) 5 wc w.heap.size (fun k_ => some k_ ≠ (v348 : Value).ownBlock ∧ some k_ ≠ ((.slice Ao16 t341.length co16) : Value).ownBlock ∧ some k_ ≠ ((.slice Ao24 t353.length co24) : Value).ownBlock) (.slice Ao10 t331.length co10) t331) ∧ Aside0 (Kd.Q k70 70 wc w.heap.size (fun k_ => some k_ ≠ ((.slice Ao17 t344.length co17) : Value).ownBlock ∧ some k_ ≠ ((.slice Ao25 t356.length co25) : Value).ownBlock) (.slice Ao11 t334.length co11) t334) ∧ Aside0 (Kd.R (Kd.int .u8) 5 wc w.heap.size (fun k_ => some k_ ≠ (v348 : Value).ownBlock ∧ some k_ ≠ ((.slice Ao10 t331.length co10) : Value).ownBlock ∧ some k_ ≠ ((.slice Ao24 t353.length co24) : Value).ownBlock) (.slice Ao16 t341.length co16) t341) ∧ Aside0 (Kd.Q k70 70 wc w.heap.size (fun k_ => some k_ ≠ ((.slice Ao11 t334.length co11) : Value).ownBlock ∧ some k_ ≠ ((.slice Ao25 t356.length co25) : Value).ownBlock) (.slice Ao17 t344.length co17) t344) ∧ Aside0 (Kd.R (Kd.int .u8) 5 wc w.heap.size (fun k_ => some k_ ≠ (v348 : Value).ownBlock ∧ some k_ ≠ ((.slice Ao10 t331.length co10) : Value).ownBlock ∧ some k_ ≠ ((.slice Ao16 t341.length co16) : Value).ownBlock) (.slice Ao24 t353.length co24) t353) ∧ Aside0 (Kd.Q k70 70 wc w.heap.size (fun k_ => some k_ ≠ ((.slice Ao11 t334.length co11) : Value).ownBlock ∧ some k_ ≠ ((.slice Ao17 t344.length co17) : Value).ownBlock) (.slice Ao25 t356.length co25) t356) ∧ Aside0 (wc.heap[gb338]? = some (.cells #[.int .i64 t329, .int .i64 t330, (.slice Ao10 t331.length co10), (.slice Ao11 t334.length co11)] 25 (0, 0))) ∧ Aside0 (wc.heap[gb350]? = some (.cells #[.int .i64 t339, .int .i64 t340, (.slice Ao16 t341.length co16), (.slice Ao17 t344.length co17)] 25 (0, 0))) ∧ Aside0 (wc.heap[gb362]? = some (.cells #[.int .i64 t351, .int .i64 t352, (.slice Ao24 t353.length co24), (.slice Ao25 t356.length co25)] 25 (0, 0))) ∧ Aside0 (Below w.heap.size w wc))
    case first =>
      have H := HC6.out
      clear HC6
      replace H := Option.bind_eq_some_iff.mp H
      obtain ⟨t363, A260, H⟩ := H
      replace H : (if t363 = true then ((laws_sameBytes.f t347 t359).bind fun t364 => (laws_FnEarRead.j0 k t337 t347 (!t364) t329 t330 t331 t334 t339 t340 t341 t344)) else (laws_FnEarRead.j0 k t337 t347 true t329 t330 t331 t334 t339 t340 t341 t344)) = some r := H
      have A26 := Aside0.mk A260
      clear A260
      by_cases c27 : t363 = true
      · subst c27
        have H1 : ((laws_sameBytes.f t347 t359).bind fun t364 => (laws_FnEarRead.j0 k t337 t347 (!t364) t329 t330 t331 t334 t339 t340 t341 t344)) = some r := by rw [if_pos rfl] at H; exact H
        clear H
        have H := H1
        clear H1
        replace H := Option.bind_eq_some_iff.mp H
        obtain ⟨t364, A280, H⟩ := H
        replace H : (laws_FnEarRead.j0 k t337 t347 (!t364) t329 t330 t331 t334 t339 t340 t341 t344) = some r := H
        have A28 := Aside0.mk A280
        clear A280
        have H' := Aside0.mk H
        clear H
        have hnb29 := NB350_338.out
        have hnc29 := NB338_350.out
        have hnb30 := NB350_362.out
        have hnc30 := NB362_350.out
        have hcz31_0 : w20.cell? ⟨gb350, 0, none⟩ = some (.int .i64 t339) := (blk_cell BK350.out 0).trans rfl
        have hcz31_1 : w20.cell? ⟨gb350, 1, none⟩ = some (.int .i64 t340) := (blk_cell BK350.out 1).trans rfl
        have hcz31_2 : w20.cell? ⟨gb350, 2, none⟩ = some (.slice Ao16 t341.length co16) := (blk_cell BK350.out 2).trans rfl
        have hcz31_3 : w20.cell? ⟨gb350, 3, none⟩ = some (.slice Ao17 t344.length co17) := (blk_cell BK350.out 3).trans rfl
        have hfz31_0 := blk_frozen BK350.out 0
        have hfz31_1 := blk_frozen BK350.out 1
        have hfz31_2 := blk_frozen BK350.out 2
        have hfz31_3 := blk_frozen BK350.out 3
        have hnb32 := NB362_338.out
        have hnc32 := NB338_362.out
        have hcz33_0 : w20.cell? ⟨gb362, 0, none⟩ = some (.int .i64 0) := (blk_cell BK362.out 0).trans rfl
        have hcz33_1 : w20.cell? ⟨gb362, 1, none⟩ = some (.int .i64 0) := (blk_cell BK362.out 1).trans rfl
        have hcz33_2 : w20.cell? ⟨gb362, 2, none⟩ = some (.slice none 0 0) := (blk_cell BK362.out 2).trans rfl
        have hcz33_3 : w20.cell? ⟨gb362, 3, none⟩ = some (.slice none 0 0) := (blk_cell BK362.out 3).trans rfl
        have hfz33_0 := blk_frozen BK362.out 0
        have hfz33_1 := blk_frozen BK362.out 1
        have hfz33_2 := blk_frozen BK362.out 2
        have hfz33_3 := blk_frozen BK362.out 3
        go_wp2_with (first | ((with_reducible refine gate_callee (f := 17) rfl ?_); refine goesL_ (some 31) rfl rfl Try.func17 (by kernel_rfl) rfl #[.agg #[.int .i64 t339, .int .i64 t340, .slice Ao16 t341.length co16, .slice Ao17 t344.length co17], .agg #[.int .i64 t351, .int .i64 t352, .slice Ao24 t353.length co24, .slice Ao25 t356.length co25]] rfl ar_ ?_; (with_reducible refine (laws_sameEar.calls k t339 t340 _ _ t341 _ _ t344 t351 t352 _ _ t353 _ _ t356 true _ ?side1 ?side2 ?side3 ?side4 ?side5 ?side6 ?side7 ?side8 A26.out).mono ?_); (case side1 => refine (Kd.R_reads' (e := 5) (base := w.heap.size) (ok := fun k_ => (((some k_ ≠ (v348 : Value).ownBlock ∧ some k_ ≠ (.slice Ao10 t331.length co10 : Value).ownBlock) ∧ some k_ ≠ (.slice Ao24 t353.length co24 : Value).ownBlock) ∧ some k_ ≠ (v360 : Value).ownBlock)) (n := t341.length) (c := co16) ?_).2.2; exact (by refine kR_ ?_; exact (Kd.R_mono (Kd.R_f gb362 3 (.slice Ao25 t356.length co25) (Kd.R_f gb362 2 (.slice Ao24 t353.length co24) (Kd.R_f gb362 1 (.int .i64 t352) (Kd.R_f gb362 0 (.int .i64 t351) (Kd.R_types HO343.out BK362.out (by decide)))))) (fun _ h_ => op1_ h_)))); (case side2 => exact (Kd.R_reads' HO343.out).2.1); (case side3 => refine (Kd.R_reads' (e := 70) (base := w.heap.size) (ok := fun k_ => ((True ∧ some k_ ≠ (.slice Ao11 t334.length co11 : Value).ownBlock) ∧ some k_ ≠ (.slice Ao25 t356.length co25 : Value).ownBlock)) (n := t344.length) (c := co17) ?_).2.2; exact (by refine kR_ ?_; exact (Kd.R_mono (Kd.R_f gb362 3 (.slice Ao25 t356.length co25) (Kd.R_f gb362 2 (.slice Ao24 t353.length co24) (Kd.R_f gb362 1 (.int .i64 t352) (Kd.R_f gb362 0 (.int .i64 t351) (Kd.R_types HO346.out BK362.out (by decide)))))) (fun _ h_ => op1_ h_)))); (case side4 => exact (Kd.R_reads' HO346.out).2.1); (case side5 => refine (Kd.R_reads' (e := 5) (base := w.heap.size) (ok := fun k_ => (((some k_ ≠ (v360 : Value).ownBlock ∧ some k_ ≠ (.slice Ao10 t331.length co10 : Value).ownBlock) ∧ some k_ ≠ (.slice Ao16 t341.length co16 : Value).ownBlock) ∧ some k_ ≠ (v348 : Value).ownBlock)) (n := t353.length) (c := co24) ?_).2.2; exact (by refine kR_ ?_; exact (Kd.R_mono (Kd.R_f gb362 3 (.slice Ao25 t356.length co25) (Kd.R_f gb362 2 (.slice Ao24 t353.length co24) (Kd.R_f gb362 1 (.int .i64 t352) (Kd.R_f gb362 0 (.int .i64 t351) (Kd.R_types HO355.out BK362.out (by decide)))))) (fun _ h_ => op1_ h_)))); (case side6 => exact (Kd.R_reads' HO355.out).2.1); (case side7 => refine (Kd.R_reads' (e := 70) (base := w.heap.size) (ok := fun k_ => ((True ∧ some k_ ≠ (.slice Ao11 t334.length co11 : Value).ownBlock) ∧ some k_ ≠ (.slice Ao17 t344.length co17 : Value).ownBlock)) (n := t356.length) (c := co25) ?_).2.2; exact (by refine kR_ ?_; exact (Kd.R_mono (Kd.R_f gb362 3 (.slice Ao25 t356.length co25) (Kd.R_f gb362 2 (.slice Ao24 t353.length co24) (Kd.R_f gb362 1 (.int .i64 t352) (Kd.R_f gb362 0 (.int .i64 t351) (Kd.R_types HO358.out BK362.out (by decide)))))) (fun _ h_ => op1_ h_)))); (case side8 => exact (Kd.R_reads' HO358.out).2.1); rintro e w34 ⟨rfl, hb⟩; refine ⟨_, rfl, ?_⟩; have n0_ := Aside0.mk (Kd.R_below (by refine kR_ ?_; exact (Kd.R_mono (Kd.R_f gb362 3 (.slice Ao25 t356.length co25) (Kd.R_f gb362 2 (.slice Ao24 t353.length co24) (Kd.R_f gb362 1 (.int .i64 t352) (Kd.R_f gb362 0 (.int .i64 t351) (Kd.R_types HO333.out BK362.out (by decide)))))) (fun _ h_ => op1_ h_))) hb); have n1_ := Aside0.mk (Kd.Q_below (by (with_reducible repeat (first | apply Kd.Q_alloc | apply Kd.Q_drewN | apply Kd.Q_drew)); exact (Kd.Q_mono (Kd.Q_far (p := ⟨gb362, 3, none⟩) (Kd.Q_far (p := ⟨gb362, 2, none⟩) (Kd.Q_far (p := ⟨gb362, 1, none⟩) (Kd.Q_far (p := ⟨gb362, 0, none⟩) (Kd.Q_types HO336.out BK362.out (by decide)) (fun _ hk => hk.2) (.int .i64 t351)) (fun _ hk => hk.2) (.int .i64 t352)) (fun _ hk => hk.2) (.slice Ao24 t353.length co24)) (fun _ hk => hk.2) (.slice Ao25 t356.length co25)) (fun _ h_ => op1_ h_))) hb); have n2_ := Aside0.mk (Kd.R_below (by refine kR_ ?_; exact (Kd.R_mono (Kd.R_f gb362 3 (.slice Ao25 t356.length co25) (Kd.R_f gb362 2 (.slice Ao24 t353.length co24) (Kd.R_f gb362 1 (.int .i64 t352) (Kd.R_f gb362 0 (.int .i64 t351) (Kd.R_types HO343.out BK362.out (by decide)))))) (fun _ h_ => op1_ h_))) hb); have n3_ := Aside0.mk (Kd.R_below (by refine kR_ ?_; exact (Kd.R_mono (Kd.R_f gb362 3 (.slice Ao25 t356.length co25) (Kd.R_f gb362 2 (.slice Ao24 t353.length co24) (Kd.R_f gb362 1 (.int .i64 t352) (Kd.R_f gb362 0 (.int .i64 t351) (Kd.R_types HO346.out BK362.out (by decide)))))) (fun _ h_ => op1_ h_))) hb); have n4_ := Aside0.mk (Kd.R_below (by refine kR_ ?_; exact (Kd.R_mono (Kd.R_f gb362 3 (.slice Ao25 t356.length co25) (Kd.R_f gb362 2 (.slice Ao24 t353.length co24) (Kd.R_f gb362 1 (.int .i64 t352) (Kd.R_f gb362 0 (.int .i64 t351) (Kd.R_types HO349.out BK362.out (by decide)))))) (fun _ h_ => op1_ h_))) hb); have n5_ := Aside0.mk (Kd.R_below (by refine kR_ ?_; exact (Kd.R_mono (Kd.R_f gb362 3 (.slice Ao25 t356.length co25) (Kd.R_f gb362 2 (.slice Ao24 t353.length co24) (Kd.R_f gb362 1 (.int .i64 t352) (Kd.R_f gb362 0 (.int .i64 t351) (Kd.R_types HO355.out BK362.out (by decide)))))) (fun _ h_ => op1_ h_))) hb); have n6_ := Aside0.mk (Kd.R_below (by refine kR_ ?_; exact (Kd.R_mono (Kd.R_f gb362 3 (.slice Ao25 t356.length co25) (Kd.R_f gb362 2 (.slice Ao24 t353.length co24) (Kd.R_f gb362 1 (.int .i64 t352) (Kd.R_f gb362 0 (.int .i64 t351) (Kd.R_types HO358.out BK362.out (by decide)))))) (fun _ h_ => op1_ h_))) hb); have n7_ := Aside0.mk (Kd.R_below (by refine kR_ ?_; exact (Kd.R_mono (Kd.R_f gb362 3 (.slice Ao25 t356.length co25) (Kd.R_f gb362 2 (.slice Ao24 t353.length co24) (Kd.R_f gb362 1 (.int .i64 t352) (Kd.R_f gb362 0 (.int .i64 t351) (Kd.R_types HO361.out BK362.out (by decide)))))) (fun _ h_ => op1_ h_))) hb); have n8_ := Aside0.mk (blk_below (g := gb338) (o := .cells #[.int .i64 t329, .int .i64 t330, .slice Ao10 t331.length co10, .slice Ao11 t334.length co11] 25 (0, 0)) (by refine kb_ ?_; refine blk_far ?_ NB338_362.out _; refine kb_ ?_; refine blk_far ?_ NB338_362.out _; refine kb_ ?_; refine blk_far ?_ NB338_362.out _; refine kb_ ?_; refine blk_far ?_ NB338_362.out _; refine kb_ ?_; exact BK338.out) hb); have n9_ := Aside0.mk (blk_below (g := gb350) (o := .cells #[.int .i64 t339, .int .i64 t340, .slice Ao16 t341.length co16, .slice Ao17 t344.length co17] 25 (0, 0)) (by refine kb_ ?_; refine blk_far ?_ NB350_362.out _; refine kb_ ?_; refine blk_far ?_ NB350_362.out _; refine kb_ ?_; refine blk_far ?_ NB350_362.out _; refine kb_ ?_; refine blk_far ?_ NB350_362.out _; refine kb_ ?_; exact BK350.out) hb); have n10_ := Aside0.mk (blk_below (g := gb362) (o := .cells #[.int .i64 t351, .int .i64 t352, .slice Ao24 t353.length co24, .slice Ao25 t356.length co25] 25 (0, 0)) (by refine kb_ ?_; refine blk_put (cs := #[.int .i64 t351, .int .i64 t352, .slice Ao24 t353.length co24, .slice none 0 0]) ?_ 3 _ rfl; refine kb_ ?_; refine blk_put (cs := #[.int .i64 t351, .int .i64 t352, .slice none 0 0, .slice none 0 0]) ?_ 2 _ rfl; refine kb_ ?_; refine blk_put (cs := #[.int .i64 t351, .int .i64 0, .slice none 0 0, .slice none 0 0]) ?_ 1 _ rfl; refine kb_ ?_; refine blk_put (cs := #[.int .i64 0, .int .i64 0, .slice none 0 0, .slice none 0 0]) ?_ 0 _ rfl; refine kb_ ?_; exact BK362.out) hb); have n11_ := Aside0.mk (below_step (hb3_ HB.out GE338.out GE350.out GE362.out) hb); clear HO333; clear HO336; clear HO343; clear HO346; clear HO349; clear HO355; clear HO358; clear HO361; clear BK338; clear BK350; clear BK362; clear HB; have HO333 := n0_; have HO336 := n1_; have HO343 := n2_; have HO346 := n3_; have HO349 := n4_; have HO355 := n5_; have HO358 := n6_; have HO361 := n7_; have BK338 := n8_; have BK350 := n9_; have BK362 := n10_; have HB := n11_; clear n0_ n1_ n2_ n3_ n4_ n5_ n6_ n7_ n8_ n9_ n10_ n11_; (try clear hb); (try clear hb2); (try clear hk); (try clear hi); obtain ⟨Ao35, co35, eo35⟩ := Kd.R_slice HO349.out; subst eo35; obtain ⟨Ao36, co36, eo36⟩ := Kd.R_slice HO361.out; subst eo36) | (go_at_call 18; (with_reducible refine (laws_sameBytes.calls _ _ t347 _ _ t359 t364 _ ?side1 ?side2 ?side3 ?side4 A28.out).mono ?_); (case side1 => exact kC_ (Kd.R_reads' HO349.out).2.2); (case side2 => exact (Kd.R_reads' HO349.out).2.1); (case side3 => exact kC_ (Kd.R_reads' HO361.out).2.2); (case side4 => exact (Kd.R_reads' HO361.out).2.1); rintro e w' ⟨rfl, ⟨nd, rfl⟩⟩))
        go_meet
        case rel => exact ⟨_, (!t364), (by first | rfl | (simp; done) | (simp [*]; done)), H', ⟨by first | omega | exact Nat.le_refl _⟩, ⟨by refine kR_ ?_; exact Kd.R_mono HO349.out (fun _ hk => op2_ hk)⟩, ⟨by refine kR_ ?_; exact Kd.R_mono HO333.out (fun _ hk => op2_ hk)⟩, ⟨by (with_reducible repeat (first | apply Kd.Q_alloc | apply Kd.Q_drewN | apply Kd.Q_drew)); exact Kd.Q_mono HO336.out (fun _ hk => ⟨hk.1.2, hk.2⟩)⟩, ⟨by refine kR_ ?_; exact Kd.R_mono HO343.out (fun _ hk => op2_ hk)⟩, ⟨Kd.Q_of_R (by refine kR_ ?_; exact Kd.R_mono HO346.out (fun _ hk => op2_ hk))⟩, ⟨by refine kR_ ?_; exact Kd.R_mono HO355.out (fun _ hk => op2_ hk)⟩, ⟨Kd.Q_of_R (by refine kR_ ?_; exact Kd.R_mono HO358.out (fun _ hk => op2_ hk))⟩, ⟨by refine kb_ ?_; exact BK338.out⟩, ⟨by refine kb_ ?_; exact BK350.out⟩, ⟨by refine kb_ ?_; exact BK362.out⟩, ⟨by repeat (first | (with_reducible first | exact HB.out | apply below_alloc | apply pw_below_drewN | apply below_drew1 | refine below_set ?_ GE338.out | refine below_set ?_ GE350.out | refine below_set ?_ GE362.out) | exact HB.out)⟩⟩
      · replace c27 := Bool.eq_false_iff.mpr c27
        subst c27
        have H1 : (laws_FnEarRead.j0 k t337 t347 true t329 t330 t331 t334 t339 t340 t341 t344) = some r := by rw [if_neg (show ¬ (false = true) by decide)] at H; exact H
        clear H
        have H := H1
        clear H1
        have H' := Aside0.mk H
        clear H
        have hnb37 := NB350_338.out
        have hnc37 := NB338_350.out
        have hnb38 := NB350_362.out
        have hnc38 := NB362_350.out
        have hcz39_0 : w20.cell? ⟨gb350, 0, none⟩ = some (.int .i64 t339) := (blk_cell BK350.out 0).trans rfl
        have hcz39_1 : w20.cell? ⟨gb350, 1, none⟩ = some (.int .i64 t340) := (blk_cell BK350.out 1).trans rfl
        have hcz39_2 : w20.cell? ⟨gb350, 2, none⟩ = some (.slice Ao16 t341.length co16) := (blk_cell BK350.out 2).trans rfl
        have hcz39_3 : w20.cell? ⟨gb350, 3, none⟩ = some (.slice Ao17 t344.length co17) := (blk_cell BK350.out 3).trans rfl
        have hfz39_0 := blk_frozen BK350.out 0
        have hfz39_1 := blk_frozen BK350.out 1
        have hfz39_2 := blk_frozen BK350.out 2
        have hfz39_3 := blk_frozen BK350.out 3
        have hnb40 := NB362_338.out
        have hnc40 := NB338_362.out
        have hcz41_0 : w20.cell? ⟨gb362, 0, none⟩ = some (.int .i64 0) := (blk_cell BK362.out 0).trans rfl
        have hcz41_1 : w20.cell? ⟨gb362, 1, none⟩ = some (.int .i64 0) := (blk_cell BK362.out 1).trans rfl
        have hcz41_2 : w20.cell? ⟨gb362, 2, none⟩ = some (.slice none 0 0) := (blk_cell BK362.out 2).trans rfl
        have hcz41_3 : w20.cell? ⟨gb362, 3, none⟩ = some (.slice none 0 0) := (blk_cell BK362.out 3).trans rfl
        have hfz41_0 := blk_frozen BK362.out 0
        have hfz41_1 := blk_frozen BK362.out 1
        have hfz41_2 := blk_frozen BK362.out 2
        have hfz41_3 := blk_frozen BK362.out 3
        go_wp2_with (first | ((with_reducible refine gate_callee (f := 17) rfl ?_); refine goesL_ (some 31) rfl rfl Try.func17 (by kernel_rfl) rfl #[.agg #[.int .i64 t339, .int .i64 t340, .slice Ao16 t341.length co16, .slice Ao17 t344.length co17], .agg #[.int .i64 t351, .int .i64 t352, .slice Ao24 t353.length co24, .slice Ao25 t356.length co25]] rfl ar_ ?_; (with_reducible refine (laws_sameEar.calls k t339 t340 _ _ t341 _ _ t344 t351 t352 _ _ t353 _ _ t356 false _ ?side1 ?side2 ?side3 ?side4 ?side5 ?side6 ?side7 ?side8 A26.out).mono ?_); (case side1 => refine (Kd.R_reads' (e := 5) (base := w.heap.size) (ok := fun k_ => (((some k_ ≠ (v348 : Value).ownBlock ∧ some k_ ≠ (.slice Ao10 t331.length co10 : Value).ownBlock) ∧ some k_ ≠ (.slice Ao24 t353.length co24 : Value).ownBlock) ∧ some k_ ≠ (v360 : Value).ownBlock)) (n := t341.length) (c := co16) ?_).2.2; exact (by refine kR_ ?_; exact (Kd.R_mono (Kd.R_f gb362 3 (.slice Ao25 t356.length co25) (Kd.R_f gb362 2 (.slice Ao24 t353.length co24) (Kd.R_f gb362 1 (.int .i64 t352) (Kd.R_f gb362 0 (.int .i64 t351) (Kd.R_types HO343.out BK362.out (by decide)))))) (fun _ h_ => op1_ h_)))); (case side2 => exact (Kd.R_reads' HO343.out).2.1); (case side3 => refine (Kd.R_reads' (e := 70) (base := w.heap.size) (ok := fun k_ => ((True ∧ some k_ ≠ (.slice Ao11 t334.length co11 : Value).ownBlock) ∧ some k_ ≠ (.slice Ao25 t356.length co25 : Value).ownBlock)) (n := t344.length) (c := co17) ?_).2.2; exact (by refine kR_ ?_; exact (Kd.R_mono (Kd.R_f gb362 3 (.slice Ao25 t356.length co25) (Kd.R_f gb362 2 (.slice Ao24 t353.length co24) (Kd.R_f gb362 1 (.int .i64 t352) (Kd.R_f gb362 0 (.int .i64 t351) (Kd.R_types HO346.out BK362.out (by decide)))))) (fun _ h_ => op1_ h_)))); (case side4 => exact (Kd.R_reads' HO346.out).2.1); (case side5 => refine (Kd.R_reads' (e := 5) (base := w.heap.size) (ok := fun k_ => (((some k_ ≠ (v360 : Value).ownBlock ∧ some k_ ≠ (.slice Ao10 t331.length co10 : Value).ownBlock) ∧ some k_ ≠ (.slice Ao16 t341.length co16 : Value).ownBlock) ∧ some k_ ≠ (v348 : Value).ownBlock)) (n := t353.length) (c := co24) ?_).2.2; exact (by refine kR_ ?_; exact (Kd.R_mono (Kd.R_f gb362 3 (.slice Ao25 t356.length co25) (Kd.R_f gb362 2 (.slice Ao24 t353.length co24) (Kd.R_f gb362 1 (.int .i64 t352) (Kd.R_f gb362 0 (.int .i64 t351) (Kd.R_types HO355.out BK362.out (by decide)))))) (fun _ h_ => op1_ h_)))); (case side6 => exact (Kd.R_reads' HO355.out).2.1); (case side7 => refine (Kd.R_reads' (e := 70) (base := w.heap.size) (ok := fun k_ => ((True ∧ some k_ ≠ (.slice Ao11 t334.length co11 : Value).ownBlock) ∧ some k_ ≠ (.slice Ao17 t344.length co17 : Value).ownBlock)) (n := t356.length) (c := co25) ?_).2.2; exact (by refine kR_ ?_; exact (Kd.R_mono (Kd.R_f gb362 3 (.slice Ao25 t356.length co25) (Kd.R_f gb362 2 (.slice Ao24 t353.length co24) (Kd.R_f gb362 1 (.int .i64 t352) (Kd.R_f gb362 0 (.int .i64 t351) (Kd.R_types HO358.out BK362.out (by decide)))))) (fun _ h_ => op1_ h_)))); (case side8 => exact (Kd.R_reads' HO358.out).2.1); rintro e w42 ⟨rfl, hb⟩; refine ⟨_, rfl, ?_⟩; have n0_ := Aside0.mk (Kd.R_below (by refine kR_ ?_; exact (Kd.R_mono (Kd.R_f gb362 3 (.slice Ao25 t356.length co25) (Kd.R_f gb362 2 (.slice Ao24 t353.length co24) (Kd.R_f gb362 1 (.int .i64 t352) (Kd.R_f gb362 0 (.int .i64 t351) (Kd.R_types HO333.out BK362.out (by decide)))))) (fun _ h_ => op1_ h_))) hb); have n1_ := Aside0.mk (Kd.Q_below (by (with_reducible repeat (first | apply Kd.Q_alloc | apply Kd.Q_drewN | apply Kd.Q_drew)); exact (Kd.Q_mono (Kd.Q_far (p := ⟨gb362, 3, none⟩) (Kd.Q_far (p := ⟨gb362, 2, none⟩) (Kd.Q_far (p := ⟨gb362, 1, none⟩) (Kd.Q_far (p := ⟨gb362, 0, none⟩) (Kd.Q_types HO336.out BK362.out (by decide)) (fun _ hk => hk.2) (.int .i64 t351)) (fun _ hk => hk.2) (.int .i64 t352)) (fun _ hk => hk.2) (.slice Ao24 t353.length co24)) (fun _ hk => hk.2) (.slice Ao25 t356.length co25)) (fun _ h_ => op1_ h_))) hb); have n2_ := Aside0.mk (Kd.R_below (by refine kR_ ?_; exact (Kd.R_mono (Kd.R_f gb362 3 (.slice Ao25 t356.length co25) (Kd.R_f gb362 2 (.slice Ao24 t353.length co24) (Kd.R_f gb362 1 (.int .i64 t352) (Kd.R_f gb362 0 (.int .i64 t351) (Kd.R_types HO343.out BK362.out (by decide)))))) (fun _ h_ => op1_ h_))) hb); have n3_ := Aside0.mk (Kd.R_below (by refine kR_ ?_; exact (Kd.R_mono (Kd.R_f gb362 3 (.slice Ao25 t356.length co25) (Kd.R_f gb362 2 (.slice Ao24 t353.length co24) (Kd.R_f gb362 1 (.int .i64 t352) (Kd.R_f gb362 0 (.int .i64 t351) (Kd.R_types HO346.out BK362.out (by decide)))))) (fun _ h_ => op1_ h_))) hb); have n4_ := Aside0.mk (Kd.R_below (by refine kR_ ?_; exact (Kd.R_mono (Kd.R_f gb362 3 (.slice Ao25 t356.length co25) (Kd.R_f gb362 2 (.slice Ao24 t353.length co24) (Kd.R_f gb362 1 (.int .i64 t352) (Kd.R_f gb362 0 (.int .i64 t351) (Kd.R_types HO349.out BK362.out (by decide)))))) (fun _ h_ => op1_ h_))) hb); have n5_ := Aside0.mk (Kd.R_below (by refine kR_ ?_; exact (Kd.R_mono (Kd.R_f gb362 3 (.slice Ao25 t356.length co25) (Kd.R_f gb362 2 (.slice Ao24 t353.length co24) (Kd.R_f gb362 1 (.int .i64 t352) (Kd.R_f gb362 0 (.int .i64 t351) (Kd.R_types HO355.out BK362.out (by decide)))))) (fun _ h_ => op1_ h_))) hb); have n6_ := Aside0.mk (Kd.R_below (by refine kR_ ?_; exact (Kd.R_mono (Kd.R_f gb362 3 (.slice Ao25 t356.length co25) (Kd.R_f gb362 2 (.slice Ao24 t353.length co24) (Kd.R_f gb362 1 (.int .i64 t352) (Kd.R_f gb362 0 (.int .i64 t351) (Kd.R_types HO358.out BK362.out (by decide)))))) (fun _ h_ => op1_ h_))) hb); have n7_ := Aside0.mk (Kd.R_below (by refine kR_ ?_; exact (Kd.R_mono (Kd.R_f gb362 3 (.slice Ao25 t356.length co25) (Kd.R_f gb362 2 (.slice Ao24 t353.length co24) (Kd.R_f gb362 1 (.int .i64 t352) (Kd.R_f gb362 0 (.int .i64 t351) (Kd.R_types HO361.out BK362.out (by decide)))))) (fun _ h_ => op1_ h_))) hb); have n8_ := Aside0.mk (blk_below (g := gb338) (o := .cells #[.int .i64 t329, .int .i64 t330, .slice Ao10 t331.length co10, .slice Ao11 t334.length co11] 25 (0, 0)) (by refine kb_ ?_; refine blk_far ?_ NB338_362.out _; refine kb_ ?_; refine blk_far ?_ NB338_362.out _; refine kb_ ?_; refine blk_far ?_ NB338_362.out _; refine kb_ ?_; refine blk_far ?_ NB338_362.out _; refine kb_ ?_; exact BK338.out) hb); have n9_ := Aside0.mk (blk_below (g := gb350) (o := .cells #[.int .i64 t339, .int .i64 t340, .slice Ao16 t341.length co16, .slice Ao17 t344.length co17] 25 (0, 0)) (by refine kb_ ?_; refine blk_far ?_ NB350_362.out _; refine kb_ ?_; refine blk_far ?_ NB350_362.out _; refine kb_ ?_; refine blk_far ?_ NB350_362.out _; refine kb_ ?_; refine blk_far ?_ NB350_362.out _; refine kb_ ?_; exact BK350.out) hb); have n10_ := Aside0.mk (blk_below (g := gb362) (o := .cells #[.int .i64 t351, .int .i64 t352, .slice Ao24 t353.length co24, .slice Ao25 t356.length co25] 25 (0, 0)) (by refine kb_ ?_; refine blk_put (cs := #[.int .i64 t351, .int .i64 t352, .slice Ao24 t353.length co24, .slice none 0 0]) ?_ 3 _ rfl; refine kb_ ?_; refine blk_put (cs := #[.int .i64 t351, .int .i64 t352, .slice none 0 0, .slice none 0 0]) ?_ 2 _ rfl; refine kb_ ?_; refine blk_put (cs := #[.int .i64 t351, .int .i64 0, .slice none 0 0, .slice none 0 0]) ?_ 1 _ rfl; refine kb_ ?_; refine blk_put (cs := #[.int .i64 0, .int .i64 0, .slice none 0 0, .slice none 0 0]) ?_ 0 _ rfl; refine kb_ ?_; exact BK362.out) hb); have n11_ := Aside0.mk (below_step (hb3_ HB.out GE338.out GE350.out GE362.out) hb); clear HO333; clear HO336; clear HO343; clear HO346; clear HO349; clear HO355; clear HO358; clear HO361; clear BK338; clear BK350; clear BK362; clear HB; have HO333 := n0_; have HO336 := n1_; have HO343 := n2_; have HO346 := n3_; have HO349 := n4_; have HO355 := n5_; have HO358 := n6_; have HO361 := n7_; have BK338 := n8_; have BK350 := n9_; have BK362 := n10_; have HB := n11_; clear n0_ n1_ n2_ n3_ n4_ n5_ n6_ n7_ n8_ n9_ n10_ n11_; (try clear hb); (try clear hb2); (try clear hk); (try clear hi)))
        go_meet
        case rel => exact ⟨_, (true), (by first | rfl | (simp; done) | (simp [*]; done)), H', ⟨by first | omega | exact Nat.le_refl _⟩, ⟨by refine kR_ ?_; exact Kd.R_mono HO349.out (fun _ hk => op2_ hk)⟩, ⟨by refine kR_ ?_; exact Kd.R_mono HO333.out (fun _ hk => op2_ hk)⟩, ⟨by (with_reducible repeat (first | apply Kd.Q_alloc | apply Kd.Q_drewN | apply Kd.Q_drew)); exact Kd.Q_mono HO336.out (fun _ hk => ⟨hk.1.2, hk.2⟩)⟩, ⟨by refine kR_ ?_; exact Kd.R_mono HO343.out (fun _ hk => op2_ hk)⟩, ⟨Kd.Q_of_R (by refine kR_ ?_; exact Kd.R_mono HO346.out (fun _ hk => op2_ hk))⟩, ⟨by refine kR_ ?_; exact Kd.R_mono HO355.out (fun _ hk => op2_ hk)⟩, ⟨Kd.Q_of_R (by refine kR_ ?_; exact Kd.R_mono HO358.out (fun _ hk => op2_ hk))⟩, ⟨by refine kb_ ?_; exact BK338.out⟩, ⟨by refine kb_ ?_; exact BK350.out⟩, ⟨by refine kb_ ?_; exact BK362.out⟩, ⟨by repeat (first | (with_reducible first | exact HB.out | apply below_alloc | apply pw_below_drewN | apply below_drew1 | refine below_set ?_ GE338.out | refine below_set ?_ GE350.out | refine below_set ?_ GE362.out) | exact HB.out)⟩⟩
    case rest =>
      clear HC6
      try clear c1
      try clear c2
      try clear c2b0
      try clear c2b1
      try clear p2
      try clear c3
      try clear c4
      try clear c14
      try clear c15
      try clear c16
      try clear c17
      try clear c21
      try clear c22
      try clear c27
      try clear c29
      try clear c30
      try clear c32
      try clear c37
      try clear c38
      try clear c40
      try clear hcz15_0
      try clear hcz15_1
      try clear hcz15_2
      try clear hcz15_3
      try clear hcz18_0
      try clear hcz18_1
      try clear hcz18_2
      try clear hcz18_3
      try clear hcz23_0
      try clear hcz23_1
      try clear hcz23_2
      try clear hcz23_3
      try clear hcz31_0
      try clear hcz31_1
      try clear hcz31_2
      try clear hcz31_3
      try clear hcz33_0
      try clear hcz33_1
      try clear hcz33_2
      try clear hcz33_3
      try clear hcz39_0
      try clear hcz39_1
      try clear hcz39_2
      try clear hcz39_3
      try clear hcz41_0
      try clear hcz41_1
      try clear hcz41_2
      try clear hcz41_3
      try clear hcz9_0
      try clear hcz9_1
      try clear hcz9_2
      try clear hcz9_3
      try clear hfz15_0
      try clear hfz15_1
      try clear hfz15_2
      try clear hfz15_3
      try clear hfz18_0
      try clear hfz18_1
      try clear hfz18_2
      try clear hfz18_3
      try clear hfz23_0
      try clear hfz23_1
      try clear hfz23_2
      try clear hfz23_3
      try clear hfz31_0
      try clear hfz31_1
      try clear hfz31_2
      try clear hfz31_3
      try clear hfz33_0
      try clear hfz33_1
      try clear hfz33_2
      try clear hfz33_3
      try clear hfz39_0
      try clear hfz39_1
      try clear hfz39_2
      try clear hfz39_3
      try clear hfz41_0
      try clear hfz41_1
      try clear hfz41_2
      try clear hfz41_3
      try clear hfz9_0
      try clear hfz9_1
      try clear hfz9_2
      try clear hfz9_3
      obtain ⟨kq, x38_5, rfl, HA, HJ5, HO_6, HO_339002, HO_339003, HO_351002, HO_351003, HO_363002, HO_363003, BK338, BK350, BK362, HB⟩ := hcut
      cases kq with
      | zero => exact absurd HA.out (by simp [laws_FnEarRead.j0])
      | succ kj5 =>
        have H := HA.out
        clear HA
        simp only [laws_FnEarRead.j0] at H
        by_cases c43 : x38_5 = true
        · subst c43
          have H1 : (some false) = some r := by rw [if_pos rfl] at H; exact H
          clear H
          have H := H1
          clear H1
          exact absurd (Option.some.inj H) (by rw [HLW.out]; exact Bool.false_ne_true)
        · replace c43 := Bool.eq_false_iff.mpr c43
          subst c43
          have H1 : ((impl_EarOk.f kj5 t329 t330 t331 t334).bind fun t365 => (if t365 = true then (laws_FnEarRead.j1 kj5 t337 t347 (decide (t337 < 0)) t329 t330 t331 t334 t339 t340 t341 t344) else (laws_FnEarRead.j1 kj5 t337 t347 true t329 t330 t331 t334 t339 t340 t341 t344))) = some r := by rw [if_neg (show ¬ (false = true) by decide)] at H; exact H
          clear H
          have H := H1
          clear H1
          have HC44 := Aside0.mk H
          clear H
          go_upto_region 8 with (fail)
          go_cut [45] (fun v45 wc => ∃ (kq : Nat) (x45_43 : Bool), v45 = .bool x45_43 ∧ Aside0 (laws_FnEarRead.j1 kq t337 t347 x45_43 t329 t330 t331 t334 t339 t340 t341 t344 = some r) ∧ Aside0 (kq ≤ kj5) ∧ Aside0 (Kd.R (Kd.int .u8) 5 wc w.heap.size (fun k_ => some k_ ≠ ((.slice Ao10 t331.length co10) : Value).ownBlock ∧ some k_ ≠ ((.slice Ao16 t341.length co16) : Value).ownBlock ∧ some k_ ≠ ((.slice Ao24 t353.length co24) : Value).ownBlock) v348 t347) ∧ Aside0 (Kd.R (Kd.int .u8) 5 wc w.heap.size (fun k_ => some k_ ≠ (v348 : Value).ownBlock ∧ some k_ ≠ ((.slice Ao16 t341.length co16) : Value).ownBlock ∧ some k_ ≠ ((.slice Ao24 t353.length co24) : Value).ownBlock) (.slice Ao10 t331.length co10) t331) ∧ Aside0 (Kd.Q k70 70 wc w.heap.size (fun k_ => some k_ ≠ ((.slice Ao17 t344.length co17) : Value).ownBlock ∧ some k_ ≠ ((.slice Ao25 t356.length co25) : Value).ownBlock) (.slice Ao11 t334.length co11) t334) ∧ Aside0 (Kd.R (Kd.int .u8) 5 wc w.heap.size (fun k_ => some k_ ≠ (v348 : Value).ownBlock ∧ some k_ ≠ ((.slice Ao10 t331.length co10) : Value).ownBlock ∧ some k_ ≠ ((.slice Ao24 t353.length co24) : Value).ownBlock) (.slice Ao16 t341.length co16) t341) ∧ Aside0 (Kd.Q k70 70 wc w.heap.size (fun k_ => some k_ ≠ ((.slice Ao11 t334.length co11) : Value).ownBlock ∧ some k_ ≠ ((.slice Ao25 t356.length co25) : Value).ownBlock) (.slice Ao17 t344.length co17) t344) ∧ Aside0 (Kd.R (Kd.int .u8) 5 wc w.heap.size (fun k_ => some k_ ≠ (v348 : Value).ownBlock ∧ some k_ ≠ ((.slice Ao10 t331.length co10) : Value).ownBlock ∧ some k_ ≠ ((.slice Ao16 t341.length co16) : Value).ownBlock) (.slice Ao24 t353.length co24) t353) ∧ Aside0 (Kd.Q k70 70 wc w.heap.size (fun k_ => some k_ ≠ ((.slice Ao11 t334.length co11) : Value).ownBlock ∧ some k_ ≠ ((.slice Ao17 t344.length co17) : Value).ownBlock) (.slice Ao25 t356.length co25) t356) ∧ Aside0 (wc.heap[gb338]? = some (.cells #[.int .i64 t329, .int .i64 t330, (.slice Ao10 t331.length co10), (.slice Ao11 t334.length co11)] 25 (0, 0))) ∧ Aside0 (wc.heap[gb350]? = some (.cells #[.int .i64 t339, .int .i64 t340, (.slice Ao16 t341.length co16), (.slice Ao17 t344.length co17)] 25 (0, 0))) ∧ Aside0 (wc.heap[gb362]? = some (.cells #[.int .i64 t351, .int .i64 t352, (.slice Ao24 t353.length co24), (.slice Ao25 t356.length co25)] 25 (0, 0))) ∧ Aside0 (Below w.heap.size w wc))
          case first =>
            have H := HC44.out
            clear HC44
            replace H := Option.bind_eq_some_iff.mp H
            obtain ⟨t365, A450, H⟩ := H
            replace H : (if t365 = true then (laws_FnEarRead.j1 kj5 t337 t347 (decide (t337 < 0)) t329 t330 t331 t334 t339 t340 t341 t344) else (laws_FnEarRead.j1 kj5 t337 t347 true t329 t330 t331 t334 t339 t340 t341 t344)) = some r := H
            have A45 := Aside0.mk A450
            clear A450
            by_cases c46 : t365 = true
            · subst c46
              have H1 : (laws_FnEarRead.j1 kj5 t337 t347 (decide (t337 < 0)) t329 t330 t331 t334 t339 t340 t341 t344) = some r := by rw [if_pos rfl] at H; exact H
              clear H
              have H := H1
              clear H1
              have H' := Aside0.mk H
              clear H
              have hnb47 := NB338_350.out
              have hnc47 := NB350_338.out
              have hnb48 := NB338_362.out
              have hnc48 := NB362_338.out
              have hcz49_0 : wc.cell? ⟨gb338, 0, none⟩ = some (.int .i64 t329) := (blk_cell BK338.out 0).trans rfl
              have hcz49_1 : wc.cell? ⟨gb338, 1, none⟩ = some (.int .i64 t330) := (blk_cell BK338.out 1).trans rfl
              have hcz49_2 : wc.cell? ⟨gb338, 2, none⟩ = some (.slice Ao10 t331.length co10) := (blk_cell BK338.out 2).trans rfl
              have hcz49_3 : wc.cell? ⟨gb338, 3, none⟩ = some (.slice Ao11 t334.length co11) := (blk_cell BK338.out 3).trans rfl
              have hfz49_0 := blk_frozen BK338.out 0
              have hfz49_1 := blk_frozen BK338.out 1
              have hfz49_2 := blk_frozen BK338.out 2
              have hfz49_3 := blk_frozen BK338.out 3
              go_wp2_with (first | ((with_reducible refine gate_callee (f := 12) rfl ?_); refine goesL_ (some 40) rfl rfl Try.func12 (by kernel_rfl) rfl #[.agg #[.int .i64 t329, .int .i64 t330, .slice Ao10 t331.length co10, .slice Ao11 t334.length co11]] rfl ar_ ?_; (with_reducible refine (impl_EarOk.calls kj5 t329 t330 _ _ t331 _ _ t334 true _ ?side1 ?side2 ?side3 ?side4 A45.out).mono ?_); (case side1 => exact kC_ (Kd.R_reads' HO_339002.out).2.2); (case side2 => exact (Kd.R_reads' HO_339002.out).2.1); (case side3 => exact kC_ (Kd.Q_reads' HO_339003.out).2.2); (case side4 => exact (Kd.Q_reads' HO_339003.out).2.1); rintro e w50 ⟨rfl, hb⟩; refine ⟨_, rfl, ?_⟩; have n0_ := Aside0.mk (Kd.R_below (kR_ HO_6.out) hb); have n1_ := Aside0.mk (Kd.R_below (kR_ HO_339002.out) hb); have n2_ := Aside0.mk (Kd.Q_below (by (with_reducible repeat (first | apply Kd.Q_alloc | apply Kd.Q_drewN | apply Kd.Q_drew)); exact HO_339003.out) hb); have n3_ := Aside0.mk (Kd.R_below (kR_ HO_351002.out) hb); have n4_ := Aside0.mk (Kd.Q_below (by (with_reducible repeat (first | apply Kd.Q_alloc | apply Kd.Q_drewN | apply Kd.Q_drew)); exact HO_351003.out) hb); have n5_ := Aside0.mk (Kd.R_below (kR_ HO_363002.out) hb); have n6_ := Aside0.mk (Kd.Q_below (by (with_reducible repeat (first | apply Kd.Q_alloc | apply Kd.Q_drewN | apply Kd.Q_drew)); exact HO_363003.out) hb); have n7_ := Aside0.mk (blk_below (g := gb338) (o := .cells #[.int .i64 t329, .int .i64 t330, .slice Ao10 t331.length co10, .slice Ao11 t334.length co11] 25 (0, 0)) (kb_ BK338.out) hb); have n8_ := Aside0.mk (blk_below (g := gb350) (o := .cells #[.int .i64 t339, .int .i64 t340, .slice Ao16 t341.length co16, .slice Ao17 t344.length co17] 25 (0, 0)) (kb_ BK350.out) hb); have n9_ := Aside0.mk (blk_below (g := gb362) (o := .cells #[.int .i64 t351, .int .i64 t352, .slice Ao24 t353.length co24, .slice Ao25 t356.length co25] 25 (0, 0)) (kb_ BK362.out) hb); have n10_ := Aside0.mk (below_step (hb3_ HB.out GE338.out GE350.out GE362.out) hb); clear HO_6; clear HO_339002; clear HO_339003; clear HO_351002; clear HO_351003; clear HO_363002; clear HO_363003; clear BK338; clear BK350; clear BK362; clear HB; have HO_6 := n0_; have HO_339002 := n1_; have HO_339003 := n2_; have HO_351002 := n3_; have HO_351003 := n4_; have HO_363002 := n5_; have HO_363003 := n6_; have BK338 := n7_; have BK350 := n8_; have BK362 := n9_; have HB := n10_; clear n0_ n1_ n2_ n3_ n4_ n5_ n6_ n7_ n8_ n9_ n10_; (try clear hb); (try clear hb2); (try clear hk); (try clear hi)))
              go_meet
              case rel => exact ⟨_, (decide (t337 < 0)), (by first | rfl | (simp; done) | (simp [*]; done)), H', ⟨by have := HJ5.out; first | omega | exact Nat.le_refl _⟩, ⟨kR_ HO_6.out⟩, ⟨kR_ HO_339002.out⟩, ⟨by (with_reducible repeat (first | apply Kd.Q_alloc | apply Kd.Q_drewN | apply Kd.Q_drew)); exact HO_339003.out⟩, ⟨kR_ HO_351002.out⟩, ⟨by (with_reducible repeat (first | apply Kd.Q_alloc | apply Kd.Q_drewN | apply Kd.Q_drew)); exact HO_351003.out⟩, ⟨kR_ HO_363002.out⟩, ⟨by (with_reducible repeat (first | apply Kd.Q_alloc | apply Kd.Q_drewN | apply Kd.Q_drew)); exact HO_363003.out⟩, ⟨by refine kb_ ?_; exact BK338.out⟩, ⟨by refine kb_ ?_; exact BK350.out⟩, ⟨by refine kb_ ?_; exact BK362.out⟩, ⟨by repeat (first | (with_reducible first | exact HB.out | apply below_alloc | apply pw_below_drewN | apply below_drew1 | refine below_set ?_ GE338.out | refine below_set ?_ GE350.out | refine below_set ?_ GE362.out) | exact HB.out)⟩⟩
            · replace c46 := Bool.eq_false_iff.mpr c46
              subst c46
              have H1 : (laws_FnEarRead.j1 kj5 t337 t347 true t329 t330 t331 t334 t339 t340 t341 t344) = some r := by rw [if_neg (show ¬ (false = true) by decide)] at H; exact H
              clear H
              have H := H1
              clear H1
              have H' := Aside0.mk H
              clear H
              have hnb51 := NB338_350.out
              have hnc51 := NB350_338.out
              have hnb52 := NB338_362.out
              have hnc52 := NB362_338.out
              have hcz53_0 : wc.cell? ⟨gb338, 0, none⟩ = some (.int .i64 t329) := (blk_cell BK338.out 0).trans rfl
              have hcz53_1 : wc.cell? ⟨gb338, 1, none⟩ = some (.int .i64 t330) := (blk_cell BK338.out 1).trans rfl
              have hcz53_2 : wc.cell? ⟨gb338, 2, none⟩ = some (.slice Ao10 t331.length co10) := (blk_cell BK338.out 2).trans rfl
              have hcz53_3 : wc.cell? ⟨gb338, 3, none⟩ = some (.slice Ao11 t334.length co11) := (blk_cell BK338.out 3).trans rfl
              have hfz53_0 := blk_frozen BK338.out 0
              have hfz53_1 := blk_frozen BK338.out 1
              have hfz53_2 := blk_frozen BK338.out 2
              have hfz53_3 := blk_frozen BK338.out 3
              go_wp2_with (first | ((with_reducible refine gate_callee (f := 12) rfl ?_); refine goesL_ (some 40) rfl rfl Try.func12 (by kernel_rfl) rfl #[.agg #[.int .i64 t329, .int .i64 t330, .slice Ao10 t331.length co10, .slice Ao11 t334.length co11]] rfl ar_ ?_; (with_reducible refine (impl_EarOk.calls kj5 t329 t330 _ _ t331 _ _ t334 false _ ?side1 ?side2 ?side3 ?side4 A45.out).mono ?_); (case side1 => exact kC_ (Kd.R_reads' HO_339002.out).2.2); (case side2 => exact (Kd.R_reads' HO_339002.out).2.1); (case side3 => exact kC_ (Kd.Q_reads' HO_339003.out).2.2); (case side4 => exact (Kd.Q_reads' HO_339003.out).2.1); rintro e w54 ⟨rfl, hb⟩; refine ⟨_, rfl, ?_⟩; have n0_ := Aside0.mk (Kd.R_below (kR_ HO_6.out) hb); have n1_ := Aside0.mk (Kd.R_below (kR_ HO_339002.out) hb); have n2_ := Aside0.mk (Kd.Q_below (by (with_reducible repeat (first | apply Kd.Q_alloc | apply Kd.Q_drewN | apply Kd.Q_drew)); exact HO_339003.out) hb); have n3_ := Aside0.mk (Kd.R_below (kR_ HO_351002.out) hb); have n4_ := Aside0.mk (Kd.Q_below (by (with_reducible repeat (first | apply Kd.Q_alloc | apply Kd.Q_drewN | apply Kd.Q_drew)); exact HO_351003.out) hb); have n5_ := Aside0.mk (Kd.R_below (kR_ HO_363002.out) hb); have n6_ := Aside0.mk (Kd.Q_below (by (with_reducible repeat (first | apply Kd.Q_alloc | apply Kd.Q_drewN | apply Kd.Q_drew)); exact HO_363003.out) hb); have n7_ := Aside0.mk (blk_below (g := gb338) (o := .cells #[.int .i64 t329, .int .i64 t330, .slice Ao10 t331.length co10, .slice Ao11 t334.length co11] 25 (0, 0)) (kb_ BK338.out) hb); have n8_ := Aside0.mk (blk_below (g := gb350) (o := .cells #[.int .i64 t339, .int .i64 t340, .slice Ao16 t341.length co16, .slice Ao17 t344.length co17] 25 (0, 0)) (kb_ BK350.out) hb); have n9_ := Aside0.mk (blk_below (g := gb362) (o := .cells #[.int .i64 t351, .int .i64 t352, .slice Ao24 t353.length co24, .slice Ao25 t356.length co25] 25 (0, 0)) (kb_ BK362.out) hb); have n10_ := Aside0.mk (below_step (hb3_ HB.out GE338.out GE350.out GE362.out) hb); clear HO_6; clear HO_339002; clear HO_339003; clear HO_351002; clear HO_351003; clear HO_363002; clear HO_363003; clear BK338; clear BK350; clear BK362; clear HB; have HO_6 := n0_; have HO_339002 := n1_; have HO_339003 := n2_; have HO_351002 := n3_; have HO_351003 := n4_; have HO_363002 := n5_; have HO_363003 := n6_; have BK338 := n7_; have BK350 := n8_; have BK362 := n9_; have HB := n10_; clear n0_ n1_ n2_ n3_ n4_ n5_ n6_ n7_ n8_ n9_ n10_; (try clear hb); (try clear hb2); (try clear hk); (try clear hi)))
              go_meet
              case rel => exact ⟨_, (true), (by first | rfl | (simp; done) | (simp [*]; done)), H', ⟨by have := HJ5.out; first | omega | exact Nat.le_refl _⟩, ⟨kR_ HO_6.out⟩, ⟨kR_ HO_339002.out⟩, ⟨by (with_reducible repeat (first | apply Kd.Q_alloc | apply Kd.Q_drewN | apply Kd.Q_drew)); exact HO_339003.out⟩, ⟨kR_ HO_351002.out⟩, ⟨by (with_reducible repeat (first | apply Kd.Q_alloc | apply Kd.Q_drewN | apply Kd.Q_drew)); exact HO_351003.out⟩, ⟨kR_ HO_363002.out⟩, ⟨by (with_reducible repeat (first | apply Kd.Q_alloc | apply Kd.Q_drewN | apply Kd.Q_drew)); exact HO_363003.out⟩, ⟨by refine kb_ ?_; exact BK338.out⟩, ⟨by refine kb_ ?_; exact BK350.out⟩, ⟨by refine kb_ ?_; exact BK362.out⟩, ⟨by repeat (first | (with_reducible first | exact HB.out | apply below_alloc | apply pw_below_drewN | apply below_drew1 | refine below_set ?_ GE338.out | refine below_set ?_ GE350.out | refine below_set ?_ GE362.out) | exact HB.out)⟩⟩
          case rest =>
            clear HC44
            try clear c1
            try clear c2
            try clear c2b0
            try clear c2b1
            try clear p2
            try clear c3
            try clear c4
            try clear c5
            try clear c12
            try clear c14
            try clear c15
            try clear c16
            try clear c17
            try clear c21
            try clear c22
            try clear c27
            try clear c29
            try clear c30
            try clear c32
            try clear c37
            try clear c38
            try clear c40
            try clear c43
            try clear c46
            try clear c47
            try clear c48
            try clear c51
            try clear c52
            try clear hcz15_0
            try clear hcz15_1
            try clear hcz15_2
            try clear hcz15_3
            try clear hcz18_0
            try clear hcz18_1
            try clear hcz18_2
            try clear hcz18_3
            try clear hcz23_0
            try clear hcz23_1
            try clear hcz23_2
            try clear hcz23_3
            try clear hcz31_0
            try clear hcz31_1
            try clear hcz31_2
            try clear hcz31_3
            try clear hcz33_0
            try clear hcz33_1
            try clear hcz33_2
            try clear hcz33_3
            try clear hcz39_0
            try clear hcz39_1
            try clear hcz39_2
            try clear hcz39_3
            try clear hcz41_0
            try clear hcz41_1
            try clear hcz41_2
            try clear hcz41_3
            try clear hcz49_0
            try clear hcz49_1
            try clear hcz49_2
            try clear hcz49_3
            try clear hcz53_0
            try clear hcz53_1
            try clear hcz53_2
            try clear hcz53_3
            try clear hcz9_0
            try clear hcz9_1
            try clear hcz9_2
            try clear hcz9_3
            try clear hfz15_0
            try clear hfz15_1
            try clear hfz15_2
            try clear hfz15_3
            try clear hfz18_0
            try clear hfz18_1
            try clear hfz18_2
            try clear hfz18_3
            try clear hfz23_0
            try clear hfz23_1
            try clear hfz23_2
            try clear hfz23_3
            try clear hfz31_0
            try clear hfz31_1
            try clear hfz31_2
            try clear hfz31_3
            try clear hfz33_0
            try clear hfz33_1
            try clear hfz33_2
            try clear hfz33_3
            try clear hfz39_0
            try clear hfz39_1
            try clear hfz39_2
            try clear hfz39_3
            try clear hfz41_0
            try clear hfz41_1
            try clear hfz41_2
            try clear hfz41_3
            try clear hfz49_0
            try clear hfz49_1
            try clear hfz49_2
            try clear hfz49_3
            try clear hfz53_0
            try clear hfz53_1
            try clear hfz53_2
            try clear hfz53_3
            try clear hfz9_0
            try clear hfz9_1
            try clear hfz9_2
            try clear hfz9_3
            try clear p2
            obtain ⟨kq, x45_43, rfl, HA, HJ43, HO_6, HO_339002, HO_339003, HO_351002, HO_351003, HO_363002, HO_363003, BK338, BK350, BK362, HB⟩ := hcut
            cases kq with
            | zero => exact absurd HA.out (by simp [laws_FnEarRead.j1])
            | succ kj43 =>
              have H := HA.out
              clear HA
              simp only [laws_FnEarRead.j1] at H
              by_cases c55 : x45_43 = true
              · subst c55
                have H1 : (if (t347.length : Int) = 0 then ((laws_alive.f kj43).bind fun t366 => (some t366)) else (some false)) = some r := by rw [if_pos rfl] at H; exact H
                clear H
                have H := H1
                clear H1
                by_cases c56 : (t347.length : Int) = 0
                · rw [if_pos c56] at H
                  have c56b0 : ((t347.length : Int) == 0) = true := beq_iff_eq.mpr c56
                  have c56b1 : ((t347.length : Int) != 0) = false := bne_eq_false_iff_eq.mpr c56
                  clear c56
                  replace H := Option.bind_eq_some_iff.mp H
                  obtain ⟨t366, A570, H⟩ := H
                  replace H : (some t366) = some r := H
                  have A57 := Aside0.mk A570
                  clear A570
                  obtain rfl := Option.some.inj H
                  obtain ⟨Ao58, co58, eo58⟩ := Kd.R_slice HO_6.out
                  subst eo58
                  go_wp2_with (first | (go_at_call 13; (with_reducible refine (laws_alive.calls kj43  t366 _ A57.out).mono ?_); rintro e w59 ⟨rfl, hb⟩; have n0_ := Aside0.mk (Kd.R_below (kR_ HO_6.out) hb); have n1_ := Aside0.mk (Kd.R_below (kR_ HO_339002.out) hb); have n2_ := Aside0.mk (Kd.Q_below (by (with_reducible repeat (first | apply Kd.Q_alloc | apply Kd.Q_drewN | apply Kd.Q_drew)); exact HO_339003.out) hb); have n3_ := Aside0.mk (Kd.R_below (kR_ HO_351002.out) hb); have n4_ := Aside0.mk (Kd.Q_below (by (with_reducible repeat (first | apply Kd.Q_alloc | apply Kd.Q_drewN | apply Kd.Q_drew)); exact HO_351003.out) hb); have n5_ := Aside0.mk (Kd.R_below (kR_ HO_363002.out) hb); have n6_ := Aside0.mk (Kd.Q_below (by (with_reducible repeat (first | apply Kd.Q_alloc | apply Kd.Q_drewN | apply Kd.Q_drew)); exact HO_363003.out) hb); have n7_ := Aside0.mk (blk_below (g := gb338) (o := .cells #[.int .i64 t329, .int .i64 t330, .slice Ao10 t331.length co10, .slice Ao11 t334.length co11] 25 (0, 0)) (kb_ BK338.out) hb); have n8_ := Aside0.mk (blk_below (g := gb350) (o := .cells #[.int .i64 t339, .int .i64 t340, .slice Ao16 t341.length co16, .slice Ao17 t344.length co17] 25 (0, 0)) (kb_ BK350.out) hb); have n9_ := Aside0.mk (blk_below (g := gb362) (o := .cells #[.int .i64 t351, .int .i64 t352, .slice Ao24 t353.length co24, .slice Ao25 t356.length co25] 25 (0, 0)) (kb_ BK362.out) hb); have n10_ := Aside0.mk (below_step (hb3_ HB.out GE338.out GE350.out GE362.out) hb); clear HO_6; clear HO_339002; clear HO_339003; clear HO_351002; clear HO_351003; clear HO_363002; clear HO_363003; clear BK338; clear BK350; clear BK362; clear HB; have HO_6 := n0_; have HO_339002 := n1_; have HO_339003 := n2_; have HO_351002 := n3_; have HO_351003 := n4_; have HO_363002 := n5_; have HO_363003 := n6_; have BK338 := n7_; have BK350 := n8_; have BK362 := n9_; have HB := n10_; clear n0_ n1_ n2_ n3_ n4_ n5_ n6_ n7_ n8_ n9_ n10_; (try clear hb); (try clear hb2); (try clear hk); (try clear hi)))
                  go_ret
                  exact ⟨by first | rfl | (simp [errW_none, errW_some] <;> rfl) | (simp [*, errW_none, errW_some] <;> rfl), by repeat (first | (with_reducible first | exact HB.out | apply below_alloc | apply pw_below_drewN | apply below_drew1 | refine below_set ?_ GE338.out | refine below_set ?_ GE350.out | refine below_set ?_ GE362.out) | exact HB.out)⟩
                · rw [if_neg c56] at H
                  have c56b0 : ((t347.length : Int) == 0) = false := beq_eq_false_iff_ne.mpr c56
                  have c56b1 : ((t347.length : Int) != 0) = true := bne_iff_ne.mpr c56
                  have c56b2 : ¬ (t347 = []) := fun h_ => c56 (by rw [h_]; rfl)
                  exact absurd (Option.some.inj H) (by rw [HLW.out]; exact Bool.false_ne_true)
              · replace c55 := Bool.eq_false_iff.mpr c55
                subst c55
                have H1 : ((impl_EarOk.f kj43 t339 t340 t341 t344).bind fun t367 => (if t367 = true then (if t339 = t329 then (if (t347.length : Int) ≤ t337 then ((some (([] : List Int) : List Int)).bind fun y368 => (if y368.length + t347.length < 140737488355328 then ((some (y368 ++ t347 : List Int)).bind fun y371 => (if y371.length + t341.length < 140737488355328 then ((laws_sameBytes.f (y371 ++ t341) t331).bind fun t377 => (if t377 = true then ((laws_alive.f kj43).bind fun t378 => (some t378)) else (some false))) else (none))) else (none))) else (some false)) else (some false)) else (some false))) = some r := by rw [if_neg (show ¬ (false = true) by decide)] at H; exact H
                clear H
                have H := H1
                clear H1
                replace H := Option.bind_eq_some_iff.mp H
                obtain ⟨t367, A600, H⟩ := H
                replace H : (if t367 = true then (if t339 = t329 then (if (t347.length : Int) ≤ t337 then ((some (([] : List Int) : List Int)).bind fun y368 => (if y368.length + t347.length < 140737488355328 then ((some (y368 ++ t347 : List Int)).bind fun y371 => (if y371.length + t341.length < 140737488355328 then ((laws_sameBytes.f (y371 ++ t341) t331).bind fun t377 => (if t377 = true then ((laws_alive.f kj43).bind fun t378 => (some t378)) else (some false))) else (none))) else (none))) else (some false)) else (some false)) else (some false)) = some r := H
                have A60 := Aside0.mk A600
                clear A600
                by_cases c61 : t367 = true
                · subst c61
                  have H1 : (if t339 = t329 then (if (t347.length : Int) ≤ t337 then ((some (([] : List Int) : List Int)).bind fun y368 => (if y368.length + t347.length < 140737488355328 then ((some (y368 ++ t347 : List Int)).bind fun y371 => (if y371.length + t341.length < 140737488355328 then ((laws_sameBytes.f (y371 ++ t341) t331).bind fun t377 => (if t377 = true then ((laws_alive.f kj43).bind fun t378 => (some t378)) else (some false))) else (none))) else (none))) else (some false)) else (some false)) = some r := by rw [if_pos rfl] at H; exact H
                  clear H
                  have H := H1
                  clear H1
                  by_cases c62 : t339 = t329
                  · rw [if_pos c62] at H
                    have c62b0 : (t339 == t329) = true := beq_iff_eq.mpr c62
                    have c62b1 : (t339 != t329) = false := bne_eq_false_iff_eq.mpr c62
                    clear c62
                    by_cases c63 : (t347.length : Int) ≤ t337
                    · rw [if_pos c63] at H
                      have c63b0 : decide ((t347.length : Int) ≤ t337) = true := decide_eq_true c63
                      clear c63
                      obtain ⟨y368, hy368⟩ : ∃ y_ : List Int, y_ = (([] : List Int)) := ⟨_, rfl⟩
                      replace H : (if y368.length + t347.length < 140737488355328 then ((some (y368 ++ t347 : List Int)).bind fun y371 => (if y371.length + t341.length < 140737488355328 then ((laws_sameBytes.f (y371 ++ t341) t331).bind fun t377 => (if t377 = true then ((laws_alive.f kj43).bind fun t378 => (some t378)) else (some false))) else (none))) else (none)) = some r := by first | (rw [hy368]; with_reducible exact H) | (have H2_ := (Option.bind_some _ _).symm.trans H; rw [hy368]; with_reducible exact H2_) | (have H2_ := (Option.bind_some _ _).symm.trans H; with_reducible exact H2_) | with_reducible exact H | (rw [hy368]; exact H) | exact H
                      have Ny368 := Aside0.mk hy368
                      clear hy368
                      by_cases c64 : y368.length + t347.length < 140737488355328
                      · rw [if_pos c64] at H
                        have LMc64 := Aside0.mk c64
                        clear c64
                        obtain ⟨y371, hy371⟩ : ∃ y_ : List Int, y_ = (y368 ++ t347) := ⟨_, rfl⟩
                        replace H : (if y371.length + t341.length < 140737488355328 then ((laws_sameBytes.f (y371 ++ t341) t331).bind fun t377 => (if t377 = true then ((laws_alive.f kj43).bind fun t378 => (some t378)) else (some false))) else (none)) = some r := by first | (rw [hy371]; with_reducible exact H) | (have H2_ := (Option.bind_some _ _).symm.trans H; rw [hy371]; with_reducible exact H2_) | (have H2_ := (Option.bind_some _ _).symm.trans H; with_reducible exact H2_) | with_reducible exact H | (rw [hy371]; exact H) | exact H
                        have Ny371 := Aside0.mk hy371
                        clear hy371
                        by_cases c65 : y371.length + t341.length < 140737488355328
                        · rw [if_pos c65] at H
                          have LMc65 := Aside0.mk c65
                          clear c65
                          obtain ⟨y374, hy374⟩ : ∃ y_ : List Int, y_ = (y371 ++ t341) := ⟨_, rfl⟩
                          replace H : ((laws_sameBytes.f y374 t331).bind fun t377 => (if t377 = true then ((laws_alive.f kj43).bind fun t378 => (some t378)) else (some false))) = some r := by first | (rw [hy374]; with_reducible exact H) | (have H2_ := (Option.bind_some _ _).symm.trans H; rw [hy374]; with_reducible exact H2_) | (have H2_ := (Option.bind_some _ _).symm.trans H; with_reducible exact H2_) | with_reducible exact H | (rw [hy374]; exact H) | exact H
                          have Ny374 := Aside0.mk hy374
                          clear hy374
                          replace H := Option.bind_eq_some_iff.mp H
                          obtain ⟨t377, A660, H⟩ := H
                          replace H : (if t377 = true then ((laws_alive.f kj43).bind fun t378 => (some t378)) else (some false)) = some r := H
                          have A66 := Aside0.mk A660
                          clear A660
                          by_cases c67 : t377 = true
                          · subst c67
                            have H1 : ((laws_alive.f kj43).bind fun t378 => (some t378)) = some r := by rw [if_pos rfl] at H; exact H
                            clear H
                            have H := H1
                            clear H1
                            replace H := Option.bind_eq_some_iff.mp H
                            obtain ⟨t378, A680, H⟩ := H
                            replace H : (some t378) = some r := H
                            have A68 := Aside0.mk A680
                            clear A680
                            obtain rfl := Option.some.inj H
                            try go_wp2
                            have n0_ := Aside0.mk (Kd.R_drew HO_6.out)
                            have n1_ := Aside0.mk (Kd.R_drew HO_339002.out)
                            have n2_ := Aside0.mk (Kd.Q_drew HO_339003.out)
                            have n3_ := Aside0.mk (Kd.R_drew HO_351002.out)
                            have n4_ := Aside0.mk (Kd.Q_drew HO_351003.out)
                            have n5_ := Aside0.mk (Kd.R_drew HO_363002.out)
                            have n6_ := Aside0.mk (Kd.Q_drew HO_363003.out)
                            have n7_ := Aside0.mk (blk_drew BK338.out)
                            have n8_ := Aside0.mk (blk_drew BK350.out)
                            have n9_ := Aside0.mk (blk_drew BK362.out)
                            have n10_ := Aside0.mk (below_drew1 HB.out)
                            clear HO_6
                            clear HO_339002
                            clear HO_339003
                            clear HO_351002
                            clear HO_351003
                            clear HO_363002
                            clear HO_363003
                            clear BK338
                            clear BK350
                            clear BK362
                            clear HB
                            have HO_6 := n0_
                            have HO_339002 := n1_
                            have HO_339003 := n2_
                            have HO_351002 := n3_
                            have HO_351003 := n4_
                            have HO_363002 := n5_
                            have HO_363003 := n6_
                            have BK338 := n7_
                            have BK350 := n8_
                            have BK362 := n9_
                            have HB := n10_
                            clear n0_ n1_ n2_ n3_ n4_ n5_ n6_ n7_ n8_ n9_ n10_
                            refine start_ (n := 30) (S := fun w' => w'.cell? ⟨gb350, 0, none⟩ = some (.int .i64 t339) ∧ w'.cell? ⟨gb350, 1, none⟩ = some (.int .i64 t340) ∧ w'.cell? ⟨gb350, 2, none⟩ = some (.slice Ao16 t341.length co16) ∧ w'.cell? ⟨gb350, 3, none⟩ = some (.slice Ao17 t344.length co17) ∧ w'.cell? ⟨gb338, 0, none⟩ = some (.int .i64 t329) ∧ w'.cell? ⟨gb338, 1, none⟩ = some (.int .i64 t330) ∧ w'.cell? ⟨gb338, 2, none⟩ = some (.slice Ao10 t331.length co10) ∧ w'.cell? ⟨gb338, 3, none⟩ = some (.slice Ao11 t334.length co11)) (ds := []) #[false, false, false, false, false, false, false, false, false, false, false, false, false, false, false, false, false, false, false, false, false, false, false, false, false, false, false, false, false, false] (by kernel_rfl) rfl rfl ⟨(blk_cell BK350.out 0).trans rfl, (blk_cell BK350.out 1).trans rfl, (blk_cell BK350.out 2).trans rfl, (blk_cell BK350.out 3).trans rfl, (blk_cell BK338.out 0).trans rfl, (blk_cell BK338.out 1).trans rfl, (blk_cell BK338.out 2).trans rfl, (blk_cell BK338.out 3).trans rfl⟩ (fun hHeld => ?_); refine with_tabW laws_FnEarRead.tab10 laws_FnEarRead.bits10 (fun HT_ HW_ => ?_)
                            generalize wc.drew = w69 at HO_6 HO_339002 HO_339003 HO_351002 HO_351003 HO_363002 HO_363003 BK338 BK350 BK362 HB hHeld ⊢
                            refine tk_ (i := 0) (N := some 52) HT_ HW_ hHeld ?_
                            refine on_ (i := 1) (N := some 53) HT_ (fun K hK => ?_)
                            refine goes_ Try.func12 (by kernel_rfl) rfl #[.agg #[.int .i64 t339, .int .i64 t340, .slice Ao16 t341.length co16, .slice Ao17 t344.length co17]] (by rfl) rfl rfl ar_ ?_
                            with_reducible refine (impl_EarOk.calls kj43 t339 t340 _ _ t341 _ _ t344 true _ ?side1 ?side2 ?side3 ?side4 A60.out).mono ?_
                            (case side1 => exact kC_ (Kd.R_reads' HO_351002.out).2.2)
                            (case side2 => exact (Kd.R_reads' HO_351002.out).2.1)
                            (case side3 => exact kC_ (Kd.Q_reads' HO_351003.out).2.2)
                            (case side4 => exact (Kd.Q_reads' HO_351003.out).2.1)
                            rintro e w70 ⟨rfl, hb⟩
                            refine ⟨_, rfl, ?_⟩
                            have n0_ := Aside0.mk (Kd.R_below (kR_ HO_6.out) hb)
                            have n1_ := Aside0.mk (Kd.R_below (kR_ HO_339002.out) hb)
                            have n2_ := Aside0.mk (Kd.Q_below (by (with_reducible repeat (first | apply Kd.Q_alloc | apply Kd.Q_drewN | apply Kd.Q_drew)); exact HO_339003.out) hb)
                            have n3_ := Aside0.mk (Kd.R_below (kR_ HO_351002.out) hb)
                            have n4_ := Aside0.mk (Kd.Q_below (by (with_reducible repeat (first | apply Kd.Q_alloc | apply Kd.Q_drewN | apply Kd.Q_drew)); exact HO_351003.out) hb)
                            have n5_ := Aside0.mk (Kd.R_below (kR_ HO_363002.out) hb)
                            have n6_ := Aside0.mk (Kd.Q_below (by (with_reducible repeat (first | apply Kd.Q_alloc | apply Kd.Q_drewN | apply Kd.Q_drew)); exact HO_363003.out) hb)
                            have n7_ := Aside0.mk (blk_below (g := gb338) (o := .cells #[.int .i64 t329, .int .i64 t330, .slice Ao10 t331.length co10, .slice Ao11 t334.length co11] 25 (0, 0)) (kb_ BK338.out) hb)
                            have n8_ := Aside0.mk (blk_below (g := gb350) (o := .cells #[.int .i64 t339, .int .i64 t340, .slice Ao16 t341.length co16, .slice Ao17 t344.length co17] 25 (0, 0)) (kb_ BK350.out) hb)
                            have n9_ := Aside0.mk (blk_below (g := gb362) (o := .cells #[.int .i64 t351, .int .i64 t352, .slice Ao24 t353.length co24, .slice Ao25 t356.length co25] 25 (0, 0)) (kb_ BK362.out) hb)
                            have n10_ := Aside0.mk (below_step (hb3_ HB.out GE338.out GE350.out GE362.out) hb)
                            clear HO_6
                            clear HO_339002
                            clear HO_339003
                            clear HO_351002
                            clear HO_351003
                            clear HO_363002
                            clear HO_363003
                            clear BK338
                            clear BK350
                            clear BK362
                            clear HB
                            have HO_6 := n0_
                            have HO_339002 := n1_
                            have HO_339003 := n2_
                            have HO_351002 := n3_
                            have HO_351003 := n4_
                            have HO_363002 := n5_
                            have HO_363003 := n6_
                            have BK338 := n7_
                            have BK350 := n8_
                            have BK362 := n9_
                            have HB := n10_
                            clear n0_ n1_ n2_ n3_ n4_ n5_ n6_ n7_ n8_ n9_ n10_
                            (try clear hb)
                            (try clear hb2)
                            (try clear hk)
                            (try clear hi)
                            obtain ⟨Ao71, co71, eo71⟩ := Kd.R_slice HO_6.out
                            (first | subst eo71 | (injection eo71 with f1_ f2_ f3_; have f4_ := f1_.symm; have f5_ := f3_.symm; clear f1_ f2_ f3_; subst f4_; subst f5_))
                            refine hK.out _ _ ⟨(blk_cell BK350.out 0).trans rfl, (blk_cell BK350.out 1).trans rfl, (blk_cell BK350.out 2).trans rfl, (blk_cell BK350.out 3).trans rfl, (blk_cell BK338.out 0).trans rfl, (blk_cell BK338.out 1).trans rfl, (blk_cell BK338.out 2).trans rfl, (blk_cell BK338.out 3).trans rfl⟩ (fun hHeld => ?_)
                            clear hK K
                            refine nm_ 53 ?_
                            refine pu_ (i := 2) (N := some 54) HT_ ?_
                            refine pu_ (i := 3) (N := some 55) HT_ ?_
                            refine pu_ (i := 5) (N := some 57) HT_ ?_
                            refine tk_ (i := 4) (N := some 56) HT_ HW_ hHeld ?_
                            refine tk_ (i := 6) (N := some 58) HT_ HW_ hHeld ?_
                            refine pu_ (i := 7) (N := some 59) HT_ ?_
                            refine pu_ (i := 8) (N := some 60) HT_ ?_
                            refine pu_ (i := 9) (N := some 61) HT_ ?_
                            refine pu_ (i := 10) (N := some 62) HT_ ?_
                            refine pu_ (i := 11) (N := some 63) HT_ ?_
                            refine pu_ (i := 12) (N := some 64) HT_ ?_
                            refine pu_ (i := 13) (N := some 65) HT_ ?_
                            refine pu_ (i := 14) (N := some 66) HT_ ?_
                            refine pu_ (i := 15) (N := some 67) HT_ ?_
                            refine pu_ (i := 17) (N := some 69) HT_ ?_
                            refine pu_ (i := 19) (N := some 71) HT_ ?_
                            refine pu_ (i := 22) (N := some 74) HT_ ?_
                            refine tk_ (i := 20) (N := some 72) HT_ HW_ hHeld ?_
                            refine tk_ (i := 23) (N := some 75) HT_ HW_ hHeld ?_
                            refine on_ (i := 16) (N := some 68) HT_ (fun K hK => ?_)
                            refine Kd.R_lit_step (Kd.int .u8) _ 5 ?hg (N := 68) ?hd (xs := ([] : List Int)) (inner := []) (ok := fun _ => True) (okp := fun _ => True) ?hr ?hp (fun _ hk => hk) trivial (Below.refl _ _) (Nat.le_refl _) (by simp) ?_; (case hd => rfl); (case hg => rfl); (case hr => first | (go_simp; done) | (go_simp; rfl)); (case hp => exact (Reps.none _ _))
                            intro v369 w72 ho73 hb hg_ hnew_
                            clear hg_ hnew_
                            (first | rw [← Ny368.out] at ho73 | (simp only [Int.reduceToNat] at ho73; rw [← Ny368.out] at ho73))
                            have n0_ := Aside0.mk (Kd.R_elder' (kR_ HO_6.out) (Kd.R_base ho73) hb)
                            have n1_ := Aside0.mk (Kd.R_elder' (kR_ HO_339002.out) (Kd.R_base ho73) hb)
                            have n2_ := Aside0.mk (Kd.Q_below (by (with_reducible repeat (first | apply Kd.Q_alloc | apply Kd.Q_drewN | apply Kd.Q_drew)); exact HO_339003.out) hb)
                            have n3_ := Aside0.mk (Kd.R_elder' (kR_ HO_351002.out) (Kd.R_base ho73) hb)
                            have n4_ := Aside0.mk (Kd.Q_below (by (with_reducible repeat (first | apply Kd.Q_alloc | apply Kd.Q_drewN | apply Kd.Q_drew)); exact HO_351003.out) hb)
                            have n5_ := Aside0.mk (Kd.R_elder' (kR_ HO_363002.out) (Kd.R_base ho73) hb)
                            have n6_ := Aside0.mk (Kd.Q_below (by (with_reducible repeat (first | apply Kd.Q_alloc | apply Kd.Q_drewN | apply Kd.Q_drew)); exact HO_363003.out) hb)
                            have n7_ := Aside0.mk (Kd.R_lower (Kd.R_new' (Kd.R_new' (Kd.R_new' (Kd.R_new' ho73 (Kd.R_lt (kR_ HO_6.out))) (Kd.R_lt (kR_ HO_339002.out))) (Kd.R_lt (kR_ HO_351002.out))) (Kd.R_lt (kR_ HO_363002.out))) (below_size (hb3_ HB.out GE338.out GE350.out GE362.out)))
                            have n8_ := Aside0.mk (blk_below (g := gb338) (o := .cells #[.int .i64 t329, .int .i64 t330, .slice Ao10 t331.length co10, .slice Ao11 t334.length co11] 25 (0, 0)) (kb_ BK338.out) hb)
                            have n9_ := Aside0.mk (blk_below (g := gb350) (o := .cells #[.int .i64 t339, .int .i64 t340, .slice Ao16 t341.length co16, .slice Ao17 t344.length co17] 25 (0, 0)) (kb_ BK350.out) hb)
                            have n10_ := Aside0.mk (blk_below (g := gb362) (o := .cells #[.int .i64 t351, .int .i64 t352, .slice Ao24 t353.length co24, .slice Ao25 t356.length co25] 25 (0, 0)) (kb_ BK362.out) hb)
                            have n11_ := Aside0.mk (below_step (hb3_ HB.out GE338.out GE350.out GE362.out) hb)
                            clear HO_6
                            clear HO_339002
                            clear HO_339003
                            clear HO_351002
                            clear HO_351003
                            clear HO_363002
                            clear HO_363003
                            clear BK338
                            clear BK350
                            clear BK362
                            clear HB
                            have HO_6 := n0_
                            have HO_339002 := n1_
                            have HO_339003 := n2_
                            have HO_351002 := n3_
                            have HO_351003 := n4_
                            have HO_363002 := n5_
                            have HO_363003 := n6_
                            have HO370 := n7_
                            have BK338 := n8_
                            have BK350 := n9_
                            have BK362 := n10_
                            have HB := n11_
                            clear n0_ n1_ n2_ n3_ n4_ n5_ n6_ n7_ n8_ n9_ n10_ n11_
                            clear hb ho73
                            refine hK.out _ _ ⟨(blk_cell BK350.out 0).trans rfl, (blk_cell BK350.out 1).trans rfl, (blk_cell BK350.out 2).trans rfl, (blk_cell BK350.out 3).trans rfl, (blk_cell BK338.out 0).trans rfl, (blk_cell BK338.out 1).trans rfl, (blk_cell BK338.out 2).trans rfl, (blk_cell BK338.out 3).trans rfl⟩ (fun hHeld => ?_)
                            clear hK K
                            refine nm_ 68 ?_
                            refine on_ (i := 18) (N := some 70) HT_ (fun K hK => ?_)
                            refine Kd.R_append_rows_step (Kd.int .u8) (w0 := w) w.heap.size (by rfl) (.tmp 68) (.tmp 69) 22 5 (.int .u8 0) 1 rfl Try.underlying22 info5 rfl (by decide) (by omega) v369 y368 t347 _ _ _ (fun k_ => some k_ ≠ (.slice Ao71 t347.length co71 : Value).ownBlock ∧ some k_ ≠ (.slice Ao10 t331.length co10 : Value).ownBlock ∧ some k_ ≠ (.slice Ao16 t341.length co16 : Value).ownBlock ∧ some k_ ≠ (.slice Ao24 t353.length co24 : Value).ownBlock) (fun _ => False) rfl rfl ?aO ?aR (fun _ _ h => h) (fun _ h => h.elim) ?aF ?aB ?aS ?aL ?_
                            (case aR => exact kC_ (Kd.R_reads' HO_6.out).2.2)
                            (case aB => exact (hb3_ HB.out GE338.out GE350.out GE362.out))
                            (case aF => exact (fun k_ hk => ⟨Kd.fresh' (Kd.R_lt (kR_ HO_6.out)) k_ hk, Kd.fresh' (Kd.R_lt (kR_ HO_339002.out)) k_ hk, Kd.fresh' (Kd.R_lt (kR_ HO_351002.out)) k_ hk, Kd.fresh' (Kd.R_lt (kR_ HO_363002.out)) k_ hk⟩))
                            (case aO => exact (by refine kR_ ?_; exact Kd.R_mono HO370.out (fun _ hk => op2_ hk)))
                            (case aS => exact (below_size (hb3_ HB.out GE338.out GE350.out GE362.out)))
                            (case aL => have := LMc64.out; omega)
                            intro v372 w74 ho hb hg hat
                            rw [← Ny371.out] at ho
                            have n0_ := Aside0.mk (Kd.R_after (ok := (fun k_ => some k_ ≠ (.slice Ao10 t331.length co10 : Value).ownBlock ∧ some k_ ≠ (.slice Ao16 t341.length co16 : Value).ownBlock ∧ some k_ ≠ (.slice Ao24 t353.length co24 : Value).ownBlock)) (kR_ HO_6.out) hg hat)
                            have n1_ := Aside0.mk (Kd.R_after (ok := (fun k_ => some k_ ≠ (.slice Ao71 t347.length co71 : Value).ownBlock ∧ some k_ ≠ (.slice Ao16 t341.length co16 : Value).ownBlock ∧ some k_ ≠ (.slice Ao24 t353.length co24 : Value).ownBlock)) (kR_ HO_339002.out) hg hat)
                            have n2_ := Aside0.mk (Kd.Q_over' (by (with_reducible repeat (first | apply Kd.Q_alloc | apply Kd.Q_drewN | apply Kd.Q_drew)); exact HO_339003.out) (Kd.R_typed (kR_ HO370.out)) (by decide) hg)
                            have n3_ := Aside0.mk (Kd.R_after (ok := (fun k_ => some k_ ≠ (.slice Ao71 t347.length co71 : Value).ownBlock ∧ some k_ ≠ (.slice Ao10 t331.length co10 : Value).ownBlock ∧ some k_ ≠ (.slice Ao24 t353.length co24 : Value).ownBlock)) (kR_ HO_351002.out) hg hat)
                            have n4_ := Aside0.mk (Kd.Q_over' (by (with_reducible repeat (first | apply Kd.Q_alloc | apply Kd.Q_drewN | apply Kd.Q_drew)); exact HO_351003.out) (Kd.R_typed (kR_ HO370.out)) (by decide) hg)
                            have n5_ := Aside0.mk (Kd.R_after (ok := (fun k_ => some k_ ≠ (.slice Ao71 t347.length co71 : Value).ownBlock ∧ some k_ ≠ (.slice Ao10 t331.length co10 : Value).ownBlock ∧ some k_ ≠ (.slice Ao16 t341.length co16 : Value).ownBlock)) (kR_ HO_363002.out) hg hat)
                            have n6_ := Aside0.mk (Kd.Q_over' (by (with_reducible repeat (first | apply Kd.Q_alloc | apply Kd.Q_drewN | apply Kd.Q_drew)); exact HO_363003.out) (Kd.R_typed (kR_ HO370.out)) (by decide) hg)
                            have n7_ := Aside0.mk (blk_grown (g := gb338) (o := .cells #[.int .i64 t329, .int .i64 t330, .slice Ao10 t331.length co10, .slice Ao11 t334.length co11] 25 (0, 0)) (kb_ BK338.out) hg (Kd.R_ne HO370.out BK338.out (by decide)))
                            have n8_ := Aside0.mk (blk_grown (g := gb350) (o := .cells #[.int .i64 t339, .int .i64 t340, .slice Ao16 t341.length co16, .slice Ao17 t344.length co17] 25 (0, 0)) (kb_ BK350.out) hg (Kd.R_ne HO370.out BK350.out (by decide)))
                            have n9_ := Aside0.mk (blk_grown (g := gb362) (o := .cells #[.int .i64 t351, .int .i64 t352, .slice Ao24 t353.length co24, .slice Ao25 t356.length co25] 25 (0, 0)) (kb_ BK362.out) hg (Kd.R_ne HO370.out BK362.out (by decide)))
                            have n10_ := Aside0.mk (hb)
                            have n11_ := Aside0.mk (ho)
                            clear HO_6
                            clear HO_339002
                            clear HO_339003
                            clear HO_351002
                            clear HO_351003
                            clear HO_363002
                            clear HO_363003
                            clear BK338
                            clear BK350
                            clear BK362
                            clear HB
                            clear HO370
                            have HO_6 := n0_
                            have HO_339002 := n1_
                            have HO_339003 := n2_
                            have HO_351002 := n3_
                            have HO_351003 := n4_
                            have HO_363002 := n5_
                            have HO_363003 := n6_
                            have BK338 := n7_
                            have BK350 := n8_
                            have BK362 := n9_
                            have HB := n10_
                            have HO373 := n11_
                            clear n0_ n1_ n2_ n3_ n4_ n5_ n6_ n7_ n8_ n9_ n10_ n11_
                            clear ho hb hg hat
                            refine hK.out _ _ ⟨(blk_cell BK350.out 0).trans rfl, (blk_cell BK350.out 1).trans rfl, (blk_cell BK350.out 2).trans rfl, (blk_cell BK350.out 3).trans rfl, (blk_cell BK338.out 0).trans rfl, (blk_cell BK338.out 1).trans rfl, (blk_cell BK338.out 2).trans rfl, (blk_cell BK338.out 3).trans rfl⟩ (fun hHeld => ?_)
                            clear hK K
                            refine nm_ 70 ?_
                            refine on_ (i := 21) (N := some 73) HT_ (fun K hK => ?_)
                            refine Kd.R_append_rows_step (Kd.int .u8) (w0 := w) w.heap.size (by rfl) (.tmp 70) (.tmp 72) 22 5 (.int .u8 0) 1 rfl Try.underlying22 info5 rfl (by decide) (by omega) v372 y371 t341 _ _ _ (fun k_ => some k_ ≠ (.slice Ao71 t347.length co71 : Value).ownBlock ∧ some k_ ≠ (.slice Ao10 t331.length co10 : Value).ownBlock ∧ some k_ ≠ (.slice Ao16 t341.length co16 : Value).ownBlock ∧ some k_ ≠ (.slice Ao24 t353.length co24 : Value).ownBlock) (fun _ => False) rfl rfl ?aO ?aR (fun _ _ h => h) (fun _ h => h.elim) ?aF ?aB ?aS ?aL ?_
                            (case aR => exact kC_ (Kd.R_reads' HO_351002.out).2.2)
                            (case aB => exact (hb3_ HB.out GE338.out GE350.out GE362.out))
                            (case aF => exact (fun k_ hk => ⟨Kd.fresh' (Kd.R_lt (kR_ HO_6.out)) k_ hk, Kd.fresh' (Kd.R_lt (kR_ HO_339002.out)) k_ hk, Kd.fresh' (Kd.R_lt (kR_ HO_351002.out)) k_ hk, Kd.fresh' (Kd.R_lt (kR_ HO_363002.out)) k_ hk⟩))
                            (case aO => exact (kR_ HO373.out))
                            (case aS => exact (below_size (hb3_ HB.out GE338.out GE350.out GE362.out)))
                            (case aL => have := LMc65.out; omega)
                            intro v375 w75 ho hb hg hat
                            rw [← Ny374.out] at ho
                            have n0_ := Aside0.mk (Kd.R_after (ok := (fun k_ => some k_ ≠ (.slice Ao10 t331.length co10 : Value).ownBlock ∧ some k_ ≠ (.slice Ao16 t341.length co16 : Value).ownBlock ∧ some k_ ≠ (.slice Ao24 t353.length co24 : Value).ownBlock)) (kR_ HO_6.out) hg hat)
                            have n1_ := Aside0.mk (Kd.R_after (ok := (fun k_ => some k_ ≠ (.slice Ao71 t347.length co71 : Value).ownBlock ∧ some k_ ≠ (.slice Ao16 t341.length co16 : Value).ownBlock ∧ some k_ ≠ (.slice Ao24 t353.length co24 : Value).ownBlock)) (kR_ HO_339002.out) hg hat)
                            have n2_ := Aside0.mk (Kd.Q_over' (by (with_reducible repeat (first | apply Kd.Q_alloc | apply Kd.Q_drewN | apply Kd.Q_drew)); exact HO_339003.out) (Kd.R_typed (kR_ HO373.out)) (by decide) hg)
                            have n3_ := Aside0.mk (Kd.R_after (ok := (fun k_ => some k_ ≠ (.slice Ao71 t347.length co71 : Value).ownBlock ∧ some k_ ≠ (.slice Ao10 t331.length co10 : Value).ownBlock ∧ some k_ ≠ (.slice Ao24 t353.length co24 : Value).ownBlock)) (kR_ HO_351002.out) hg hat)
                            have n4_ := Aside0.mk (Kd.Q_over' (by (with_reducible repeat (first | apply Kd.Q_alloc | apply Kd.Q_drewN | apply Kd.Q_drew)); exact HO_351003.out) (Kd.R_typed (kR_ HO373.out)) (by decide) hg)
                            have n5_ := Aside0.mk (Kd.R_after (ok := (fun k_ => some k_ ≠ (.slice Ao71 t347.length co71 : Value).ownBlock ∧ some k_ ≠ (.slice Ao10 t331.length co10 : Value).ownBlock ∧ some k_ ≠ (.slice Ao16 t341.length co16 : Value).ownBlock)) (kR_ HO_363002.out) hg hat)
                            have n6_ := Aside0.mk (Kd.Q_over' (by (with_reducible repeat (first | apply Kd.Q_alloc | apply Kd.Q_drewN | apply Kd.Q_drew)); exact HO_363003.out) (Kd.R_typed (kR_ HO373.out)) (by decide) hg)
                            have n7_ := Aside0.mk (blk_grown (g := gb338) (o := .cells #[.int .i64 t329, .int .i64 t330, .slice Ao10 t331.length co10, .slice Ao11 t334.length co11] 25 (0, 0)) (kb_ BK338.out) hg (Kd.R_ne HO373.out BK338.out (by decide)))
                            have n8_ := Aside0.mk (blk_grown (g := gb350) (o := .cells #[.int .i64 t339, .int .i64 t340, .slice Ao16 t341.length co16, .slice Ao17 t344.length co17] 25 (0, 0)) (kb_ BK350.out) hg (Kd.R_ne HO373.out BK350.out (by decide)))
                            have n9_ := Aside0.mk (blk_grown (g := gb362) (o := .cells #[.int .i64 t351, .int .i64 t352, .slice Ao24 t353.length co24, .slice Ao25 t356.length co25] 25 (0, 0)) (kb_ BK362.out) hg (Kd.R_ne HO373.out BK362.out (by decide)))
                            have n10_ := Aside0.mk (hb)
                            have n11_ := Aside0.mk (ho)
                            clear HO_6
                            clear HO_339002
                            clear HO_339003
                            clear HO_351002
                            clear HO_351003
                            clear HO_363002
                            clear HO_363003
                            clear BK338
                            clear BK350
                            clear BK362
                            clear HB
                            clear HO373
                            have HO_6 := n0_
                            have HO_339002 := n1_
                            have HO_339003 := n2_
                            have HO_351002 := n3_
                            have HO_351003 := n4_
                            have HO_363002 := n5_
                            have HO_363003 := n6_
                            have BK338 := n7_
                            have BK350 := n8_
                            have BK362 := n9_
                            have HB := n10_
                            have HO376 := n11_
                            clear n0_ n1_ n2_ n3_ n4_ n5_ n6_ n7_ n8_ n9_ n10_ n11_
                            clear ho hb hg hat
                            obtain ⟨Ao76, co76, eo76⟩ := Kd.R_slice HO376.out
                            (first | subst eo76 | (injection eo76 with f1_ f2_ f3_; have f4_ := f1_.symm; have f5_ := f3_.symm; clear f1_ f2_ f3_; subst f4_; subst f5_))
                            refine hK.out _ _ ⟨(blk_cell BK350.out 0).trans rfl, (blk_cell BK350.out 1).trans rfl, (blk_cell BK350.out 2).trans rfl, (blk_cell BK350.out 3).trans rfl, (blk_cell BK338.out 0).trans rfl, (blk_cell BK338.out 1).trans rfl, (blk_cell BK338.out 2).trans rfl, (blk_cell BK338.out 3).trans rfl⟩ (fun hHeld => ?_)
                            clear hK K
                            refine nm_ 73 ?_
                            refine on_ (i := 24) (N := some 76) HT_ (fun K hK => ?_)
                            refine goes_ Try.func18 (by kernel_rfl) rfl #[.slice Ao76 y374.length co76, .slice Ao10 t331.length co10] (by rfl) rfl rfl ar_ ?_
                            with_reducible refine (laws_sameBytes.calls _ _ y374 _ _ t331 true _ ?side1 ?side2 ?side3 ?side4 A66.out).mono ?_
                            (case side1 => exact kC_ (Kd.R_reads' HO376.out).2.2)
                            (case side2 => exact (Kd.R_reads' HO376.out).2.1)
                            (case side3 => exact kC_ (Kd.R_reads' HO_339002.out).2.2)
                            (case side4 => exact (Kd.R_reads' HO_339002.out).2.1)
                            rintro e w' ⟨rfl, ⟨nd, rfl⟩⟩
                            refine ⟨_, rfl, ?_⟩
                            refine hK.out _ _ ⟨(blk_cell BK350.out 0).trans rfl, (blk_cell BK350.out 1).trans rfl, (blk_cell BK350.out 2).trans rfl, (blk_cell BK350.out 3).trans rfl, (blk_cell BK338.out 0).trans rfl, (blk_cell BK338.out 1).trans rfl, (blk_cell BK338.out 2).trans rfl, (blk_cell BK338.out 3).trans rfl⟩ (fun hHeld => ?_)
                            clear hK K
                            refine nm_ 76 ?_
                            refine pu_ (i := 25) (N := some 77) HT_ ?_
                            refine pu_ (i := 26) (N := some 78) HT_ ?_
                            refine on_ (i := 27) (N := some 79) HT_ (fun K hK => ?_)
                            refine goes_ Try.func13 (by kernel_rfl) rfl #[] (by rfl) rfl rfl ar_ ?_
                            with_reducible refine (laws_alive.calls kj43  t378 _ A68.out).mono ?_
                            rintro e w77 ⟨rfl, hb⟩
                            refine ⟨_, rfl, ?_⟩
                            have n0_ := Aside0.mk (Kd.R_below (kR_ HO_6.out) hb)
                            have n1_ := Aside0.mk (Kd.R_below (kR_ HO_339002.out) hb)
                            have n2_ := Aside0.mk (Kd.Q_below (by (with_reducible repeat (first | apply Kd.Q_alloc | apply Kd.Q_drewN | apply Kd.Q_drew)); exact HO_339003.out) hb)
                            have n3_ := Aside0.mk (Kd.R_below (kR_ HO_351002.out) hb)
                            have n4_ := Aside0.mk (Kd.Q_below (by (with_reducible repeat (first | apply Kd.Q_alloc | apply Kd.Q_drewN | apply Kd.Q_drew)); exact HO_351003.out) hb)
                            have n5_ := Aside0.mk (Kd.R_below (kR_ HO_363002.out) hb)
                            have n6_ := Aside0.mk (Kd.Q_below (by (with_reducible repeat (first | apply Kd.Q_alloc | apply Kd.Q_drewN | apply Kd.Q_drew)); exact HO_363003.out) hb)
                            have n7_ := Aside0.mk (Kd.R_below (kR_ HO376.out) hb)
                            have n8_ := Aside0.mk (blk_below (g := gb338) (o := .cells #[.int .i64 t329, .int .i64 t330, .slice Ao10 t331.length co10, .slice Ao11 t334.length co11] 25 (0, 0)) (kb_ BK338.out) hb)
                            have n9_ := Aside0.mk (blk_below (g := gb350) (o := .cells #[.int .i64 t339, .int .i64 t340, .slice Ao16 t341.length co16, .slice Ao17 t344.length co17] 25 (0, 0)) (kb_ BK350.out) hb)
                            have n10_ := Aside0.mk (blk_below (g := gb362) (o := .cells #[.int .i64 t351, .int .i64 t352, .slice Ao24 t353.length co24, .slice Ao25 t356.length co25] 25 (0, 0)) (kb_ BK362.out) hb)
                            have n11_ := Aside0.mk (below_step (hb3_ HB.out GE338.out GE350.out GE362.out) hb)
                            clear HO_6
                            clear HO_339002
                            clear HO_339003
                            clear HO_351002
                            clear HO_351003
                            clear HO_363002
                            clear HO_363003
                            clear HO376
                            clear BK338
                            clear BK350
                            clear BK362
                            clear HB
                            have HO_6 := n0_
                            have HO_339002 := n1_
                            have HO_339003 := n2_
                            have HO_351002 := n3_
                            have HO_351003 := n4_
                            have HO_363002 := n5_
                            have HO_363003 := n6_
                            have HO376 := n7_
                            have BK338 := n8_
                            have BK350 := n9_
                            have BK362 := n10_
                            have HB := n11_
                            clear n0_ n1_ n2_ n3_ n4_ n5_ n6_ n7_ n8_ n9_ n10_ n11_
                            (try clear hb)
                            (try clear hb2)
                            (try clear hk)
                            (try clear hi)
                            refine hK.out _ _ ⟨(blk_cell BK350.out 0).trans rfl, (blk_cell BK350.out 1).trans rfl, (blk_cell BK350.out 2).trans rfl, (blk_cell BK350.out 3).trans rfl, (blk_cell BK338.out 0).trans rfl, (blk_cell BK338.out 1).trans rfl, (blk_cell BK338.out 2).trans rfl, (blk_cell BK338.out 3).trans rfl⟩ (fun hHeld => ?_)
                            clear hK K
                            refine nm_ 79 ?_
                            refine pu_ (i := 28) (N := some 80) HT_ ?_
                            refine pu_ (i := 29) (N := some 2) HT_ ?_
                            refine done_ (done_of HT_.out (by kernel_rfl)) ?_
                            try go_wp2
                            go_ret
                            exact ⟨by first | rfl | (simp [errW_none, errW_some] <;> rfl) | (simp [*, errW_none, errW_some] <;> rfl), by repeat (first | (with_reducible first | exact HB.out | apply below_alloc | apply pw_below_drewN | apply below_drew1 | refine below_set ?_ GE338.out | refine below_set ?_ GE350.out | refine below_set ?_ GE362.out) | exact HB.out)⟩
                          · replace c67 := Bool.eq_false_iff.mpr c67
                            subst c67
                            have H1 : (some false) = some r := by rw [if_neg (show ¬ (false = true) by decide)] at H; exact H
                            clear H
                            have H := H1
                            clear H1
                            exact absurd (Option.some.inj H) (by rw [HLW.out]; exact Bool.false_ne_true)
                        · rw [if_neg c65] at H
                          exact absurd H (by simp)
                      · rw [if_neg c64] at H
                        exact absurd H (by simp)
                    · rw [if_neg c63] at H
                      have c63b0 : decide ((t347.length : Int) ≤ t337) = false := decide_eq_false c63
                      clear c63
                      exact absurd (Option.some.inj H) (by rw [HLW.out]; exact Bool.false_ne_true)
                  · rw [if_neg c62] at H
                    have c62b0 : (t339 == t329) = false := beq_eq_false_iff_ne.mpr c62
                    have c62b1 : (t339 != t329) = true := bne_iff_ne.mpr c62
                    exact absurd (Option.some.inj H) (by rw [HLW.out]; exact Bool.false_ne_true)
                · replace c61 := Bool.eq_false_iff.mpr c61
                  subst c61
                  have H1 : (some false) = some r := by rw [if_neg (show ¬ (false = true) by decide)] at H; exact H
                  clear H
                  have H := H1
                  clear H1
                  exact absurd (Option.some.inj H) (by rw [HLW.out]; exact Bool.false_ne_true)

/-- THE ONE PURE STATEMENT of laws_FnEarRead: yours. -/
def laws_FnEarRead.Pure : Prop := ∀ (l0 : List Int), l0.length ≤ maxLen → l0.length * 1 ≤ 140737488351232 → (∀ x ∈ l0, (Lit.int .u8 x).wf = true) → ∃ k, laws_FnEarRead.f k l0 = some true
theorem laws_FnEarRead.walk (P : laws_FnEarRead.Pure) (a0 : Option Addr) (len0 cap0 : Nat) (z0 : List Int) (w : World) (w0 : (a0 = none ∧ len0 = 0 ∧ cap0 = 0 ∧ z0 = []) ∨ ∃ x, a0 = some x ∧ len0 ≤ cap0 ∧ cap0 ≤ maxLen ∧ z0.length = cap0 ∧ (∀ i, i < z0.length → w.cell? (x.add i) = some (.int .u8 (z0.getD i 0))) ∧ ∀ n ∈ z0, (Lit.int .u8 n).wf = true) (y0 : len0 * 1 ≤ 140737488351232) :
    Calls Try.prog 4 #[.slice a0 len0 cap0] w fun e w' => e = .returned (.bool true) ∧ Below w.heap.size w w' := by
  obtain ⟨l0, rfl, hr0, hm0, hw0, hc0⟩ := ReadsInt.ofRowC w0
  obtain ⟨k, h⟩ := P l0 hm0 y0 hw0
  refine (laws_FnEarRead.calls k _ _ l0 true w (Kd.C_of_reads (d := (0 : Int)) (h1 := fun _ => rfl) hr0) hc0 h rfl).mono ?_
  rintro e w' ⟨rfl, hd⟩
  exact ⟨rfl, hd⟩

end Go.Proofs.Ytjiodkbbmhhccaa.PFnEarRead
