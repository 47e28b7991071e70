/- Printed by wip/xp/xprint.sh out of the translation, for this claim: what each function answers, as a plain function, and that the machine does just that. No condition. -/
import Derived.Test.YtjiodkbbmhhccaaPFnEarFreex0
import Derived.Test.YtjiodkbbmhhccaaPFnEarFreex1
namespace Go.Proofs.Ytjiodkbbmhhccaa.PFnEarFree
open Go.RowKit Go.Proofs.YtjiodkbbmhhccaaW.PrintWords Go.Proofs.YtjiodkbbmhhccaaW.PrintLast Go.Proofs.YtjiodkbbmhhccaaW.PrintMore
attribute [local go_sem] max2_int min2_int max_two min_two max_three min_three max_four min_four   -- for this text's walks alone
set_option linter.unusedVariables false
set_option linter.unusedSimpArgs false

/-! ### spec_EarRead: function 16 -/
def spec_EarRead.f (k : Nat) (a0_0 : Int) (a0_1 : Int) (l0_2 : List Int) (l0_3 : List (S70)) (a1 : Int) : Option (Int × Int × List Int × (List (S70)) × List Int) := (spec_EarOk.f k a0_0 a0_1 l0_2 l0_3).bind fun t110 => (if t110 = true then (if a1 < 0 then (some (0, 0, ([] : List Int), ([] : List (S70)), (([] : List Int)))) else ((some (([] : List Int) : List Int)).bind fun y114 => (if 0 ≤ (mn a1 (l0_2.length : Int)) then (if (mn a1 (l0_2.length : Int)) ≤ (l0_2.length : Int) then (if y114.length + (l0_2.drop ((mn a1 (l0_2.length : Int)) : Int).toNat).length < 140737488355328 then ((some (([] : List (S70)) : List (S70))).bind fun y121 => (if y121.length + l0_3.length < 8796093022208 then ((some (([] : List Int) : List Int)).bind fun y128 => (if y128.length + (l0_2.take ((mn a1 (l0_2.length : Int)) : Int).toNat).length < 140737488355328 then (some (a0_0, a0_1, (y114 ++ (l0_2.drop ((mn a1 (l0_2.length : Int)) : Int).toNat)), (y121 ++ l0_3), (y128 ++ (l0_2.take ((mn a1 (l0_2.length : Int)) : Int).toNat)))) else (none))) else (none))) else (none)) else (none)) else (none)))) else (some (0, 0, ([] : List Int), ([] : List (S70)), (([] : List Int)))))
theorem spec_EarRead.mono : ∀ a0 a1 a2 a3 a4 k, LeO (spec_EarRead.f k a0 a1 a2 a3 a4) (spec_EarRead.f (k + 1) a0 a1 a2 a3 a4) := by
  intro a0 a1 a2 a3 a4 k
  unfold spec_EarRead.f
  repeat' first
      | (with_reducible exact spec_EarOk.mono _ _ _ _ _)
      | (with_reducible exact LeO.refl _)
      | (with_reducible exact LeO.none _)
      | (with_reducible refine LeO.ite ?_ ?_)
      | (with_reducible refine LeO.bind ?_ (fun _ => ?_))
      | exact spec_EarOk.mono _ _ _ _ _
      | exact LeO.none _
      | refine LeO.ite ?_ ?_
      | refine LeO.bind ?_ (fun _ => ?_)
def spec_EarRead.T4 : Bool × List (List Nat × List Nat) := (true, [([], []), ([0], [0]), ([], []), ([2], [2]), ([], []), ([], []), ([5], [5]), ([], []), ([6, 7], [6, 7]), ([4, 8], [4, 8]), ([], []), ([], []), ([11], [11]), ([10, 12, 9], [10, 12]), ([1, 3, 9, 13], [1, 3, 9, 13]), ([], []), ([15, 14, 13, 0, 1, 2, 3, 4, 5, 6, 7, 8, 9, 10, 11, 12, 13, 14, 15], [14, 15])])
def spec_EarRead.B4 : List Nat := [0, 1, 0, 4, 0, 0, 32, 0, 224, 496, 0, 0, 2048, 8176, 16383, 0, 65535]
theorem spec_EarRead.tab4 : rtab .any (opsOf Try.f16 4) = spec_EarRead.T4 := by kernel_rfl
theorem spec_EarRead.bits4 : waitsOk spec_EarRead.T4.2 spec_EarRead.B4 = true := by kernel_rfl
def spec_EarRead.T5 : Bool × List (List Nat × List Nat) := (true, [([], []), ([], []), ([], []), ([2], [2]), ([], []), ([3, 4], [3, 4]), ([1, 5], [1, 5]), ([0, 6, 0], [0]), ([6, 7, 0, 1, 2, 3, 4, 5, 6, 7], [6])])
def spec_EarRead.B5 : List Nat := [0, 0, 0, 4, 0, 28, 62, 127, 255]
theorem spec_EarRead.tab5 : rtab .any (opsOf Try.f16 5) = spec_EarRead.T5 := by kernel_rfl
theorem spec_EarRead.bits5 : waitsOk spec_EarRead.T5.2 spec_EarRead.B5 = true := by kernel_rfl
set_option maxHeartbeats 8000000 in
set_option maxRecDepth 100000 in
theorem spec_EarRead.calls (k : Nat) (a0_0 : Int) (a0_1 : Int) (A0_2 : Option Addr) (c0_2 : Nat) (l0_2 : List Int) (A0_3 : Option Addr) (c0_3 : Nat) (l0_3 : List (S70)) (a1 : Int) (r1 : Int) (r2 : Int) (r3 : List Int) (r4 : List (S70)) (r5 : List Int) (w : World) (hr0_2 : Kd.C (Kd.int .u8) w A0_2 l0_2.length l0_2) (hc0_2 : l0_2.length ≤ c0_2) (hr0_3 : Kd.C k70 w A0_3 l0_3.length l0_3) (hc0_3 : l0_3.length ≤ c0_3) (h : spec_EarRead.f k a0_0 a0_1 l0_2 l0_3 a1 = some (r1, r2, r3, r4, r5)) :
    Calls Try.prog 16 #[.agg #[.int .i64 a0_0, .int .i64 a0_1, .slice A0_2 l0_2.length c0_2, .slice A0_3 l0_3.length c0_3], .int .i64 a1] w fun e w' => ∃ v2_ v3_ v4_ : Value, e = .returned (.tuple #[.agg #[.int .i64 r1, .int .i64 r2, v2_, v3_], v4_]) ∧ Kd.R (Kd.int .u8) 5 w' w.heap.size (fun k_ => some k_ ≠ (v4_ : Value).ownBlock) v2_ r3 ∧ Kd.R k70 70 w' w.heap.size (fun _ => True) v3_ r4 ∧ Kd.R (Kd.int .u8) 5 w' w.heap.size (fun k_ => some k_ ≠ (v2_ : Value).ownBlock) v4_ r5 ∧ Below w.heap.size w w' := by
  have hu25 := Try.underlying25
  have HR0_2 := Aside0.mk hr0_2
  have HC0_2 := Aside0.mk hc0_2
  clear hr0_2 hc0_2
  have HR0_3 := Aside0.mk hr0_3
  have HC0_3 := Aside0.mk hc0_3
  clear hr0_3 hc0_3
  have HB := Aside0.mk (Below.refl w.heap.size w)
  have H : ((spec_EarOk.f k a0_0 a0_1 l0_2 l0_3).bind fun t110 => (if t110 = true then (if a1 < 0 then (some (0, 0, ([] : List Int), ([] : List (S70)), (([] : List Int)))) else ((some (([] : List Int) : List Int)).bind fun y114 => (if 0 ≤ (mn a1 (l0_2.length : Int)) then (if (mn a1 (l0_2.length : Int)) ≤ (l0_2.length : Int) then (if y114.length + (l0_2.drop ((mn a1 (l0_2.length : Int)) : Int).toNat).length < 140737488355328 then ((some (([] : List (S70)) : List (S70))).bind fun y121 => (if y121.length + l0_3.length < 8796093022208 then ((some (([] : List Int) : List Int)).bind fun y128 => (if y128.length + (l0_2.take ((mn a1 (l0_2.length : Int)) : Int).toNat).length < 140737488355328 then (some (a0_0, a0_1, (y114 ++ (l0_2.drop ((mn a1 (l0_2.length : Int)) : Int).toNat)), (y121 ++ l0_3), (y128 ++ (l0_2.take ((mn a1 (l0_2.length : Int)) : Int).toNat)))) else (none))) else (none))) else (none)) else (none)) else (none)))) else (some (0, 0, ([] : List Int), ([] : List (S70)), (([] : List Int)))))) = some (r1, r2, r3, r4, r5) := h
  clear h
  replace H := Option.bind_eq_some_iff.mp H
  obtain ⟨t110, A30, H⟩ := H
  replace H : (if t110 = true then (if a1 < 0 then (some (0, 0, ([] : List Int), ([] : List (S70)), (([] : List Int)))) else ((some (([] : List Int) : List Int)).bind fun y114 => (if 0 ≤ (mn a1 (l0_2.length : Int)) then (if (mn a1 (l0_2.length : Int)) ≤ (l0_2.length : Int) then (if y114.length + (l0_2.drop ((mn a1 (l0_2.length : Int)) : Int).toNat).length < 140737488355328 then ((some (([] : List (S70)) : List (S70))).bind fun y121 => (if y121.length + l0_3.length < 8796093022208 then ((some (([] : List Int) : List Int)).bind fun y128 => (if y128.length + (l0_2.take ((mn a1 (l0_2.length : Int)) : Int).toNat).length < 140737488355328 then (some (a0_0, a0_1, (y114 ++ (l0_2.drop ((mn a1 (l0_2.length : Int)) : Int).toNat)), (y121 ++ l0_3), (y128 ++ (l0_2.take ((mn a1 (l0_2.length : Int)) : Int).toNat)))) else (none))) else (none))) else (none)) else (none)) else (none)))) else (some (0, 0, ([] : List Int), ([] : List (S70)), (([] : List Int))))) = some (r1, r2, r3, r4, r5) := H
  have A3 := Aside0.mk A30
  clear A30
  by_cases c4 : t110 = true
  · subst c4
    have H1 : (if a1 < 0 then (some (0, 0, ([] : List Int), ([] : List (S70)), (([] : List Int)))) else ((some (([] : List Int) : List Int)).bind fun y114 => (if 0 ≤ (mn a1 (l0_2.length : Int)) then (if (mn a1 (l0_2.length : Int)) ≤ (l0_2.length : Int) then (if y114.length + (l0_2.drop ((mn a1 (l0_2.length : Int)) : Int).toNat).length < 140737488355328 then ((some (([] : List (S70)) : List (S70))).bind fun y121 => (if y121.length + l0_3.length < 8796093022208 then ((some (([] : List Int) : List Int)).bind fun y128 => (if y128.length + (l0_2.take ((mn a1 (l0_2.length : Int)) : Int).toNat).length < 140737488355328 then (some (a0_0, a0_1, (y114 ++ (l0_2.drop ((mn a1 (l0_2.length : Int)) : Int).toNat)), (y121 ++ l0_3), (y128 ++ (l0_2.take ((mn a1 (l0_2.length : Int)) : Int).toNat)))) else (none))) else (none))) else (none)) else (none)) else (none)))) = some (r1, r2, r3, r4, r5) := by rw [if_pos rfl] at H; exact H
    clear H
    have H := H1
    clear H1
    by_cases c5 : a1 < 0
    · rw [if_pos c5] at H
      have c5b0 : decide (a1 < 0) = true := decide_eq_true c5
      clear c5
      obtain ⟨y111, hy111⟩ : ∃ y_ : List Int, y_ = (([] : List Int)) := ⟨_, rfl⟩
      replace H : (some (0, 0, ([] : List Int), ([] : List (S70)), y111)) = some (r1, r2, r3, r4, r5) := by first | (rw [hy111]; with_reducible exact H) | (have H2_ := (Option.bind_some _ _).symm.trans H; rw [hy111]; with_reducible exact H2_) | (have H2_ := (Option.bind_some _ _).symm.trans H; with_reducible exact H2_) | with_reducible exact H | (rw [hy111]; exact H) | exact H
      have Ny111 := Aside0.mk hy111
      clear hy111
      simp only [Option.some.injEq, Prod.mk.injEq] at H
      obtain ⟨rfl, rfl, rfl, rfl, rfl⟩ := H
      go_enter Try.func16, Try.ntmps16
      go_wp2_with (first | ((with_reducible refine gate_dst (N := 2) rfl ?_); refine box_event ?hg (N := 2) ?hd (cs := #[.int .i64 a0_0, .int .i64 a0_1, .slice A0_2 l0_2.length c0_2, .slice A0_3 l0_3.length c0_3]) (t := 25) ?hr ?_; (case hd => rfl); (case hg => rfl); (case hr => first | (go_simp; done) | (go_simp; rfl)); intro gb108 hg w6 hbox hb; have n0_ := Aside0.mk (below_step (hb0_ HB.out) hb); have n1_ := Aside0.mk (hbox); have n2_ := Aside0.mk ((by rw [hg]; exact (below_size (hb0_ HB.out)) : w.heap.size ≤ gb108)); have n3_ := Aside0.mk ((by rw [hg]; exact (below_size (hb0_ HB.out)) : w.heap.size ≤ gb108)); clear HB; have HB := n0_; have BK108 := n1_; have GW108 := n2_; have GE108 := n3_; clear n0_ n1_ n2_ n3_; clear hb hbox hg) | ((with_reducible refine gate_dst (N := 4) rfl ?_); refine box_event ?hg (N := 4) ?hd (cs := #[.int .i64 0, .int .i64 0, .slice none 0 0, .slice none 0 0]) (t := 25) ?hr ?_; (case hd => rfl); (case hg => rfl); (case hr => first | (go_simp; done) | (go_simp; rfl)); intro gb109 hg w7 hbox hb; have n0_ := Aside0.mk (blk_below (g := gb108) (o := .cells #[.int .i64 a0_0, .int .i64 a0_1, .slice A0_2 l0_2.length c0_2, .slice A0_3 l0_3.length c0_3] 25 (0, 0)) (kb_ BK108.out) hb); have n1_ := Aside0.mk (below_step (hb1_ HB.out GE108.out) hb); have n2_ := Aside0.mk (hbox); have n3_ := Aside0.mk ((by rw [hg]; exact (below_size (hb1_ HB.out GE108.out)) : w.heap.size ≤ gb109)); have n4_ := Aside0.mk ((by rw [hg]; exact (below_size (hb1_ HB.out GE108.out)) : w.heap.size ≤ gb109)); have n5_ := Aside0.mk ((by rw [hg]; exact Nat.ne_of_lt (blk_lt (g := gb108) (o := .cells #[.int .i64 a0_0, .int .i64 a0_1, .slice A0_2 l0_2.length c0_2, .slice A0_3 l0_3.length c0_3] 25 (0, 0)) (kb_ BK108.out)) : gb108 ≠ gb109)); have n6_ := Aside0.mk ((by rw [hg]; exact Nat.ne_of_gt (blk_lt (g := gb108) (o := .cells #[.int .i64 a0_0, .int .i64 a0_1, .slice A0_2 l0_2.length c0_2, .slice A0_3 l0_3.length c0_3] 25 (0, 0)) (kb_ BK108.out)) : gb109 ≠ gb108)); clear BK108; clear HB; have BK108 := n0_; have HB := n1_; have BK109 := n2_; have GW109 := n3_; have GE109 := n4_; have NB108_109 := n5_; have NB109_108 := n6_; clear n0_ n1_ n2_ n3_ n4_ n5_ n6_; clear hb hbox hg; have hnb8 := NB108_109.out; have hnc8 := NB109_108.out; have hcz9_0 : w7.cell? ⟨gb108, 0, none⟩ = some (.int .i64 a0_0) := (blk_cell BK108.out 0).trans rfl; have hcz9_1 : w7.cell? ⟨gb108, 1, none⟩ = some (.int .i64 a0_1) := (blk_cell BK108.out 1).trans rfl; have hcz9_2 : w7.cell? ⟨gb108, 2, none⟩ = some (.slice A0_2 l0_2.length c0_2) := (blk_cell BK108.out 2).trans rfl; have hcz9_3 : w7.cell? ⟨gb108, 3, none⟩ = some (.slice A0_3 l0_3.length c0_3) := (blk_cell BK108.out 3).trans rfl; have hfz9_0 := blk_frozen BK108.out 0; have hfz9_1 := blk_frozen BK108.out 1; have hfz9_2 := blk_frozen BK108.out 2; have hfz9_3 := blk_frozen BK108.out 3) | ((with_reducible refine gate_callee (f := 43) rfl ?_); refine goesL_ (some 9) rfl rfl Try.func43 (by kernel_rfl) rfl #[.agg #[.int .i64 a0_0, .int .i64 a0_1, .slice A0_2 l0_2.length c0_2, .slice A0_3 l0_3.length c0_3]] rfl ar_ ?_; (with_reducible refine (spec_EarOk.calls k a0_0 a0_1 _ _ l0_2 _ _ l0_3 true _ ?side1 ?side2 ?side3 ?side4 A3.out).mono ?_); (case side1 => exact kC_ (Kd.C_below HR0_2.out HB.out)); (case side2 => exact HC0_2.out); (case side3 => exact kC_ (Kd.C_below HR0_3.out HB.out)); (case side4 => exact HC0_3.out); rintro e w10 ⟨rfl, hb⟩; refine ⟨_, rfl, ?_⟩; have n0_ := Aside0.mk (blk_below (g := gb108) (o := .cells #[.int .i64 a0_0, .int .i64 a0_1, .slice A0_2 l0_2.length c0_2, .slice A0_3 l0_3.length c0_3] 25 (0, 0)) (kb_ BK108.out) hb); have n1_ := Aside0.mk (blk_below (g := gb109) (o := .cells #[.int .i64 0, .int .i64 0, .slice none 0 0, .slice none 0 0] 25 (0, 0)) (kb_ BK109.out) hb); have n2_ := Aside0.mk (below_step (hb2_ HB.out GE108.out GE109.out) hb); clear BK108; clear BK109; clear HB; have BK108 := n0_; have BK109 := n1_; have HB := n2_; clear n0_ n1_ n2_; (try clear hb); (try clear hb2); (try clear hk); (try clear hi)) | ((with_reducible refine gate_dst (N := 16) rfl ?_); refine Kd.R_lit (Kd.int .u8) _ 5 ?hg (N := 16) ?hd (xs := ([] : List Int)) (inner := []) (ok := fun _ => True) (okp := fun _ => True) ?hr ?hp (fun _ hk => hk) trivial (Below.refl _ _) (Nat.le_refl _) (by simp) ?_; (case hd => rfl); (case hg => rfl); (case hr => first | (go_simp; done) | (go_simp; rfl)); (case hp => exact (Reps.none _ _)); intro v112 w11 ho12 hb hg_ hnew_; clear hg_ hnew_; (first | rw [← Ny111.out] at ho12 | (simp only [Int.reduceToNat] at ho12; rw [← Ny111.out] at ho12)); have n0_ := Aside0.mk (Kd.R_lower ho12 (below_size (hb2_ HB.out GE108.out GE109.out))); have n1_ := Aside0.mk (blk_below (g := gb108) (o := .cells #[.int .i64 a0_0, .int .i64 a0_1, .slice A0_2 l0_2.length c0_2, .slice A0_3 l0_3.length c0_3] 25 (0, 0)) (kb_ BK108.out) hb); have n2_ := Aside0.mk (blk_below (g := gb109) (o := .cells #[.int .i64 0, .int .i64 0, .slice none 0 0, .slice none 0 0] 25 (0, 0)) (kb_ BK109.out) hb); have n3_ := Aside0.mk (below_step (hb2_ HB.out GE108.out GE109.out) hb); clear BK108; clear BK109; clear HB; have HO113 := n0_; have BK108 := n1_; have BK109 := n2_; have HB := n3_; clear n0_ n1_ n2_ n3_; clear hb ho12; have hcz13_0 : w11.cell? ⟨gb109, 0, none⟩ = some (.int .i64 0) := (blk_cell BK109.out 0).trans rfl; have hcz13_1 : w11.cell? ⟨gb109, 1, none⟩ = some (.int .i64 0) := (blk_cell BK109.out 1).trans rfl; have hcz13_2 : w11.cell? ⟨gb109, 2, none⟩ = some (.slice none 0 0) := (blk_cell BK109.out 2).trans rfl; have hcz13_3 : w11.cell? ⟨gb109, 3, none⟩ = some (.slice none 0 0) := (blk_cell BK109.out 3).trans rfl; have hfz13_0 := blk_frozen BK109.out 0; have hfz13_1 := blk_frozen BK109.out 1; have hfz13_2 := blk_frozen BK109.out 2; have hfz13_3 := blk_frozen BK109.out 3))
      refine bodyPost_ret (results_ct rfl _ _ gb109 25 #[.int .i64 0, .int .i64 0, .slice none 0 0, .slice none 0 0] (0, 0) _ rfl (by refine kb_ ?_; refine blk_put (cs := #[.int .i64 0, .int .i64 0, .slice none 0 0, .slice none 0 0]) ?_ 3 _ rfl; refine kb_ ?_; refine blk_put (cs := #[.int .i64 0, .int .i64 0, .slice none 0 0, .slice none 0 0]) ?_ 2 _ rfl; refine kb_ ?_; refine blk_put (cs := #[.int .i64 0, .int .i64 0, .slice none 0 0, .slice none 0 0]) ?_ 1 _ rfl; refine kb_ ?_; refine blk_put (cs := #[.int .i64 0, .int .i64 0, .slice none 0 0, .slice none 0 0]) ?_ 0 _ rfl; refine kb_ ?_; exact BK109.out) Try.underlying25 rfl (by kernel_rfl)) rfl ?_
      exact ⟨_, _, _, by first | rfl | (simp [errW_none, errW_some] <;> rfl) | (simp [*, errW_none, errW_some] <;> rfl), by first | exact Kd.R_nil _ _ _ _ _ | exact Kd.N_nil _ _ _ _ _ | exact Kd.V_nil _ _ _ _ _ | exact Kd.Q_nil _ _ _ _ _ | exact Kd.S_nil _ _ _ _ _, by first | exact Kd.R_nil _ _ _ _ _ | exact Kd.N_nil _ _ _ _ _ | exact Kd.V_nil _ _ _ _ _ | exact Kd.Q_nil _ _ _ _ _ | exact Kd.S_nil _ _ _ _ _, by refine kR_ ?_; exact Kd.R_mono (Kd.R_f gb109 3 (.slice none 0 0) (Kd.R_f gb109 2 (.slice none 0 0) (Kd.R_f gb109 1 (.int .i64 0) (Kd.R_f gb109 0 (.int .i64 0) (Kd.R_types HO113.out BK109.out (by decide)))))) (fun _ hk => (by simp [Value.ownBlock])), by repeat (first | (with_reducible first | exact HB.out | apply below_alloc | apply pw_below_drewN | apply below_drew1 | refine below_set ?_ GE108.out | refine below_set ?_ GE109.out) | exact HB.out)⟩
    · rw [if_neg c5] at H
      have c5b0 : decide (a1 < 0) = false := decide_eq_false c5
      clear c5
      obtain ⟨ji14, hji14⟩ : ∃ j_ : Int, (mn a1 (l0_2.length : Int)) = j_ := ⟨_, rfl⟩
      replace H : ((some (([] : List Int) : List Int)).bind fun y114 => (if 0 ≤ (ji14) then (if (ji14) ≤ (l0_2.length : Int) then (if y114.length + (l0_2.drop ((ji14) : Int).toNat).length < 140737488355328 then ((some (([] : List (S70)) : List (S70))).bind fun y121 => (if y121.length + l0_3.length < 8796093022208 then ((some (([] : List Int) : List Int)).bind fun y128 => (if y128.length + (l0_2.take ((ji14) : Int).toNat).length < 140737488355328 then (some (a0_0, a0_1, (y114 ++ (l0_2.drop ((ji14) : Int).toNat)), (y121 ++ l0_3), (y128 ++ (l0_2.take ((ji14) : Int).toNat)))) else (none))) else (none))) else (none)) else (none)) else (none))) = some (r1, r2, r3, r4, r5) := by first | (rw [hji14] at H; exact H) | (simp only [hji14] at H ⊢; exact H)
      (try rw [hji14] at A3)
      have hji14_ : (if (l0_2.length : Int) < a1 then (l0_2.length : Int) else a1) = ji14 := hji14
      obtain ⟨y114, hy114⟩ : ∃ y_ : List Int, y_ = (([] : List Int)) := ⟨_, rfl⟩
      replace H : (if 0 ≤ (ji14) then (if (ji14) ≤ (l0_2.length : Int) then (if y114.length + (l0_2.drop ((ji14) : Int).toNat).length < 140737488355328 then ((some (([] : List (S70)) : List (S70))).bind fun y121 => (if y121.length + l0_3.length < 8796093022208 then ((some (([] : List Int) : List Int)).bind fun y128 => (if y128.length + (l0_2.take ((ji14) : Int).toNat).length < 140737488355328 then (some (a0_0, a0_1, (y114 ++ (l0_2.drop ((ji14) : Int).toNat)), (y121 ++ l0_3), (y128 ++ (l0_2.take ((ji14) : Int).toNat)))) else (none))) else (none))) else (none)) else (none)) else (none)) = some (r1, r2, r3, r4, r5) := by first | (rw [hy114]; with_reducible exact H) | (have H2_ := (Option.bind_some _ _).symm.trans H; rw [hy114]; with_reducible exact H2_) | (have H2_ := (Option.bind_some _ _).symm.trans H; with_reducible exact H2_) | with_reducible exact H | (rw [hy114]; exact H) | exact H
      have Ny114 := Aside0.mk hy114
      clear hy114
      by_cases c15 : 0 ≤ (ji14)
      · rw [if_pos c15] at H
        have c15b0 := eq_true c15
        have c15b1 : decide (0 ≤ (ji14)) = true := decide_eq_true c15
        clear c15
        by_cases c16 : (ji14) ≤ (l0_2.length : Int)
        · rw [if_pos c16] at H
          have c16b0 := eq_true c16
          have c16b1 : decide ((ji14) ≤ (l0_2.length : Int)) = true := decide_eq_true c16
          clear c16
          by_cases c17 : y114.length + (l0_2.drop ((ji14) : Int).toNat).length < 140737488355328
          · rw [if_pos c17] at H
            have LMc17 := Aside0.mk c17
            clear c17
            obtain ⟨y118, hy118⟩ : ∃ y_ : List Int, y_ = (y114 ++ (l0_2.drop ((ji14) : Int).toNat)) := ⟨_, rfl⟩
            replace H : ((some (([] : List (S70)) : List (S70))).bind fun y121 => (if y121.length + l0_3.length < 8796093022208 then ((some (([] : List Int) : List Int)).bind fun y128 => (if y128.length + (l0_2.take ((ji14) : Int).toNat).length < 140737488355328 then (some (a0_0, a0_1, y118, (y121 ++ l0_3), (y128 ++ (l0_2.take ((ji14) : Int).toNat)))) else (none))) else (none))) = some (r1, r2, r3, r4, r5) := by first | (rw [hy118]; with_reducible exact H) | (have H2_ := (Option.bind_some _ _).symm.trans H; rw [hy118]; with_reducible exact H2_) | (have H2_ := (Option.bind_some _ _).symm.trans H; with_reducible exact H2_) | with_reducible exact H | (rw [hy118]; exact H) | exact H
            have Ny118 := Aside0.mk hy118
            clear hy118
            obtain ⟨y121, hy121⟩ : ∃ y_ : List (S70), y_ = (([] : List (S70))) := ⟨_, rfl⟩
            replace H : (if y121.length + l0_3.length < 8796093022208 then ((some (([] : List Int) : List Int)).bind fun y128 => (if y128.length + (l0_2.take ((ji14) : Int).toNat).length < 140737488355328 then (some (a0_0, a0_1, y118, (y121 ++ l0_3), (y128 ++ (l0_2.take ((ji14) : Int).toNat)))) else (none))) else (none)) = some (r1, r2, r3, r4, r5) := by first | (rw [hy121]; with_reducible exact H) | (have H2_ := (Option.bind_some _ _).symm.trans H; rw [hy121]; with_reducible exact H2_) | (have H2_ := (Option.bind_some _ _).symm.trans H; with_reducible exact H2_) | with_reducible exact H | (rw [hy121]; exact H) | exact H
            have Ny121 := Aside0.mk hy121
            clear hy121
            by_cases c18 : y121.length + l0_3.length < 8796093022208
            · rw [if_pos c18] at H
              have LMc18 := Aside0.mk c18
              clear c18
              obtain ⟨y124, hy124⟩ : ∃ y_ : List (S70), y_ = (y121 ++ l0_3) := ⟨_, rfl⟩
              replace H : ((some (([] : List Int) : List Int)).bind fun y128 => (if y128.length + (l0_2.take ((ji14) : Int).toNat).length < 140737488355328 then (some (a0_0, a0_1, y118, y124, (y128 ++ (l0_2.take ((ji14) : Int).toNat)))) else (none))) = some (r1, r2, r3, r4, r5) := by first | (rw [hy124]; with_reducible exact H) | (have H2_ := (Option.bind_some _ _).symm.trans H; rw [hy124]; with_reducible exact H2_) | (have H2_ := (Option.bind_some _ _).symm.trans H; with_reducible exact H2_) | with_reducible exact H | (rw [hy124]; exact H) | exact H
              have Ny124 := Aside0.mk hy124
              clear hy124
              obtain ⟨y128, hy128⟩ : ∃ y_ : List Int, y_ = (([] : List Int)) := ⟨_, rfl⟩
              replace H : (if y128.length + (l0_2.take ((ji14) : Int).toNat).length < 140737488355328 then (some (a0_0, a0_1, y118, y124, (y128 ++ (l0_2.take ((ji14) : Int).toNat)))) else (none)) = some (r1, r2, r3, r4, r5) := by first | (rw [hy128]; with_reducible exact H) | (have H2_ := (Option.bind_some _ _).symm.trans H; rw [hy128]; with_reducible exact H2_) | (have H2_ := (Option.bind_some _ _).symm.trans H; with_reducible exact H2_) | with_reducible exact H | (rw [hy128]; exact H) | exact H
              have Ny128 := Aside0.mk hy128
              clear hy128
              have c19b0 := eq_true (of_decide_eq_true (by first | (with_reducible assumption) | assumption) : 0 ≤ (ji14))
              have c20b0 := eq_true (of_decide_eq_true (by first | (with_reducible assumption) | assumption) : (ji14) ≤ (l0_2.length : Int))
              by_cases c21 : y128.length + (l0_2.take ((ji14) : Int).toNat).length < 140737488355328
              · rw [if_pos c21] at H
                have LMc21 := Aside0.mk c21
                clear c21
                obtain ⟨y132, hy132⟩ : ∃ y_ : List Int, y_ = (y128 ++ (l0_2.take ((ji14) : Int).toNat)) := ⟨_, rfl⟩
                replace H : (some (a0_0, a0_1, y118, y124, y132)) = some (r1, r2, r3, r4, r5) := by first | (rw [hy132]; with_reducible exact H) | (have H2_ := (Option.bind_some _ _).symm.trans H; rw [hy132]; with_reducible exact H2_) | (have H2_ := (Option.bind_some _ _).symm.trans H; with_reducible exact H2_) | with_reducible exact H | (rw [hy132]; exact H) | exact H
                have Ny132 := Aside0.mk hy132
                clear hy132
                simp only [Option.some.injEq, Prod.mk.injEq] at H
                obtain ⟨rfl, rfl, rfl, rfl, rfl⟩ := H
                go_enter Try.func16, Try.ntmps16
                try go_wp2_with (first | ((with_reducible refine gate_dst (N := 2) rfl ?_); refine box_event ?hg (N := 2) ?hd (cs := #[.int .i64 a0_0, .int .i64 a0_1, .slice A0_2 l0_2.length c0_2, .slice A0_3 l0_3.length c0_3]) (t := 25) ?hr ?_; (case hd => rfl); (case hg => rfl); (case hr => first | (go_simp; done) | (go_simp; rfl)); intro gb108 hg w22 hbox hb; have n0_ := Aside0.mk (below_step (hb0_ HB.out) hb); have n1_ := Aside0.mk (hbox); have n2_ := Aside0.mk ((by rw [hg]; exact (below_size (hb0_ HB.out)) : w.heap.size ≤ gb108)); have n3_ := Aside0.mk ((by rw [hg]; exact (below_size (hb0_ HB.out)) : w.heap.size ≤ gb108)); clear HB; have HB := n0_; have BK108 := n1_; have GW108 := n2_; have GE108 := n3_; clear n0_ n1_ n2_ n3_; clear hb hbox hg) | ((with_reducible refine gate_dst (N := 4) rfl ?_); refine box_event ?hg (N := 4) ?hd (cs := #[.int .i64 0, .int .i64 0, .slice none 0 0, .slice none 0 0]) (t := 25) ?hr ?_; (case hd => rfl); (case hg => rfl); (case hr => first | (go_simp; done) | (go_simp; rfl)); intro gb109 hg w23 hbox hb; have n0_ := Aside0.mk (blk_below (g := gb108) (o := .cells #[.int .i64 a0_0, .int .i64 a0_1, .slice A0_2 l0_2.length c0_2, .slice A0_3 l0_3.length c0_3] 25 (0, 0)) (kb_ BK108.out) hb); have n1_ := Aside0.mk (below_step (hb1_ HB.out GE108.out) hb); have n2_ := Aside0.mk (hbox); have n3_ := Aside0.mk ((by rw [hg]; exact (below_size (hb1_ HB.out GE108.out)) : w.heap.size ≤ gb109)); have n4_ := Aside0.mk ((by rw [hg]; exact (below_size (hb1_ HB.out GE108.out)) : w.heap.size ≤ gb109)); have n5_ := Aside0.mk ((by rw [hg]; exact Nat.ne_of_lt (blk_lt (g := gb108) (o := .cells #[.int .i64 a0_0, .int .i64 a0_1, .slice A0_2 l0_2.length c0_2, .slice A0_3 l0_3.length c0_3] 25 (0, 0)) (kb_ BK108.out)) : gb108 ≠ gb109)); have n6_ := Aside0.mk ((by rw [hg]; exact Nat.ne_of_gt (blk_lt (g := gb108) (o := .cells #[.int .i64 a0_0, .int .i64 a0_1, .slice A0_2 l0_2.length c0_2, .slice A0_3 l0_3.length c0_3] 25 (0, 0)) (kb_ BK108.out)) : gb109 ≠ gb108)); clear BK108; clear HB; have BK108 := n0_; have HB := n1_; have BK109 := n2_; have GW109 := n3_; have GE109 := n4_; have NB108_109 := n5_; have NB109_108 := n6_; clear n0_ n1_ n2_ n3_ n4_ n5_ n6_; clear hb hbox hg; have hnb24 := NB108_109.out; have hnc24 := NB109_108.out; have hcz25_0 : w23.cell? ⟨gb108, 0, none⟩ = some (.int .i64 a0_0) := (blk_cell BK108.out 0).trans rfl; have hcz25_1 : w23.cell? ⟨gb108, 1, none⟩ = some (.int .i64 a0_1) := (blk_cell BK108.out 1).trans rfl; have hcz25_2 : w23.cell? ⟨gb108, 2, none⟩ = some (.slice A0_2 l0_2.length c0_2) := (blk_cell BK108.out 2).trans rfl; have hcz25_3 : w23.cell? ⟨gb108, 3, none⟩ = some (.slice A0_3 l0_3.length c0_3) := (blk_cell BK108.out 3).trans rfl; have hfz25_0 := blk_frozen BK108.out 0; have hfz25_1 := blk_frozen BK108.out 1; have hfz25_2 := blk_frozen BK108.out 2; have hfz25_3 := blk_frozen BK108.out 3) | ((with_reducible refine gate_callee (f := 43) rfl ?_); refine goesL_ (some 9) rfl rfl Try.func43 (by kernel_rfl) rfl #[.agg #[.int .i64 a0_0, .int .i64 a0_1, .slice A0_2 l0_2.length c0_2, .slice A0_3 l0_3.length c0_3]] rfl ar_ ?_; (with_reducible refine (spec_EarOk.calls k a0_0 a0_1 _ _ l0_2 _ _ l0_3 true _ ?side1 ?side2 ?side3 ?side4 A3.out).mono ?_); (case side1 => exact kC_ (Kd.C_below HR0_2.out HB.out)); (case side2 => exact HC0_2.out); (case side3 => exact kC_ (Kd.C_below HR0_3.out HB.out)); (case side4 => exact HC0_3.out); rintro e w26 ⟨rfl, hb⟩; refine ⟨_, rfl, ?_⟩; have n0_ := Aside0.mk (blk_below (g := gb108) (o := .cells #[.int .i64 a0_0, .int .i64 a0_1, .slice A0_2 l0_2.length c0_2, .slice A0_3 l0_3.length c0_3] 25 (0, 0)) (kb_ BK108.out) hb); have n1_ := Aside0.mk (blk_below (g := gb109) (o := .cells #[.int .i64 0, .int .i64 0, .slice none 0 0, .slice none 0 0] 25 (0, 0)) (kb_ BK109.out) hb); have n2_ := Aside0.mk (below_step (hb2_ HB.out GE108.out GE109.out) hb); clear BK108; clear BK109; clear HB; have BK108 := n0_; have BK109 := n1_; have HB := n2_; clear n0_ n1_ n2_; (try clear hb); (try clear hb2); (try clear hk); (try clear hi); have hcz27_0 : w26.cell? ⟨gb108, 0, none⟩ = some (.int .i64 a0_0) := (blk_cell BK108.out 0).trans rfl; have hcz27_1 : w26.cell? ⟨gb108, 1, none⟩ = some (.int .i64 a0_1) := (blk_cell BK108.out 1).trans rfl; have hcz27_2 : w26.cell? ⟨gb108, 2, none⟩ = some (.slice A0_2 l0_2.length c0_2) := (blk_cell BK108.out 2).trans rfl; have hcz27_3 : w26.cell? ⟨gb108, 3, none⟩ = some (.slice A0_3 l0_3.length c0_3) := (blk_cell BK108.out 3).trans rfl; have hfz27_0 := blk_frozen BK108.out 0; have hfz27_1 := blk_frozen BK108.out 1; have hfz27_2 := blk_frozen BK108.out 2; have hfz27_3 := blk_frozen BK108.out 3))
                have n0_ := Aside0.mk (blk_drew BK108.out)
                have n1_ := Aside0.mk (blk_drew BK109.out)
                have n2_ := Aside0.mk (below_drew1 HB.out)
                clear BK108
                clear BK109
                clear HB
                have BK108 := n0_
                have BK109 := n1_
                have HB := n2_
                clear n0_ n1_ n2_
                obtain ⟨i029, hi029, _, hsz29, _⟩ := info_parts info5
                obtain ⟨A29, hcut29, hA29, hC29⟩ := print_drop_of (P := Try.prog) (Value.int .u8) 0 22 5 .i64 Try.underlying22 hi029 hsz29 A0_2 c0_2 l0_2 (ji14) (of_decide_eq_true (by first | (with_reducible assumption) | assumption)) (of_decide_eq_true (by first | (with_reducible assumption) | assumption)) HC0_2.out
                have HR117 := Aside0.mk (Kd.C_of_reads (h1 := fun _ => rfl) (hA29 _ (Kd.reads_of_C HR0_2.out)))
                have HC117 := Aside0.mk hC29
                clear hA29 hC29 hi029 hsz29
                refine start_ (n := 17) (S := fun w' => w'.cell? ⟨gb108, 0, none⟩ = some (.int .i64 a0_0) ∧ w'.cell? ⟨gb108, 1, none⟩ = some (.int .i64 a0_1) ∧ w'.cell? ⟨gb108, 2, none⟩ = some (.slice A0_2 l0_2.length c0_2) ∧ w'.cell? ⟨gb108, 3, none⟩ = some (.slice A0_3 l0_3.length c0_3)) (ds := []) #[false, false, false, false, false, false, false, false, false, false, false, false, false, false, false, false, false] (by kernel_rfl) rfl rfl ⟨(blk_cell BK108.out 0).trans rfl, (blk_cell BK108.out 1).trans rfl, (blk_cell BK108.out 2).trans rfl, (blk_cell BK108.out 3).trans rfl⟩ (fun hHeld => ?_); refine with_tabW spec_EarRead.tab4 spec_EarRead.bits4 (fun HT_ HW_ => ?_)
                generalize w26.drew = w28 at BK108 BK109 HB HR117 hHeld ⊢
                refine pure_ (i := 0) (N := some 22) (v := ?_) (a' := ?_) #[true, false, false, false, false, false, false, false, false, false, false, false, false, false, false, false, false] rfl rfl (any_of HT_.out (by kernel_rfl)) (fun _ _ _ h => h) (Or.inl ⟨by rfl, ?_⟩) ?_ ?_
                rotate_left
                · intro w'
                  go_simp
                  with_reducible rfl
                rotate_left
                · simp only [Act.put, List.setIfInBounds_toArray, List.set_cons_zero, List.set_cons_succ, i64_w, i32_w]
                  rfl
                refine pure_ (i := 2) (N := some 24) (v := ?_) (a' := ?_) #[true, false, true, false, false, false, false, false, false, false, false, false, false, false, false, false, false] rfl rfl (any_of HT_.out (by kernel_rfl)) (fun _ _ _ h => h) (Or.inl ⟨by rfl, ?_⟩) ?_ ?_
                rotate_left
                · intro w'
                  go_simp
                  with_reducible rfl
                rotate_left
                · simp only [Act.put, List.setIfInBounds_toArray, List.set_cons_zero, List.set_cons_succ, i64_w, i32_w]
                  rfl
                refine pure_ (i := 5) (N := some 27) (v := ?_) (a' := ?_) #[true, false, true, false, false, true, false, false, false, false, false, false, false, false, false, false, false] rfl rfl (any_of HT_.out (by kernel_rfl)) (fun _ _ _ h => h) (Or.inl ⟨by rfl, ?_⟩) ?_ ?_
                rotate_left
                · intro w'
                  go_simp
                  with_reducible rfl
                rotate_left
                · simp only [Act.put, List.setIfInBounds_toArray, List.set_cons_zero, List.set_cons_succ, i64_w, i32_w]
                  rfl
                refine pure_ (i := 7) (N := some 29) (v := ?_) (a' := ?_) #[true, false, true, false, false, true, false, true, false, false, false, false, false, false, false, false, false] rfl rfl (any_of HT_.out (by kernel_rfl)) (fun _ _ _ h => h) (Or.inl ⟨by rfl, ?_⟩) ?_ ?_
                rotate_left
                · intro w'
                  go_simp
                  with_reducible rfl
                rotate_left
                · simp only [Act.put, List.setIfInBounds_toArray, List.set_cons_zero, List.set_cons_succ, i64_w, i32_w]
                  rfl
                refine pure_ (i := 11) (N := some 33) (v := ?_) (a' := ?_) #[true, false, true, false, false, true, false, true, false, false, false, true, false, false, false, false, false] rfl rfl (any_of HT_.out (by kernel_rfl)) (fun _ _ _ h => h) (Or.inl ⟨by rfl, ?_⟩) ?_ ?_
                rotate_left
                · intro w'
                  go_simp
                  with_reducible rfl
                rotate_left
                · simp only [Act.put, List.setIfInBounds_toArray, List.set_cons_zero, List.set_cons_succ, i64_w, i32_w]
                  rfl
                refine take_ (i := 1) (N := some 23) (v := ?_) (a' := ?_) #[true, true, true, false, false, true, false, true, false, false, false, true, false, false, false, false, false] rfl rfl (take_ofW HT_.out HW_.out (by kernel_rfl)) (fun _ _ _ h => h) (Or.inl ⟨by rfl, ?_⟩) hHeld ?_ ?_
                rotate_left
                · rintro w' ⟨s0, s1, s2, s3⟩
                  go_simp
                  with_reducible rfl
                rotate_left
                · simp only [Act.put, List.setIfInBounds_toArray, List.set_cons_zero, List.set_cons_succ, i64_w, i32_w]
                  rfl
                refine take_ (i := 3) (N := some 25) (v := ?_) (a' := ?_) #[true, true, true, true, false, true, false, true, false, false, false, true, false, false, false, false, false] rfl rfl (take_ofW HT_.out HW_.out (by kernel_rfl)) (fun _ _ _ h => h) (Or.inl ⟨by rfl, ?_⟩) hHeld ?_ ?_
                rotate_left
                · rintro w' ⟨s0, s1, s2, s3⟩
                  go_simp
                  with_reducible rfl
                rotate_left
                · simp only [Act.put, List.setIfInBounds_toArray, List.set_cons_zero, List.set_cons_succ, i64_w, i32_w]
                  rfl
                refine take_ (i := 6) (N := some 28) (v := ?_) (a' := ?_) #[true, true, true, true, false, true, true, true, false, false, false, true, false, false, false, false, false] rfl rfl (take_ofW HT_.out HW_.out (by kernel_rfl)) (fun _ _ _ h => h) (Or.inl ⟨by rfl, ?_⟩) hHeld ?_ ?_
                rotate_left
                · rintro w' ⟨s0, s1, s2, s3⟩
                  go_simp
                  with_reducible rfl
                rotate_left
                · simp only [Act.put, List.setIfInBounds_toArray, List.set_cons_zero, List.set_cons_succ, i64_w, i32_w]
                  rfl
                refine pure_ (i := 8) (N := some 30) (v := ?_) (a' := ?_) #[true, true, true, true, false, true, true, true, true, false, false, true, false, false, false, false, false] rfl rfl (any_of HT_.out (by kernel_rfl)) (fun _ _ _ h => h) (Or.inl ⟨by rfl, ?_⟩) ?_ ?_
                rotate_left
                · intro w'
                  go_simp
                  with_reducible rfl
                rotate_left
                · simp only [Act.put, List.setIfInBounds_toArray, List.set_cons_zero, List.set_cons_succ, i64_w, i32_w]
                  rfl
                refine take_ (i := 12) (N := some 34) (v := ?_) (a' := ?_) #[true, true, true, true, false, true, true, true, true, false, false, true, true, false, false, false, false] rfl rfl (take_ofW HT_.out HW_.out (by kernel_rfl)) (fun _ _ _ h => h) (Or.inl ⟨by rfl, ?_⟩) hHeld ?_ ?_
                rotate_left
                · rintro w' ⟨s0, s1, s2, s3⟩
                  go_simp
                  with_reducible rfl
                rotate_left
                · simp only [Act.put, List.setIfInBounds_toArray, List.set_cons_zero, List.set_cons_succ, i64_w, i32_w]
                  rfl
                refine join_ (σ := Value × Value × Value × Value × Nat) 1 #[true, true, true, true, true, true, true, true, true, true, true, true, true, true, true, true, false] (fun s_ => [(26, s_.1), (31, s_.2.1), (32, s_.2.2.1), (35, s_.2.2.2.1), (7, .pointer (some ⟨s_.2.2.2.2, 0, none⟩)), (36, .agg #[.int .i64 a0_0, .int .i64 a0_1, s_.2.1, s_.2.2.2.1])]) (fun s_ w' => (w'.cell? ⟨gb108, 0, none⟩ = some (.int .i64 a0_0) ∧ w'.cell? ⟨gb108, 1, none⟩ = some (.int .i64 a0_1) ∧ w'.cell? ⟨gb108, 2, none⟩ = some (.slice A0_2 l0_2.length c0_2) ∧ w'.cell? ⟨gb108, 3, none⟩ = some (.slice A0_3 l0_3.length c0_3)) ∧ (Kd.R (Kd.int .u8) 5 w' w.heap.size (fun _ => True) s_.2.1 y118) ∧ (Kd.R k70 70 w' w.heap.size (fun _ => True) s_.2.2.2.1 y124) ∧ (w'.heap[gb108]? = some (.cells #[.int .i64 a0_0, .int .i64 a0_1, .slice A0_2 l0_2.length c0_2, .slice A0_3 l0_3.length c0_3] 25 (0, 0))) ∧ (w'.heap[gb109]? = some (.cells #[.int .i64 0, .int .i64 0, .slice none 0 0, .slice none 0 0] 25 (0, 0))) ∧ (w'.heap[s_.2.2.2.2]? = some (.cells #[.int .i64 0, .int .i64 0, .slice none 0 0, .slice none 0 0] 25 (0, 0))) ∧ (w.heap.size ≤ s_.2.2.2.2) ∧ (w.heap.size ≤ s_.2.2.2.2) ∧ (gb108 ≠ s_.2.2.2.2) ∧ (s_.2.2.2.2 ≠ gb108) ∧ (gb109 ≠ s_.2.2.2.2) ∧ (s_.2.2.2.2 ≠ gb109) ∧ (Below w.heap.size w w')) ?_ ?_
                rotate_left
                · intro hJ4_9_10_13_15
                  refine join_ (σ := Value × Value × Value × Value) 2 #[true, true, true, true, true, true, true, true, true, true, true, true, true, true, true, false, false] (fun s_ => [(26, s_.1), (31, s_.2.1), (32, s_.2.2.1), (35, s_.2.2.2), (36, .agg #[.int .i64 a0_0, .int .i64 a0_1, s_.2.1, s_.2.2.2])]) (fun s_ w' => (w'.cell? ⟨gb108, 0, none⟩ = some (.int .i64 a0_0) ∧ w'.cell? ⟨gb108, 1, none⟩ = some (.int .i64 a0_1) ∧ w'.cell? ⟨gb108, 2, none⟩ = some (.slice A0_2 l0_2.length c0_2) ∧ w'.cell? ⟨gb108, 3, none⟩ = some (.slice A0_3 l0_3.length c0_3)) ∧ (Kd.R (Kd.int .u8) 5 w' w.heap.size (fun _ => True) s_.2.1 y118) ∧ (Kd.R k70 70 w' w.heap.size (fun _ => True) s_.2.2.2 y124) ∧ (w'.heap[gb108]? = some (.cells #[.int .i64 a0_0, .int .i64 a0_1, .slice A0_2 l0_2.length c0_2, .slice A0_3 l0_3.length c0_3] 25 (0, 0))) ∧ (w'.heap[gb109]? = some (.cells #[.int .i64 0, .int .i64 0, .slice none 0 0, .slice none 0 0] 25 (0, 0))) ∧ (Below w.heap.size w w')) ?_ ?_
                  rotate_left
                  · intro hJ4_9_10_13
                    refine join_ (σ := Value × Value × Value × Nat) 3 #[true, true, true, true, true, true, true, true, true, true, true, true, true, false, false, true, false] (fun s_ => [(26, s_.1), (31, s_.2.1), (32, s_.2.2.1), (7, .pointer (some ⟨s_.2.2.2, 0, none⟩))]) (fun s_ w' => (w'.cell? ⟨gb108, 0, none⟩ = some (.int .i64 a0_0) ∧ w'.cell? ⟨gb108, 1, none⟩ = some (.int .i64 a0_1) ∧ w'.cell? ⟨gb108, 2, none⟩ = some (.slice A0_2 l0_2.length c0_2) ∧ w'.cell? ⟨gb108, 3, none⟩ = some (.slice A0_3 l0_3.length c0_3)) ∧ (Kd.R (Kd.int .u8) 5 w' w.heap.size (fun _ => True) s_.2.1 y118) ∧ (Kd.R k70 70 w' w.heap.size (fun _ => True) s_.2.2.1 y121) ∧ (w'.heap[gb108]? = some (.cells #[.int .i64 a0_0, .int .i64 a0_1, .slice A0_2 l0_2.length c0_2, .slice A0_3 l0_3.length c0_3] 25 (0, 0))) ∧ (w'.heap[gb109]? = some (.cells #[.int .i64 0, .int .i64 0, .slice none 0 0, .slice none 0 0] 25 (0, 0))) ∧ (w'.heap[s_.2.2.2]? = some (.cells #[.int .i64 0, .int .i64 0, .slice none 0 0, .slice none 0 0] 25 (0, 0))) ∧ (w.heap.size ≤ s_.2.2.2) ∧ (w.heap.size ≤ s_.2.2.2) ∧ (gb108 ≠ s_.2.2.2) ∧ (s_.2.2.2 ≠ gb108) ∧ (gb109 ≠ s_.2.2.2) ∧ (s_.2.2.2 ≠ gb109) ∧ (Below w.heap.size w w')) ?_ ?_
                    rotate_left
                    · intro hJ4_9_10_15
                      refine join_ (σ := Value × Value × Value) 4 #[true, true, true, true, true, true, true, true, true, true, true, true, true, false, false, false, false] (fun s_ => [(26, s_.1), (31, s_.2.1), (32, s_.2.2)]) (fun s_ w' => (w'.cell? ⟨gb108, 0, none⟩ = some (.int .i64 a0_0) ∧ w'.cell? ⟨gb108, 1, none⟩ = some (.int .i64 a0_1) ∧ w'.cell? ⟨gb108, 2, none⟩ = some (.slice A0_2 l0_2.length c0_2) ∧ w'.cell? ⟨gb108, 3, none⟩ = some (.slice A0_3 l0_3.length c0_3)) ∧ (Kd.R (Kd.int .u8) 5 w' w.heap.size (fun _ => True) s_.2.1 y118) ∧ (Kd.R k70 70 w' w.heap.size (fun _ => True) s_.2.2 y121) ∧ (w'.heap[gb108]? = some (.cells #[.int .i64 a0_0, .int .i64 a0_1, .slice A0_2 l0_2.length c0_2, .slice A0_3 l0_3.length c0_3] 25 (0, 0))) ∧ (w'.heap[gb109]? = some (.cells #[.int .i64 0, .int .i64 0, .slice none 0 0, .slice none 0 0] 25 (0, 0))) ∧ (Below w.heap.size w w')) ?_ ?_
                      rotate_left
                      · intro hJ4_9_10
                        refine join_ (σ := Value × Value × Nat) 4 #[true, true, true, true, true, true, true, true, true, true, false, true, true, false, false, true, false] (fun s_ => [(26, s_.1), (31, s_.2.1), (7, .pointer (some ⟨s_.2.2, 0, none⟩))]) (fun s_ w' => (w'.cell? ⟨gb108, 0, none⟩ = some (.int .i64 a0_0) ∧ w'.cell? ⟨gb108, 1, none⟩ = some (.int .i64 a0_1) ∧ w'.cell? ⟨gb108, 2, none⟩ = some (.slice A0_2 l0_2.length c0_2) ∧ w'.cell? ⟨gb108, 3, none⟩ = some (.slice A0_3 l0_3.length c0_3)) ∧ (Kd.R (Kd.int .u8) 5 w' w.heap.size (fun _ => True) s_.2.1 y118) ∧ (w'.heap[gb108]? = some (.cells #[.int .i64 a0_0, .int .i64 a0_1, .slice A0_2 l0_2.length c0_2, .slice A0_3 l0_3.length c0_3] 25 (0, 0))) ∧ (w'.heap[gb109]? = some (.cells #[.int .i64 0, .int .i64 0, .slice none 0 0, .slice none 0 0] 25 (0, 0))) ∧ (w'.heap[s_.2.2]? = some (.cells #[.int .i64 0, .int .i64 0, .slice none 0 0, .slice none 0 0] 25 (0, 0))) ∧ (w.heap.size ≤ s_.2.2) ∧ (w.heap.size ≤ s_.2.2) ∧ (gb108 ≠ s_.2.2) ∧ (s_.2.2 ≠ gb108) ∧ (gb109 ≠ s_.2.2) ∧ (s_.2.2 ≠ gb109) ∧ (Below w.heap.size w w')) ?_ ?_
                        rotate_left
                        · intro hJ4_9_15
                          refine join_ (σ := Value × Value × Nat) 4 #[true, true, true, true, true, true, true, true, true, false, true, true, true, false, false, true, false] (fun s_ => [(26, s_.1), (32, s_.2.1), (7, .pointer (some ⟨s_.2.2, 0, none⟩))]) (fun s_ w' => (w'.cell? ⟨gb108, 0, none⟩ = some (.int .i64 a0_0) ∧ w'.cell? ⟨gb108, 1, none⟩ = some (.int .i64 a0_1) ∧ w'.cell? ⟨gb108, 2, none⟩ = some (.slice A0_2 l0_2.length c0_2) ∧ w'.cell? ⟨gb108, 3, none⟩ = some (.slice A0_3 l0_3.length c0_3)) ∧ (Kd.R (Kd.int .u8) 5 w' w.heap.size (fun _ => True) s_.1 y114) ∧ (Kd.R k70 70 w' w.heap.size (fun _ => True) s_.2.1 y121) ∧ (w'.heap[gb108]? = some (.cells #[.int .i64 a0_0, .int .i64 a0_1, .slice A0_2 l0_2.length c0_2, .slice A0_3 l0_3.length c0_3] 25 (0, 0))) ∧ (w'.heap[gb109]? = some (.cells #[.int .i64 0, .int .i64 0, .slice none 0 0, .slice none 0 0] 25 (0, 0))) ∧ (w'.heap[s_.2.2]? = some (.cells #[.int .i64 0, .int .i64 0, .slice none 0 0, .slice none 0 0] 25 (0, 0))) ∧ (w.heap.size ≤ s_.2.2) ∧ (w.heap.size ≤ s_.2.2) ∧ (gb108 ≠ s_.2.2) ∧ (s_.2.2 ≠ gb108) ∧ (gb109 ≠ s_.2.2) ∧ (s_.2.2 ≠ gb109) ∧ (Below w.heap.size w w')) ?_ ?_
                          rotate_left
                          · intro hJ4_10_15
                            refine join_ (σ := Value × Value) 5 #[true, true, true, true, true, true, true, true, true, true, false, true, true, false, false, false, false] (fun s_ => [(26, s_.1), (31, s_.2)]) (fun s_ w' => (w'.cell? ⟨gb108, 0, none⟩ = some (.int .i64 a0_0) ∧ w'.cell? ⟨gb108, 1, none⟩ = some (.int .i64 a0_1) ∧ w'.cell? ⟨gb108, 2, none⟩ = some (.slice A0_2 l0_2.length c0_2) ∧ w'.cell? ⟨gb108, 3, none⟩ = some (.slice A0_3 l0_3.length c0_3)) ∧ (Kd.R (Kd.int .u8) 5 w' w.heap.size (fun _ => True) s_.2 y118) ∧ (w'.heap[gb108]? = some (.cells #[.int .i64 a0_0, .int .i64 a0_1, .slice A0_2 l0_2.length c0_2, .slice A0_3 l0_3.length c0_3] 25 (0, 0))) ∧ (w'.heap[gb109]? = some (.cells #[.int .i64 0, .int .i64 0, .slice none 0 0, .slice none 0 0] 25 (0, 0))) ∧ (Below w.heap.size w w')) ?_ ?_
                            rotate_left
                            · intro hJ4_9
                              refine join_ (σ := Value × Value) 5 #[true, true, true, true, true, true, true, true, true, false, true, true, true, false, false, false, false] (fun s_ => [(26, s_.1), (32, s_.2)]) (fun s_ w' => (w'.cell? ⟨gb108, 0, none⟩ = some (.int .i64 a0_0) ∧ w'.cell? ⟨gb108, 1, none⟩ = some (.int .i64 a0_1) ∧ w'.cell? ⟨gb108, 2, none⟩ = some (.slice A0_2 l0_2.length c0_2) ∧ w'.cell? ⟨gb108, 3, none⟩ = some (.slice A0_3 l0_3.length c0_3)) ∧ (Kd.R (Kd.int .u8) 5 w' w.heap.size (fun _ => True) s_.1 y114) ∧ (Kd.R k70 70 w' w.heap.size (fun _ => True) s_.2 y121) ∧ (w'.heap[gb108]? = some (.cells #[.int .i64 a0_0, .int .i64 a0_1, .slice A0_2 l0_2.length c0_2, .slice A0_3 l0_3.length c0_3] 25 (0, 0))) ∧ (w'.heap[gb109]? = some (.cells #[.int .i64 0, .int .i64 0, .slice none 0 0, .slice none 0 0] 25 (0, 0))) ∧ (Below w.heap.size w w')) ?_ ?_
                              rotate_left
                              · intro hJ4_10
                                refine join_ (σ := Value × Nat) 5 #[true, true, true, true, true, true, true, true, true, false, false, true, true, false, false, true, false] (fun s_ => [(26, s_.1), (7, .pointer (some ⟨s_.2, 0, none⟩))]) (fun s_ w' => (w'.cell? ⟨gb108, 0, none⟩ = some (.int .i64 a0_0) ∧ w'.cell? ⟨gb108, 1, none⟩ = some (.int .i64 a0_1) ∧ w'.cell? ⟨gb108, 2, none⟩ = some (.slice A0_2 l0_2.length c0_2) ∧ w'.cell? ⟨gb108, 3, none⟩ = some (.slice A0_3 l0_3.length c0_3)) ∧ (Kd.R (Kd.int .u8) 5 w' w.heap.size (fun _ => True) s_.1 y114) ∧ (w'.heap[gb108]? = some (.cells #[.int .i64 a0_0, .int .i64 a0_1, .slice A0_2 l0_2.length c0_2, .slice A0_3 l0_3.length c0_3] 25 (0, 0))) ∧ (w'.heap[gb109]? = some (.cells #[.int .i64 0, .int .i64 0, .slice none 0 0, .slice none 0 0] 25 (0, 0))) ∧ (w'.heap[s_.2]? = some (.cells #[.int .i64 0, .int .i64 0, .slice none 0 0, .slice none 0 0] 25 (0, 0))) ∧ (w.heap.size ≤ s_.2) ∧ (w.heap.size ≤ s_.2) ∧ (gb108 ≠ s_.2) ∧ (s_.2 ≠ gb108) ∧ (gb109 ≠ s_.2) ∧ (s_.2 ≠ gb109) ∧ (Below w.heap.size w w')) ?_ ?_
                                rotate_left
                                · intro hJ4_15
                                  refine join_ (σ := Value × Nat) 5 #[true, true, true, true, false, true, true, true, true, false, true, true, true, false, false, true, false] (fun s_ => [(32, s_.1), (7, .pointer (some ⟨s_.2, 0, none⟩))]) (fun s_ w' => (w'.cell? ⟨gb108, 0, none⟩ = some (.int .i64 a0_0) ∧ w'.cell? ⟨gb108, 1, none⟩ = some (.int .i64 a0_1) ∧ w'.cell? ⟨gb108, 2, none⟩ = some (.slice A0_2 l0_2.length c0_2) ∧ w'.cell? ⟨gb108, 3, none⟩ = some (.slice A0_3 l0_3.length c0_3)) ∧ (Kd.R k70 70 w' w.heap.size (fun _ => True) s_.1 y121) ∧ (w'.heap[gb108]? = some (.cells #[.int .i64 a0_0, .int .i64 a0_1, .slice A0_2 l0_2.length c0_2, .slice A0_3 l0_3.length c0_3] 25 (0, 0))) ∧ (w'.heap[gb109]? = some (.cells #[.int .i64 0, .int .i64 0, .slice none 0 0, .slice none 0 0] 25 (0, 0))) ∧ (w'.heap[s_.2]? = some (.cells #[.int .i64 0, .int .i64 0, .slice none 0 0, .slice none 0 0] 25 (0, 0))) ∧ (w.heap.size ≤ s_.2) ∧ (w.heap.size ≤ s_.2) ∧ (gb108 ≠ s_.2) ∧ (s_.2 ≠ gb108) ∧ (gb109 ≠ s_.2) ∧ (s_.2 ≠ gb109) ∧ (Below w.heap.size w w')) ?_ ?_
                                  rotate_left
                                  · intro hJ10_15
                                    refine join_ (σ := Value) 6 #[true, true, true, true, true, true, true, true, true, false, false, true, true, false, false, false, false] (fun s_ => [(26, s_)]) (fun s_ w' => (w'.cell? ⟨gb108, 0, none⟩ = some (.int .i64 a0_0) ∧ w'.cell? ⟨gb108, 1, none⟩ = some (.int .i64 a0_1) ∧ w'.cell? ⟨gb108, 2, none⟩ = some (.slice A0_2 l0_2.length c0_2) ∧ w'.cell? ⟨gb108, 3, none⟩ = some (.slice A0_3 l0_3.length c0_3)) ∧ (Kd.R (Kd.int .u8) 5 w' w.heap.size (fun _ => True) s_ y114) ∧ (w'.heap[gb108]? = some (.cells #[.int .i64 a0_0, .int .i64 a0_1, .slice A0_2 l0_2.length c0_2, .slice A0_3 l0_3.length c0_3] 25 (0, 0))) ∧ (w'.heap[gb109]? = some (.cells #[.int .i64 0, .int .i64 0, .slice none 0 0, .slice none 0 0] 25 (0, 0))) ∧ (Below w.heap.size w w')) ?_ ?_
                                    rotate_left
                                    · intro hJ4
                                      refine join_ (σ := Value) 6 #[true, true, true, true, false, true, true, true, true, false, true, true, true, false, false, false, false] (fun s_ => [(32, s_)]) (fun s_ w' => (w'.cell? ⟨gb108, 0, none⟩ = some (.int .i64 a0_0) ∧ w'.cell? ⟨gb108, 1, none⟩ = some (.int .i64 a0_1) ∧ w'.cell? ⟨gb108, 2, none⟩ = some (.slice A0_2 l0_2.length c0_2) ∧ w'.cell? ⟨gb108, 3, none⟩ = some (.slice A0_3 l0_3.length c0_3)) ∧ (Kd.R k70 70 w' w.heap.size (fun _ => True) s_ y121) ∧ (w'.heap[gb108]? = some (.cells #[.int .i64 a0_0, .int .i64 a0_1, .slice A0_2 l0_2.length c0_2, .slice A0_3 l0_3.length c0_3] 25 (0, 0))) ∧ (w'.heap[gb109]? = some (.cells #[.int .i64 0, .int .i64 0, .slice none 0 0, .slice none 0 0] 25 (0, 0))) ∧ (Below w.heap.size w w')) ?_ ?_
                                      rotate_left
                                      · intro hJ10
                                        refine join_ (σ := Nat) 6 #[true, true, true, true, false, true, true, true, true, false, false, true, true, false, false, true, false] (fun s_ => [(7, .pointer (some ⟨s_, 0, none⟩))]) (fun s_ w' => (w'.cell? ⟨gb108, 0, none⟩ = some (.int .i64 a0_0) ∧ w'.cell? ⟨gb108, 1, none⟩ = some (.int .i64 a0_1) ∧ w'.cell? ⟨gb108, 2, none⟩ = some (.slice A0_2 l0_2.length c0_2) ∧ w'.cell? ⟨gb108, 3, none⟩ = some (.slice A0_3 l0_3.length c0_3)) ∧ (w'.heap[gb108]? = some (.cells #[.int .i64 a0_0, .int .i64 a0_1, .slice A0_2 l0_2.length c0_2, .slice A0_3 l0_3.length c0_3] 25 (0, 0))) ∧ (w'.heap[gb109]? = some (.cells #[.int .i64 0, .int .i64 0, .slice none 0 0, .slice none 0 0] 25 (0, 0))) ∧ (w'.heap[s_]? = some (.cells #[.int .i64 0, .int .i64 0, .slice none 0 0, .slice none 0 0] 25 (0, 0))) ∧ (w.heap.size ≤ s_) ∧ (w.heap.size ≤ s_) ∧ (gb108 ≠ s_) ∧ (s_ ≠ gb108) ∧ (gb109 ≠ s_) ∧ (s_ ≠ gb109) ∧ (Below w.heap.size w w')) ?_ ?_
                                        rotate_left
                                        · intro hJ15
                                          refine three_ (i := 4) (j := 10) (k := 15) (Ni := some 26) (Nj := some 32) (Nk := some 7) #[true, true, true, true, true, true, true, true, true, false, false, true, true, false, false, false, false] #[true, true, true, true, false, true, true, true, true, false, true, true, true, false, false, false, false] #[true, true, true, true, false, true, true, true, true, false, false, true, true, false, false, true, false] rfl rfl rfl rfl rfl rfl (three_of HT_.out (by kernel_rfl)) (by decide) (by decide) (by decide) (fun K hK => ?_) (fun K hK => ?_) (fun K hK => ?_)
                                          · skip
                                            refine Kd.R_lit_step (Kd.int .u8) _ 5 ?hg (N := 26) ?hd (xs := ([] : List Int)) (inner := []) (ok := fun _ => True) (okp := fun _ => True) ?hr ?hp (fun _ hk => hk) trivial (Below.refl _ _) (Nat.le_refl _) (by simp) ?_; (case hd => rfl); (case hg => rfl); (case hr => first | (go_simp; done) | (go_simp; rfl)); (case hp => exact (Reps.none _ _))
                                            intro v115 w30 ho31 hb hg_ hnew_
                                            clear hg_ hnew_
                                            (first | rw [← Ny114.out] at ho31 | (simp only [Int.reduceToNat] at ho31; rw [← Ny114.out] at ho31))
                                            have n0_ := Aside0.mk (Kd.R_lower ho31 (below_size (hb2_ HB.out GE108.out GE109.out)))
                                            have n1_ := Aside0.mk (blk_below (g := gb108) (o := .cells #[.int .i64 a0_0, .int .i64 a0_1, .slice A0_2 l0_2.length c0_2, .slice A0_3 l0_3.length c0_3] 25 (0, 0)) (kb_ BK108.out) hb)
                                            have n2_ := Aside0.mk (blk_below (g := gb109) (o := .cells #[.int .i64 0, .int .i64 0, .slice none 0 0, .slice none 0 0] 25 (0, 0)) (kb_ BK109.out) hb)
                                            have n3_ := Aside0.mk (below_step (hb2_ HB.out GE108.out GE109.out) hb)
                                            clear BK108
                                            clear BK109
                                            clear HB
                                            have HO116 := n0_
                                            have BK108 := n1_
                                            have BK109 := n2_
                                            have HB := n3_
                                            clear n0_ n1_ n2_ n3_
                                            clear hb ho31
                                            refine hK.out _ _ ⟨(blk_cell BK108.out 0).trans rfl, (blk_cell BK108.out 1).trans rfl, (blk_cell BK108.out 2).trans rfl, (blk_cell BK108.out 3).trans rfl⟩ (fun hHeld => ?_)
                                            clear hK K
                                            refine norm_ (a' := ?_) ?_ ?_
                                            rotate_left
                                            · show Act.put _ (some 26) _ = _
                                              simp only [Act.put, List.setIfInBounds_toArray, List.set_cons_zero, List.set_cons_succ, i64_w, i32_w]
                                              rfl
                                            exact norm_ (by first | (simp only [putAll, Act.put, List.setIfInBounds_toArray, List.set_cons_zero, List.set_cons_succ]; done) | (simp only [putAll, Act.put, List.setIfInBounds_toArray, List.set_cons_zero, List.set_cons_succ]; rfl)) (hJ4 (v115) _ ⟨hHeld, (kR_ HO116.out), (kb_ BK108.out), (kb_ BK109.out), (hb2_ HB.out GE108.out GE109.out)⟩)
                                          · skip
                                            refine Kd.R_lit_step k70 _ 70 ?hg (N := 32) ?hd (xs := ([] : List (S70))) (inner := []) (ok := fun _ => True) (okp := fun _ => True) ?hr ?hp (fun _ hk => hk) trivial (Below.refl _ _) (Nat.le_refl _) (by simp) ?_; (case hd => rfl); (case hg => rfl); (case hr => first | (go_simp; done) | (go_simp; rfl)); (case hp => exact (Reps.none _ _))
                                            intro v122 w30 ho31 hb hg_ hnew_
                                            clear hg_ hnew_
                                            (first | rw [← Ny121.out] at ho31 | (simp only [Int.reduceToNat] at ho31; rw [← Ny121.out] at ho31))
                                            have n0_ := Aside0.mk (Kd.R_lower ho31 (below_size (hb2_ HB.out GE108.out GE109.out)))
                                            have n1_ := Aside0.mk (blk_below (g := gb108) (o := .cells #[.int .i64 a0_0, .int .i64 a0_1, .slice A0_2 l0_2.length c0_2, .slice A0_3 l0_3.length c0_3] 25 (0, 0)) (kb_ BK108.out) hb)
                                            have n2_ := Aside0.mk (blk_below (g := gb109) (o := .cells #[.int .i64 0, .int .i64 0, .slice none 0 0, .slice none 0 0] 25 (0, 0)) (kb_ BK109.out) hb)
                                            have n3_ := Aside0.mk (below_step (hb2_ HB.out GE108.out GE109.out) hb)
                                            clear BK108
                                            clear BK109
                                            clear HB
                                            have HO123 := n0_
                                            have BK108 := n1_
                                            have BK109 := n2_
                                            have HB := n3_
                                            clear n0_ n1_ n2_ n3_
                                            clear hb ho31
                                            refine hK.out _ _ ⟨(blk_cell BK108.out 0).trans rfl, (blk_cell BK108.out 1).trans rfl, (blk_cell BK108.out 2).trans rfl, (blk_cell BK108.out 3).trans rfl⟩ (fun hHeld => ?_)
                                            clear hK K
                                            refine norm_ (a' := ?_) ?_ ?_
                                            rotate_left
                                            · show Act.put _ (some 32) _ = _
                                              simp only [Act.put, List.setIfInBounds_toArray, List.set_cons_zero, List.set_cons_succ, i64_w, i32_w]
                                              rfl
                                            exact norm_ (by first | (simp only [putAll, Act.put, List.setIfInBounds_toArray, List.set_cons_zero, List.set_cons_succ]; done) | (simp only [putAll, Act.put, List.setIfInBounds_toArray, List.set_cons_zero, List.set_cons_succ]; rfl)) (hJ10 (v122) _ ⟨hHeld, (kR_ HO123.out), (kb_ BK108.out), (kb_ BK109.out), (hb2_ HB.out GE108.out GE109.out)⟩)
                                          · skip
                                            refine box_step ?hg (N := 7) ?hd (cs := #[.int .i64 0, .int .i64 0, .slice none 0 0, .slice none 0 0]) (t := 25) ?hr ?_; (case hd => rfl); (case hg => rfl); (case hr => first | (go_simp; done) | (go_simp; rfl))
                                            intro gb127 hg w30 hbox hb
                                            have n0_ := Aside0.mk (blk_below (g := gb108) (o := .cells #[.int .i64 a0_0, .int .i64 a0_1, .slice A0_2 l0_2.length c0_2, .slice A0_3 l0_3.length c0_3] 25 (0, 0)) (kb_ BK108.out) hb)
                                            have n1_ := Aside0.mk (blk_below (g := gb109) (o := .cells #[.int .i64 0, .int .i64 0, .slice none 0 0, .slice none 0 0] 25 (0, 0)) (kb_ BK109.out) hb)
                                            have n2_ := Aside0.mk (below_step (hb2_ HB.out GE108.out GE109.out) hb)
                                            have n3_ := Aside0.mk (hbox)
                                            have n4_ := Aside0.mk ((by rw [hg]; exact (below_size (hb2_ HB.out GE108.out GE109.out)) : w.heap.size ≤ gb127))
                                            have n5_ := Aside0.mk ((by rw [hg]; exact (below_size (hb2_ HB.out GE108.out GE109.out)) : w.heap.size ≤ gb127))
                                            have n6_ := Aside0.mk ((by rw [hg]; exact Nat.ne_of_lt (blk_lt (g := gb108) (o := .cells #[.int .i64 a0_0, .int .i64 a0_1, .slice A0_2 l0_2.length c0_2, .slice A0_3 l0_3.length c0_3] 25 (0, 0)) (kb_ BK108.out)) : gb108 ≠ gb127))
                                            have n7_ := Aside0.mk ((by rw [hg]; exact Nat.ne_of_gt (blk_lt (g := gb108) (o := .cells #[.int .i64 a0_0, .int .i64 a0_1, .slice A0_2 l0_2.length c0_2, .slice A0_3 l0_3.length c0_3] 25 (0, 0)) (kb_ BK108.out)) : gb127 ≠ gb108))
                                            have n8_ := Aside0.mk ((by rw [hg]; exact Nat.ne_of_lt (blk_lt (g := gb109) (o := .cells #[.int .i64 0, .int .i64 0, .slice none 0 0, .slice none 0 0] 25 (0, 0)) (kb_ BK109.out)) : gb109 ≠ gb127))
                                            have n9_ := Aside0.mk ((by rw [hg]; exact Nat.ne_of_gt (blk_lt (g := gb109) (o := .cells #[.int .i64 0, .int .i64 0, .slice none 0 0, .slice none 0 0] 25 (0, 0)) (kb_ BK109.out)) : gb127 ≠ gb109))
                                            clear BK108
                                            clear BK109
                                            clear HB
                                            have BK108 := n0_
                                            have BK109 := n1_
                                            have HB := n2_
                                            have BK127 := n3_
                                            have GW127 := n4_
                                            have GE127 := n5_
                                            have NB108_127 := n6_
                                            have NB127_108 := n7_
                                            have NB109_127 := n8_
                                            have NB127_109 := n9_
                                            clear n0_ n1_ n2_ n3_ n4_ n5_ n6_ n7_ n8_ n9_
                                            clear hb hbox hg
                                            refine hK.out _ _ ⟨(blk_cell BK108.out 0).trans rfl, (blk_cell BK108.out 1).trans rfl, (blk_cell BK108.out 2).trans rfl, (blk_cell BK108.out 3).trans rfl⟩ (fun hHeld => ?_)
                                            clear hK K
                                            refine norm_ (a' := ?_) ?_ ?_
                                            rotate_left
                                            · show Act.put _ (some 7) _ = _
                                              simp only [Act.put, List.setIfInBounds_toArray, List.set_cons_zero, List.set_cons_succ, i64_w, i32_w]
                                              rfl
                                            exact norm_ (by first | (simp only [putAll, Act.put, List.setIfInBounds_toArray, List.set_cons_zero, List.set_cons_succ]; done) | (simp only [putAll, Act.put, List.setIfInBounds_toArray, List.set_cons_zero, List.set_cons_succ]; rfl)) (hJ15 (gb127) _ ⟨hHeld, (kb_ BK108.out), (kb_ BK109.out), (kb_ BK127.out), GW127.out, GE127.out, NB108_127.out, NB127_108.out, NB109_127.out, NB127_109.out, (hb3_ HB.out GE108.out GE109.out GE127.out)⟩)
                                        · skip
                                          rintro gb127 w31 ⟨hS_, h0_, h1_, h2_, h3_, h4_, h5_, h6_, h7_, h8_, h9_⟩
                                          have n0_ : Aside0 (w31.heap[gb108]? = some (.cells #[.int .i64 a0_0, .int .i64 a0_1, .slice A0_2 l0_2.length c0_2, .slice A0_3 l0_3.length c0_3] 25 (0, 0))) := ⟨h0_⟩
                                          have n1_ : Aside0 (w31.heap[gb109]? = some (.cells #[.int .i64 0, .int .i64 0, .slice none 0 0, .slice none 0 0] 25 (0, 0))) := ⟨h1_⟩
                                          have n2_ : Aside0 (w31.heap[gb127]? = some (.cells #[.int .i64 0, .int .i64 0, .slice none 0 0, .slice none 0 0] 25 (0, 0))) := ⟨h2_⟩
                                          have n3_ : Aside0 (w.heap.size ≤ gb127) := ⟨h3_⟩
                                          have n4_ : Aside0 (w.heap.size ≤ gb127) := ⟨h4_⟩
                                          have n5_ : Aside0 (gb108 ≠ gb127) := ⟨h5_⟩
                                          have n6_ : Aside0 (gb127 ≠ gb108) := ⟨h6_⟩
                                          have n7_ : Aside0 (gb109 ≠ gb127) := ⟨h7_⟩
                                          have n8_ : Aside0 (gb127 ≠ gb109) := ⟨h8_⟩
                                          have n9_ : Aside0 (Below w.heap.size w w31) := ⟨h9_⟩
                                          clear BK108
                                          clear BK109
                                          clear HB
                                          clear h0_ h1_ h2_ h3_ h4_ h5_ h6_ h7_ h8_ h9_
                                          have BK108 := n0_
                                          have BK109 := n1_
                                          have BK127 := n2_
                                          have GW127 := n3_
                                          have GE127 := n4_
                                          have NB108_127 := n5_
                                          have NB127_108 := n6_
                                          have NB109_127 := n7_
                                          have NB127_109 := n8_
                                          have HB := n9_
                                          clear n0_ n1_ n2_ n3_ n4_ n5_ n6_ n7_ n8_ n9_
                                          have hHeld : w31.cell? ⟨gb108, 0, none⟩ = some (.int .i64 a0_0) ∧ w31.cell? ⟨gb108, 1, none⟩ = some (.int .i64 a0_1) ∧ w31.cell? ⟨gb108, 2, none⟩ = some (.slice A0_2 l0_2.length c0_2) ∧ w31.cell? ⟨gb108, 3, none⟩ = some (.slice A0_3 l0_3.length c0_3) := hS_
                                          refine norm_ (a' := ?_) ?_ ?_
                                          rotate_left
                                          · simp only [putAll, Act.put, List.setIfInBounds_toArray, List.set_cons_zero, List.set_cons_succ]
                                            rfl
                                          refine two_ (i := 4) (j := 10) (Ni := some 26) (Nj := some 32) #[true, true, true, true, true, true, true, true, true, false, false, true, true, false, false, true, false] #[true, true, true, true, false, true, true, true, true, false, true, true, true, false, false, true, false] rfl rfl rfl rfl (two_of HT_.out (by kernel_rfl)) (by decide) (by decide) (fun K hK => ?_) (fun K hK => ?_)
                                          · skip
                                            refine Kd.R_lit_step (Kd.int .u8) _ 5 ?hg (N := 26) ?hd (xs := ([] : List Int)) (inner := []) (ok := fun _ => True) (okp := fun _ => True) ?hr ?hp (fun _ hk => hk) trivial (Below.refl _ _) (Nat.le_refl _) (by simp) ?_; (case hd => rfl); (case hg => rfl); (case hr => first | (go_simp; done) | (go_simp; rfl)); (case hp => exact (Reps.none _ _))
                                            intro v115 w32 ho33 hb hg_ hnew_
                                            clear hg_ hnew_
                                            (first | rw [← Ny114.out] at ho33 | (simp only [Int.reduceToNat] at ho33; rw [← Ny114.out] at ho33))
                                            have n0_ := Aside0.mk (Kd.R_lower ho33 (below_size (hb3_ HB.out GE108.out GE109.out GE127.out)))
                                            have n1_ := Aside0.mk (blk_below (g := gb108) (o := .cells #[.int .i64 a0_0, .int .i64 a0_1, .slice A0_2 l0_2.length c0_2, .slice A0_3 l0_3.length c0_3] 25 (0, 0)) (kb_ BK108.out) hb)
                                            have n2_ := Aside0.mk (blk_below (g := gb109) (o := .cells #[.int .i64 0, .int .i64 0, .slice none 0 0, .slice none 0 0] 25 (0, 0)) (kb_ BK109.out) hb)
                                            have n3_ := Aside0.mk (blk_below (g := gb127) (o := .cells #[.int .i64 0, .int .i64 0, .slice none 0 0, .slice none 0 0] 25 (0, 0)) (kb_ BK127.out) hb)
                                            have n4_ := Aside0.mk (below_step (hb3_ HB.out GE108.out GE109.out GE127.out) hb)
                                            clear BK108
                                            clear BK109
                                            clear BK127
                                            clear HB
                                            have HO116 := n0_
                                            have BK108 := n1_
                                            have BK109 := n2_
                                            have BK127 := n3_
                                            have HB := n4_
                                            clear n0_ n1_ n2_ n3_ n4_
                                            clear hb ho33
                                            refine hK.out _ _ ⟨(blk_cell BK108.out 0).trans rfl, (blk_cell BK108.out 1).trans rfl, (blk_cell BK108.out 2).trans rfl, (blk_cell BK108.out 3).trans rfl⟩ (fun hHeld => ?_)
                                            clear hK K
                                            refine norm_ (a' := ?_) ?_ ?_
                                            rotate_left
                                            · show Act.put _ (some 26) _ = _
                                              simp only [Act.put, List.setIfInBounds_toArray, List.set_cons_zero, List.set_cons_succ, i64_w, i32_w]
                                              rfl
                                            exact norm_ (by first | (simp only [putAll, Act.put, List.setIfInBounds_toArray, List.set_cons_zero, List.set_cons_succ]; done) | (simp only [putAll, Act.put, List.setIfInBounds_toArray, List.set_cons_zero, List.set_cons_succ]; rfl)) (hJ4_15 (v115, gb127) _ ⟨hHeld, (kR_ HO116.out), (kb_ BK108.out), (kb_ BK109.out), (kb_ BK127.out), GW127.out, GE127.out, NB108_127.out, NB127_108.out, NB109_127.out, NB127_109.out, (hb3_ HB.out GE108.out GE109.out GE127.out)⟩)
                                          · skip
                                            refine Kd.R_lit_step k70 _ 70 ?hg (N := 32) ?hd (xs := ([] : List (S70))) (inner := []) (ok := fun _ => True) (okp := fun _ => True) ?hr ?hp (fun _ hk => hk) trivial (Below.refl _ _) (Nat.le_refl _) (by simp) ?_; (case hd => rfl); (case hg => rfl); (case hr => first | (go_simp; done) | (go_simp; rfl)); (case hp => exact (Reps.none _ _))
                                            intro v122 w32 ho33 hb hg_ hnew_
                                            clear hg_ hnew_
                                            (first | rw [← Ny121.out] at ho33 | (simp only [Int.reduceToNat] at ho33; rw [← Ny121.out] at ho33))
                                            have n0_ := Aside0.mk (Kd.R_lower ho33 (below_size (hb3_ HB.out GE108.out GE109.out GE127.out)))
                                            have n1_ := Aside0.mk (blk_below (g := gb108) (o := .cells #[.int .i64 a0_0, .int .i64 a0_1, .slice A0_2 l0_2.length c0_2, .slice A0_3 l0_3.length c0_3] 25 (0, 0)) (kb_ BK108.out) hb)
                                            have n2_ := Aside0.mk (blk_below (g := gb109) (o := .cells #[.int .i64 0, .int .i64 0, .slice none 0 0, .slice none 0 0] 25 (0, 0)) (kb_ BK109.out) hb)
                                            have n3_ := Aside0.mk (blk_below (g := gb127) (o := .cells #[.int .i64 0, .int .i64 0, .slice none 0 0, .slice none 0 0] 25 (0, 0)) (kb_ BK127.out) hb)
                                            have n4_ := Aside0.mk (below_step (hb3_ HB.out GE108.out GE109.out GE127.out) hb)
                                            clear BK108
                                            clear BK109
                                            clear BK127
                                            clear HB
                                            have HO123 := n0_
                                            have BK108 := n1_
                                            have BK109 := n2_
                                            have BK127 := n3_
                                            have HB := n4_
                                            clear n0_ n1_ n2_ n3_ n4_
                                            clear hb ho33
                                            refine hK.out _ _ ⟨(blk_cell BK108.out 0).trans rfl, (blk_cell BK108.out 1).trans rfl, (blk_cell BK108.out 2).trans rfl, (blk_cell BK108.out 3).trans rfl⟩ (fun hHeld => ?_)
                                            clear hK K
                                            refine norm_ (a' := ?_) ?_ ?_
                                            rotate_left
                                            · show Act.put _ (some 32) _ = _
                                              simp only [Act.put, List.setIfInBounds_toArray, List.set_cons_zero, List.set_cons_succ, i64_w, i32_w]
                                              rfl
                                            exact norm_ (by first | (simp only [putAll, Act.put, List.setIfInBounds_toArray, List.set_cons_zero, List.set_cons_succ]; done) | (simp only [putAll, Act.put, List.setIfInBounds_toArray, List.set_cons_zero, List.set_cons_succ]; rfl)) (hJ10_15 (v122, gb127) _ ⟨hHeld, (kR_ HO123.out), (kb_ BK108.out), (kb_ BK109.out), (kb_ BK127.out), GW127.out, GE127.out, NB108_127.out, NB127_108.out, NB109_127.out, NB127_109.out, (hb3_ HB.out GE108.out GE109.out GE127.out)⟩)
                                      · skip
                                        rintro v122 w32 ⟨hS_, h0_, h1_, h2_, h3_⟩
                                        have n0_ : Aside0 (Kd.R k70 70 w32 w.heap.size (fun _ => True) v122 y121) := ⟨h0_⟩
                                        have n1_ : Aside0 (w32.heap[gb108]? = some (.cells #[.int .i64 a0_0, .int .i64 a0_1, .slice A0_2 l0_2.length c0_2, .slice A0_3 l0_3.length c0_3] 25 (0, 0))) := ⟨h1_⟩
                                        have n2_ : Aside0 (w32.heap[gb109]? = some (.cells #[.int .i64 0, .int .i64 0, .slice none 0 0, .slice none 0 0] 25 (0, 0))) := ⟨h2_⟩
                                        have n3_ : Aside0 (Below w.heap.size w w32) := ⟨h3_⟩
                                        clear BK108
                                        clear BK109
                                        clear HB
                                        clear h0_ h1_ h2_ h3_
                                        have HO123 := n0_
                                        have BK108 := n1_
                                        have BK109 := n2_
                                        have HB := n3_
                                        clear n0_ n1_ n2_ n3_
                                        have hHeld : w32.cell? ⟨gb108, 0, none⟩ = some (.int .i64 a0_0) ∧ w32.cell? ⟨gb108, 1, none⟩ = some (.int .i64 a0_1) ∧ w32.cell? ⟨gb108, 2, none⟩ = some (.slice A0_2 l0_2.length c0_2) ∧ w32.cell? ⟨gb108, 3, none⟩ = some (.slice A0_3 l0_3.length c0_3) := hS_
                                        refine norm_ (a' := ?_) ?_ ?_
                                        rotate_left
                                        · simp only [putAll, Act.put, List.setIfInBounds_toArray, List.set_cons_zero, List.set_cons_succ]
                                          rfl
                                        refine two_ (i := 4) (j := 15) (Ni := some 26) (Nj := some 7) #[true, true, true, true, true, true, true, true, true, false, true, true, true, false, false, false, false] #[true, true, true, true, false, true, true, true, true, false, true, true, true, false, false, true, false] rfl rfl rfl rfl (two_of HT_.out (by kernel_rfl)) (by decide) (by decide) (fun K hK => ?_) (fun K hK => ?_)
                                        · skip
                                          refine Kd.R_lit_step (Kd.int .u8) _ 5 ?hg (N := 26) ?hd (xs := ([] : List Int)) (inner := []) (ok := fun _ => True) (okp := fun _ => True) ?hr ?hp (fun _ hk => hk) trivial (Below.refl _ _) (Nat.le_refl _) (by simp) ?_; (case hd => rfl); (case hg => rfl); (case hr => first | (go_simp; done) | (go_simp; rfl)); (case hp => exact (Reps.none _ _))
                                          intro v115 w33 ho34 hb hg_ hnew_
                                          clear hg_ hnew_
                                          (first | rw [← Ny114.out] at ho34 | (simp only [Int.reduceToNat] at ho34; rw [← Ny114.out] at ho34))
                                          have n0_ := Aside0.mk (Kd.R_below (kR_ HO123.out) hb)
                                          have n1_ := Aside0.mk (Kd.R_lower ho34 (below_size (hb2_ HB.out GE108.out GE109.out)))
                                          have n2_ := Aside0.mk (blk_below (g := gb108) (o := .cells #[.int .i64 a0_0, .int .i64 a0_1, .slice A0_2 l0_2.length c0_2, .slice A0_3 l0_3.length c0_3] 25 (0, 0)) (kb_ BK108.out) hb)
                                          have n3_ := Aside0.mk (blk_below (g := gb109) (o := .cells #[.int .i64 0, .int .i64 0, .slice none 0 0, .slice none 0 0] 25 (0, 0)) (kb_ BK109.out) hb)
                                          have n4_ := Aside0.mk (below_step (hb2_ HB.out GE108.out GE109.out) hb)
                                          clear HO123
                                          clear BK108
                                          clear BK109
                                          clear HB
                                          have HO123 := n0_
                                          have HO116 := n1_
                                          have BK108 := n2_
                                          have BK109 := n3_
                                          have HB := n4_
                                          clear n0_ n1_ n2_ n3_ n4_
                                          clear hb ho34
                                          refine hK.out _ _ ⟨(blk_cell BK108.out 0).trans rfl, (blk_cell BK108.out 1).trans rfl, (blk_cell BK108.out 2).trans rfl, (blk_cell BK108.out 3).trans rfl⟩ (fun hHeld => ?_)
                                          clear hK K
                                          refine norm_ (a' := ?_) ?_ ?_
                                          rotate_left
                                          · show Act.put _ (some 26) _ = _
                                            simp only [Act.put, List.setIfInBounds_toArray, List.set_cons_zero, List.set_cons_succ, i64_w, i32_w]
                                            rfl
                                          exact norm_ (by first | (simp only [putAll, Act.put, List.setIfInBounds_toArray, List.set_cons_zero, List.set_cons_succ]; done) | (simp only [putAll, Act.put, List.setIfInBounds_toArray, List.set_cons_zero, List.set_cons_succ]; rfl)) (hJ4_10 (v115, v122) _ ⟨hHeld, (kR_ HO116.out), (kR_ HO123.out), (kb_ BK108.out), (kb_ BK109.out), (hb2_ HB.out GE108.out GE109.out)⟩)
                                        · skip
                                          refine box_step ?hg (N := 7) ?hd (cs := #[.int .i64 0, .int .i64 0, .slice none 0 0, .slice none 0 0]) (t := 25) ?hr ?_; (case hd => rfl); (case hg => rfl); (case hr => first | (go_simp; done) | (go_simp; rfl))
                                          intro gb127 hg w33 hbox hb
                                          have n0_ := Aside0.mk (Kd.R_below (kR_ HO123.out) hb)
                                          have n1_ := Aside0.mk (blk_below (g := gb108) (o := .cells #[.int .i64 a0_0, .int .i64 a0_1, .slice A0_2 l0_2.length c0_2, .slice A0_3 l0_3.length c0_3] 25 (0, 0)) (kb_ BK108.out) hb)
                                          have n2_ := Aside0.mk (blk_below (g := gb109) (o := .cells #[.int .i64 0, .int .i64 0, .slice none 0 0, .slice none 0 0] 25 (0, 0)) (kb_ BK109.out) hb)
                                          have n3_ := Aside0.mk (below_step (hb2_ HB.out GE108.out GE109.out) hb)
                                          have n4_ := Aside0.mk (hbox)
                                          have n5_ := Aside0.mk ((by rw [hg]; exact (below_size (hb2_ HB.out GE108.out GE109.out)) : w.heap.size ≤ gb127))
                                          have n6_ := Aside0.mk ((by rw [hg]; exact (below_size (hb2_ HB.out GE108.out GE109.out)) : w.heap.size ≤ gb127))
                                          have n7_ := Aside0.mk ((by rw [hg]; exact Nat.ne_of_lt (blk_lt (g := gb108) (o := .cells #[.int .i64 a0_0, .int .i64 a0_1, .slice A0_2 l0_2.length c0_2, .slice A0_3 l0_3.length c0_3] 25 (0, 0)) (kb_ BK108.out)) : gb108 ≠ gb127))
                                          have n8_ := Aside0.mk ((by rw [hg]; exact Nat.ne_of_gt (blk_lt (g := gb108) (o := .cells #[.int .i64 a0_0, .int .i64 a0_1, .slice A0_2 l0_2.length c0_2, .slice A0_3 l0_3.length c0_3] 25 (0, 0)) (kb_ BK108.out)) : gb127 ≠ gb108))
                                          have n9_ := Aside0.mk ((by rw [hg]; exact Nat.ne_of_lt (blk_lt (g := gb109) (o := .cells #[.int .i64 0, .int .i64 0, .slice none 0 0, .slice none 0 0] 25 (0, 0)) (kb_ BK109.out)) : gb109 ≠ gb127))
                                          have n10_ := Aside0.mk ((by rw [hg]; exact Nat.ne_of_gt (blk_lt (g := gb109) (o := .cells #[.int .i64 0, .int .i64 0, .slice none 0 0, .slice none 0 0] 25 (0, 0)) (kb_ BK109.out)) : gb127 ≠ gb109))
                                          clear HO123
                                          clear BK108
                                          clear BK109
                                          clear HB
                                          have HO123 := n0_
                                          have BK108 := n1_
                                          have BK109 := n2_
                                          have HB := n3_
                                          have BK127 := n4_
                                          have GW127 := n5_
                                          have GE127 := n6_
                                          have NB108_127 := n7_
                                          have NB127_108 := n8_
                                          have NB109_127 := n9_
                                          have NB127_109 := n10_
                                          clear n0_ n1_ n2_ n3_ n4_ n5_ n6_ n7_ n8_ n9_ n10_
                                          clear hb hbox hg
                                          refine hK.out _ _ ⟨(blk_cell BK108.out 0).trans rfl, (blk_cell BK108.out 1).trans rfl, (blk_cell BK108.out 2).trans rfl, (blk_cell BK108.out 3).trans rfl⟩ (fun hHeld => ?_)
                                          clear hK K
                                          refine norm_ (a' := ?_) ?_ ?_
                                          rotate_left
                                          · show Act.put _ (some 7) _ = _
                                            simp only [Act.put, List.setIfInBounds_toArray, List.set_cons_zero, List.set_cons_succ, i64_w, i32_w]
                                            rfl
                                          exact norm_ (by first | (simp only [putAll, Act.put, List.setIfInBounds_toArray, List.set_cons_zero, List.set_cons_succ]; done) | (simp only [putAll, Act.put, List.setIfInBounds_toArray, List.set_cons_zero, List.set_cons_succ]; rfl)) (hJ10_15 (v122, gb127) _ ⟨hHeld, (kR_ HO123.out), (kb_ BK108.out), (kb_ BK109.out), (kb_ BK127.out), GW127.out, GE127.out, NB108_127.out, NB127_108.out, NB109_127.out, NB127_109.out, (hb3_ HB.out GE108.out GE109.out GE127.out)⟩)
                                    · skip
                                      rintro v115 w32 ⟨hS_, h0_, h1_, h2_, h3_⟩
                                      have n0_ : Aside0 (Kd.R (Kd.int .u8) 5 w32 w.heap.size (fun _ => True) v115 y114) := ⟨h0_⟩
                                      have n1_ : Aside0 (w32.heap[gb108]? = some (.cells #[.int .i64 a0_0, .int .i64 a0_1, .slice A0_2 l0_2.length c0_2, .slice A0_3 l0_3.length c0_3] 25 (0, 0))) := ⟨h1_⟩
                                      have n2_ : Aside0 (w32.heap[gb109]? = some (.cells #[.int .i64 0, .int .i64 0, .slice none 0 0, .slice none 0 0] 25 (0, 0))) := ⟨h2_⟩
                                      have n3_ : Aside0 (Below w.heap.size w w32) := ⟨h3_⟩
                                      clear BK108
                                      clear BK109
                                      clear HB
                                      clear h0_ h1_ h2_ h3_
                                      have HO116 := n0_
                                      have BK108 := n1_
                                      have BK109 := n2_
                                      have HB := n3_
                                      clear n0_ n1_ n2_ n3_
                                      have hHeld : w32.cell? ⟨gb108, 0, none⟩ = some (.int .i64 a0_0) ∧ w32.cell? ⟨gb108, 1, none⟩ = some (.int .i64 a0_1) ∧ w32.cell? ⟨gb108, 2, none⟩ = some (.slice A0_2 l0_2.length c0_2) ∧ w32.cell? ⟨gb108, 3, none⟩ = some (.slice A0_3 l0_3.length c0_3) := hS_
                                      refine norm_ (a' := ?_) ?_ ?_
                                      rotate_left
                                      · simp only [putAll, Act.put, List.setIfInBounds_toArray, List.set_cons_zero, List.set_cons_succ]
                                        rfl
                                      refine three_ (i := 9) (j := 10) (k := 15) (Ni := some 31) (Nj := some 32) (Nk := some 7) #[true, true, true, true, true, true, true, true, true, true, false, true, true, false, false, false, false] #[true, true, true, true, true, true, true, true, true, false, true, true, true, false, false, false, false] #[true, true, true, true, true, true, true, true, true, false, false, true, true, false, false, true, false] rfl rfl rfl rfl rfl rfl (three_of HT_.out (by kernel_rfl)) (by decide) (by decide) (by decide) (fun K hK => ?_) (fun K hK => ?_) (fun K hK => ?_)
                                      · skip
                                        refine Kd.R_append_rows_step (Kd.int .u8) (w0 := w) w.heap.size (by rfl) (.tmp 26) (.tmp 30) 22 5 (.int .u8 0) 1 rfl Try.underlying22 info5 rfl (by decide) (by omega) v115 y114 (l0_2.drop ((ji14) : Int).toNat) _ _ _ (fun _ => True) (fun _ => False) rfl rfl ?aO ?aR (fun _ _ h => h) (fun _ h => h.elim) ?aF ?aB ?aS ?aL ?_
                                        (case aR => first | (refine len_ (show (l0_2.drop ((ji14) : Int).toNat).length = (l0_2.length - (ji14).toNat) from List.length_drop) ?_; repeat (first | exact (Kd.C_below HR117.out HB.out) | (with_reducible refine Kd.C_alloc ?_ _) | (with_reducible refine Kd.C_drewN ?_ _) | (with_reducible refine Kd.C_drew ?_)); done) | (repeat (first | exact (Kd.C_below HR117.out HB.out) | (with_reducible refine Kd.C_alloc ?_ _) | (with_reducible refine Kd.C_drewN ?_ _) | (with_reducible refine Kd.C_drew ?_))))
                                        (case aB => exact (hb2_ HB.out GE108.out GE109.out))
                                        (case aF => exact (fun _ _ => trivial))
                                        (case aO => exact (kR_ HO116.out))
                                        (case aS => exact (below_size (hb2_ HB.out GE108.out GE109.out)))
                                        (case aL => have := LMc17.out; have hlx_ := (show (l0_2.drop ((ji14) : Int).toNat).length = (l0_2.length - (ji14).toNat) from List.length_drop); omega)
                                        intro v119 w33 ho hb hg hat
                                        rw [← Ny118.out] at ho
                                        have n0_ := Aside0.mk (blk_grown (g := gb108) (o := .cells #[.int .i64 a0_0, .int .i64 a0_1, .slice A0_2 l0_2.length c0_2, .slice A0_3 l0_3.length c0_3] 25 (0, 0)) (kb_ BK108.out) hg (Kd.R_ne HO116.out BK108.out (by decide)))
                                        have n1_ := Aside0.mk (blk_grown (g := gb109) (o := .cells #[.int .i64 0, .int .i64 0, .slice none 0 0, .slice none 0 0] 25 (0, 0)) (kb_ BK109.out) hg (Kd.R_ne HO116.out BK109.out (by decide)))
                                        have n2_ := Aside0.mk (hb)
                                        have n3_ := Aside0.mk (ho)
                                        clear BK108
                                        clear BK109
                                        clear HB
                                        clear HO116
                                        have BK108 := n0_
                                        have BK109 := n1_
                                        have HB := n2_
                                        have HO120 := n3_
                                        clear n0_ n1_ n2_ n3_
                                        clear ho hb hg hat
                                        refine hK.out _ _ ⟨(blk_cell BK108.out 0).trans rfl, (blk_cell BK108.out 1).trans rfl, (blk_cell BK108.out 2).trans rfl, (blk_cell BK108.out 3).trans rfl⟩ (fun hHeld => ?_)
                                        clear hK K
                                        refine norm_ (a' := ?_) ?_ ?_
                                        rotate_left
                                        · show Act.put _ (some 31) _ = _
                                          simp only [Act.put, List.setIfInBounds_toArray, List.set_cons_zero, List.set_cons_succ, i64_w, i32_w]
                                          rfl
                                        exact norm_ (by first | (simp only [putAll, Act.put, List.setIfInBounds_toArray, List.set_cons_zero, List.set_cons_succ]; done) | (simp only [putAll, Act.put, List.setIfInBounds_toArray, List.set_cons_zero, List.set_cons_succ]; rfl)) (hJ4_9 (v115, v119) _ ⟨hHeld, (kR_ HO120.out), (kb_ BK108.out), (kb_ BK109.out), (hb2_ HB.out GE108.out GE109.out)⟩)
                                      · skip
                                        refine Kd.R_lit_step k70 _ 70 ?hg (N := 32) ?hd (xs := ([] : List (S70))) (inner := []) (ok := fun _ => True) (okp := fun _ => True) ?hr ?hp (fun _ hk => hk) trivial (Below.refl _ _) (Nat.le_refl _) (by simp) ?_; (case hd => rfl); (case hg => rfl); (case hr => first | (go_simp; done) | (go_simp; rfl)); (case hp => exact (Reps.none _ _))
                                        intro v122 w33 ho34 hb hg_ hnew_
                                        clear hg_ hnew_
                                        (first | rw [← Ny121.out] at ho34 | (simp only [Int.reduceToNat] at ho34; rw [← Ny121.out] at ho34))
                                        have n0_ := Aside0.mk (Kd.R_below (kR_ HO116.out) hb)
                                        have n1_ := Aside0.mk (Kd.R_lower ho34 (below_size (hb2_ HB.out GE108.out GE109.out)))
                                        have n2_ := Aside0.mk (blk_below (g := gb108) (o := .cells #[.int .i64 a0_0, .int .i64 a0_1, .slice A0_2 l0_2.length c0_2, .slice A0_3 l0_3.length c0_3] 25 (0, 0)) (kb_ BK108.out) hb)
                                        have n3_ := Aside0.mk (blk_below (g := gb109) (o := .cells #[.int .i64 0, .int .i64 0, .slice none 0 0, .slice none 0 0] 25 (0, 0)) (kb_ BK109.out) hb)
                                        have n4_ := Aside0.mk (below_step (hb2_ HB.out GE108.out GE109.out) hb)
                                        clear HO116
                                        clear BK108
                                        clear BK109
                                        clear HB
                                        have HO116 := n0_
                                        have HO123 := n1_
                                        have BK108 := n2_
                                        have BK109 := n3_
                                        have HB := n4_
                                        clear n0_ n1_ n2_ n3_ n4_
                                        clear hb ho34
                                        refine hK.out _ _ ⟨(blk_cell BK108.out 0).trans rfl, (blk_cell BK108.out 1).trans rfl, (blk_cell BK108.out 2).trans rfl, (blk_cell BK108.out 3).trans rfl⟩ (fun hHeld => ?_)
                                        clear hK K
                                        refine norm_ (a' := ?_) ?_ ?_
                                        rotate_left
                                        · show Act.put _ (some 32) _ = _
                                          simp only [Act.put, List.setIfInBounds_toArray, List.set_cons_zero, List.set_cons_succ, i64_w, i32_w]
                                          rfl
                                        exact norm_ (by first | (simp only [putAll, Act.put, List.setIfInBounds_toArray, List.set_cons_zero, List.set_cons_succ]; done) | (simp only [putAll, Act.put, List.setIfInBounds_toArray, List.set_cons_zero, List.set_cons_succ]; rfl)) (hJ4_10 (v115, v122) _ ⟨hHeld, (kR_ HO116.out), (kR_ HO123.out), (kb_ BK108.out), (kb_ BK109.out), (hb2_ HB.out GE108.out GE109.out)⟩)
                                      · skip
                                        refine box_step ?hg (N := 7) ?hd (cs := #[.int .i64 0, .int .i64 0, .slice none 0 0, .slice none 0 0]) (t := 25) ?hr ?_; (case hd => rfl); (case hg => rfl); (case hr => first | (go_simp; done) | (go_simp; rfl))
                                        intro gb127 hg w33 hbox hb
                                        have n0_ := Aside0.mk (Kd.R_below (kR_ HO116.out) hb)
                                        have n1_ := Aside0.mk (blk_below (g := gb108) (o := .cells #[.int .i64 a0_0, .int .i64 a0_1, .slice A0_2 l0_2.length c0_2, .slice A0_3 l0_3.length c0_3] 25 (0, 0)) (kb_ BK108.out) hb)
                                        have n2_ := Aside0.mk (blk_below (g := gb109) (o := .cells #[.int .i64 0, .int .i64 0, .slice none 0 0, .slice none 0 0] 25 (0, 0)) (kb_ BK109.out) hb)
                                        have n3_ := Aside0.mk (below_step (hb2_ HB.out GE108.out GE109.out) hb)
                                        have n4_ := Aside0.mk (hbox)
                                        have n5_ := Aside0.mk ((by rw [hg]; exact (below_size (hb2_ HB.out GE108.out GE109.out)) : w.heap.size ≤ gb127))
                                        have n6_ := Aside0.mk ((by rw [hg]; exact (below_size (hb2_ HB.out GE108.out GE109.out)) : w.heap.size ≤ gb127))
                                        have n7_ := Aside0.mk ((by rw [hg]; exact Nat.ne_of_lt (blk_lt (g := gb108) (o := .cells #[.int .i64 a0_0, .int .i64 a0_1, .slice A0_2 l0_2.length c0_2, .slice A0_3 l0_3.length c0_3] 25 (0, 0)) (kb_ BK108.out)) : gb108 ≠ gb127))
                                        have n8_ := Aside0.mk ((by rw [hg]; exact Nat.ne_of_gt (blk_lt (g := gb108) (o := .cells #[.int .i64 a0_0, .int .i64 a0_1, .slice A0_2 l0_2.length c0_2, .slice A0_3 l0_3.length c0_3] 25 (0, 0)) (kb_ BK108.out)) : gb127 ≠ gb108))
                                        have n9_ := Aside0.mk ((by rw [hg]; exact Nat.ne_of_lt (blk_lt (g := gb109) (o := .cells #[.int .i64 0, .int .i64 0, .slice none 0 0, .slice none 0 0] 25 (0, 0)) (kb_ BK109.out)) : gb109 ≠ gb127))
                                        have n10_ := Aside0.mk ((by rw [hg]; exact Nat.ne_of_gt (blk_lt (g := gb109) (o := .cells #[.int .i64 0, .int .i64 0, .slice none 0 0, .slice none 0 0] 25 (0, 0)) (kb_ BK109.out)) : gb127 ≠ gb109))
                                        clear HO116
                                        clear BK108
                                        clear BK109
                                        clear HB
                                        have HO116 := n0_
                                        have BK108 := n1_
                                        have BK109 := n2_
                                        have HB := n3_
                                        have BK127 := n4_
                                        have GW127 := n5_
                                        have GE127 := n6_
                                        have NB108_127 := n7_
                                        have NB127_108 := n8_
                                        have NB109_127 := n9_
                                        have NB127_109 := n10_
                                        clear n0_ n1_ n2_ n3_ n4_ n5_ n6_ n7_ n8_ n9_ n10_
                                        clear hb hbox hg
                                        refine hK.out _ _ ⟨(blk_cell BK108.out 0).trans rfl, (blk_cell BK108.out 1).trans rfl, (blk_cell BK108.out 2).trans rfl, (blk_cell BK108.out 3).trans rfl⟩ (fun hHeld => ?_)
                                        clear hK K
                                        refine norm_ (a' := ?_) ?_ ?_
                                        rotate_left
                                        · show Act.put _ (some 7) _ = _
                                          simp only [Act.put, List.setIfInBounds_toArray, List.set_cons_zero, List.set_cons_succ, i64_w, i32_w]
                                          rfl
                                        exact norm_ (by first | (simp only [putAll, Act.put, List.setIfInBounds_toArray, List.set_cons_zero, List.set_cons_succ]; done) | (simp only [putAll, Act.put, List.setIfInBounds_toArray, List.set_cons_zero, List.set_cons_succ]; rfl)) (hJ4_15 (v115, gb127) _ ⟨hHeld, (kR_ HO116.out), (kb_ BK108.out), (kb_ BK109.out), (kb_ BK127.out), GW127.out, GE127.out, NB108_127.out, NB127_108.out, NB109_127.out, NB127_109.out, (hb3_ HB.out GE108.out GE109.out GE127.out)⟩)
                                  · skip
                                    rintro ⟨v122, gb127⟩ w33 ⟨hS_, h0_, h1_, h2_, h3_, h4_, h5_, h6_, h7_, h8_, h9_, h10_⟩
                                    have n0_ : Aside0 (Kd.R k70 70 w33 w.heap.size (fun _ => True) v122 y121) := ⟨h0_⟩
                                    have n1_ : Aside0 (w33.heap[gb108]? = some (.cells #[.int .i64 a0_0, .int .i64 a0_1, .slice A0_2 l0_2.length c0_2, .slice A0_3 l0_3.length c0_3] 25 (0, 0))) := ⟨h1_⟩
                                    have n2_ : Aside0 (w33.heap[gb109]? = some (.cells #[.int .i64 0, .int .i64 0, .slice none 0 0, .slice none 0 0] 25 (0, 0))) := ⟨h2_⟩
                                    have n3_ : Aside0 (w33.heap[gb127]? = some (.cells #[.int .i64 0, .int .i64 0, .slice none 0 0, .slice none 0 0] 25 (0, 0))) := ⟨h3_⟩
                                    have n4_ : Aside0 (w.heap.size ≤ gb127) := ⟨h4_⟩
                                    have n5_ : Aside0 (w.heap.size ≤ gb127) := ⟨h5_⟩
                                    have n6_ : Aside0 (gb108 ≠ gb127) := ⟨h6_⟩
                                    have n7_ : Aside0 (gb127 ≠ gb108) := ⟨h7_⟩
                                    have n8_ : Aside0 (gb109 ≠ gb127) := ⟨h8_⟩
                                    have n9_ : Aside0 (gb127 ≠ gb109) := ⟨h9_⟩
                                    have n10_ : Aside0 (Below w.heap.size w w33) := ⟨h10_⟩
                                    clear BK108
                                    clear BK109
                                    clear HB
                                    clear h0_ h1_ h2_ h3_ h4_ h5_ h6_ h7_ h8_ h9_ h10_
                                    have HO123 := n0_
                                    have BK108 := n1_
                                    have BK109 := n2_
                                    have BK127 := n3_
                                    have GW127 := n4_
                                    have GE127 := n5_
                                    have NB108_127 := n6_
                                    have NB127_108 := n7_
                                    have NB109_127 := n8_
                                    have NB127_109 := n9_
                                    have HB := n10_
                                    clear n0_ n1_ n2_ n3_ n4_ n5_ n6_ n7_ n8_ n9_ n10_
                                    have hHeld : w33.cell? ⟨gb108, 0, none⟩ = some (.int .i64 a0_0) ∧ w33.cell? ⟨gb108, 1, none⟩ = some (.int .i64 a0_1) ∧ w33.cell? ⟨gb108, 2, none⟩ = some (.slice A0_2 l0_2.length c0_2) ∧ w33.cell? ⟨gb108, 3, none⟩ = some (.slice A0_3 l0_3.length c0_3) := hS_
                                    refine norm_ (a' := ?_) ?_ ?_
                                    rotate_left
                                    · simp only [putAll, Act.put, List.setIfInBounds_toArray, List.set_cons_zero, List.set_cons_succ]
                                      rfl
                                    refine one_ (i := 4) (N := some 26) #[true, true, true, true, true, true, true, true, true, false, true, true, true, false, false, true, false] rfl rfl (one_of HT_.out (by kernel_rfl)) (by decide) (fun K hK => ?_)
                                    refine Kd.R_lit_step (Kd.int .u8) _ 5 ?hg (N := 26) ?hd (xs := ([] : List Int)) (inner := []) (ok := fun _ => True) (okp := fun _ => True) ?hr ?hp (fun _ hk => hk) trivial (Below.refl _ _) (Nat.le_refl _) (by simp) ?_; (case hd => rfl); (case hg => rfl); (case hr => first | (go_simp; done) | (go_simp; rfl)); (case hp => exact (Reps.none _ _))
                                    intro v115 w34 ho35 hb hg_ hnew_
                                    clear hg_ hnew_
                                    (first | rw [← Ny114.out] at ho35 | (simp only [Int.reduceToNat] at ho35; rw [← Ny114.out] at ho35))
                                    have n0_ := Aside0.mk (Kd.R_below (kR_ HO123.out) hb)
                                    have n1_ := Aside0.mk (Kd.R_lower ho35 (below_size (hb3_ HB.out GE108.out GE109.out GE127.out)))
                                    have n2_ := Aside0.mk (blk_below (g := gb108) (o := .cells #[.int .i64 a0_0, .int .i64 a0_1, .slice A0_2 l0_2.length c0_2, .slice A0_3 l0_3.length c0_3] 25 (0, 0)) (kb_ BK108.out) hb)
                                    have n3_ := Aside0.mk (blk_below (g := gb109) (o := .cells #[.int .i64 0, .int .i64 0, .slice none 0 0, .slice none 0 0] 25 (0, 0)) (kb_ BK109.out) hb)
                                    have n4_ := Aside0.mk (blk_below (g := gb127) (o := .cells #[.int .i64 0, .int .i64 0, .slice none 0 0, .slice none 0 0] 25 (0, 0)) (kb_ BK127.out) hb)
                                    have n5_ := Aside0.mk (below_step (hb3_ HB.out GE108.out GE109.out GE127.out) hb)
                                    clear HO123
                                    clear BK108
                                    clear BK109
                                    clear BK127
                                    clear HB
                                    have HO123 := n0_
                                    have HO116 := n1_
                                    have BK108 := n2_
                                    have BK109 := n3_
                                    have BK127 := n4_
                                    have HB := n5_
                                    clear n0_ n1_ n2_ n3_ n4_ n5_
                                    clear hb ho35
                                    refine hK.out _ _ ⟨(blk_cell BK108.out 0).trans rfl, (blk_cell BK108.out 1).trans rfl, (blk_cell BK108.out 2).trans rfl, (blk_cell BK108.out 3).trans rfl⟩ (fun hHeld => ?_)
                                    clear hK K
                                    refine norm_ (a' := ?_) ?_ ?_
                                    rotate_left
                                    · show Act.put _ (some 26) _ = _
                                      simp only [Act.put, List.setIfInBounds_toArray, List.set_cons_zero, List.set_cons_succ, i64_w, i32_w]
                                      rfl
                                    exact norm_ (by first | (simp only [putAll, Act.put, List.setIfInBounds_toArray, List.set_cons_zero, List.set_cons_succ]; done) | (simp only [putAll, Act.put, List.setIfInBounds_toArray, List.set_cons_zero, List.set_cons_succ]; rfl)) (hJ4_10_15 (v115, v122, gb127) _ ⟨hHeld, (kR_ HO116.out), (kR_ HO123.out), (kb_ BK108.out), (kb_ BK109.out), (kb_ BK127.out), GW127.out, GE127.out, NB108_127.out, NB127_108.out, NB109_127.out, NB127_109.out, (hb3_ HB.out GE108.out GE109.out GE127.out)⟩)
                                · skip
                                  rintro ⟨v115, gb127⟩ w33 ⟨hS_, h0_, h1_, h2_, h3_, h4_, h5_, h6_, h7_, h8_, h9_, h10_⟩
                                  have n0_ : Aside0 (Kd.R (Kd.int .u8) 5 w33 w.heap.size (fun _ => True) v115 y114) := ⟨h0_⟩
                                  have n1_ : Aside0 (w33.heap[gb108]? = some (.cells #[.int .i64 a0_0, .int .i64 a0_1, .slice A0_2 l0_2.length c0_2, .slice A0_3 l0_3.length c0_3] 25 (0, 0))) := ⟨h1_⟩
                                  have n2_ : Aside0 (w33.heap[gb109]? = some (.cells #[.int .i64 0, .int .i64 0, .slice none 0 0, .slice none 0 0] 25 (0, 0))) := ⟨h2_⟩
                                  have n3_ : Aside0 (w33.heap[gb127]? = some (.cells #[.int .i64 0, .int .i64 0, .slice none 0 0, .slice none 0 0] 25 (0, 0))) := ⟨h3_⟩
                                  have n4_ : Aside0 (w.heap.size ≤ gb127) := ⟨h4_⟩
                                  have n5_ : Aside0 (w.heap.size ≤ gb127) := ⟨h5_⟩
                                  have n6_ : Aside0 (gb108 ≠ gb127) := ⟨h6_⟩
                                  have n7_ : Aside0 (gb127 ≠ gb108) := ⟨h7_⟩
                                  have n8_ : Aside0 (gb109 ≠ gb127) := ⟨h8_⟩
                                  have n9_ : Aside0 (gb127 ≠ gb109) := ⟨h9_⟩
                                  have n10_ : Aside0 (Below w.heap.size w w33) := ⟨h10_⟩
                                  clear BK108
                                  clear BK109
                                  clear HB
                                  clear h0_ h1_ h2_ h3_ h4_ h5_ h6_ h7_ h8_ h9_ h10_
                                  have HO116 := n0_
                                  have BK108 := n1_
                                  have BK109 := n2_
                                  have BK127 := n3_
                                  have GW127 := n4_
                                  have GE127 := n5_
                                  have NB108_127 := n6_
                                  have NB127_108 := n7_
                                  have NB109_127 := n8_
                                  have NB127_109 := n9_
                                  have HB := n10_
                                  clear n0_ n1_ n2_ n3_ n4_ n5_ n6_ n7_ n8_ n9_ n10_
                                  have hHeld : w33.cell? ⟨gb108, 0, none⟩ = some (.int .i64 a0_0) ∧ w33.cell? ⟨gb108, 1, none⟩ = some (.int .i64 a0_1) ∧ w33.cell? ⟨gb108, 2, none⟩ = some (.slice A0_2 l0_2.length c0_2) ∧ w33.cell? ⟨gb108, 3, none⟩ = some (.slice A0_3 l0_3.length c0_3) := hS_
                                  refine norm_ (a' := ?_) ?_ ?_
                                  rotate_left
                                  · simp only [putAll, Act.put, List.setIfInBounds_toArray, List.set_cons_zero, List.set_cons_succ]
                                    rfl
                                  refine two_ (i := 9) (j := 10) (Ni := some 31) (Nj := some 32) #[true, true, true, true, true, true, true, true, true, true, false, true, true, false, false, true, false] #[true, true, true, true, true, true, true, true, true, false, true, true, true, false, false, true, false] rfl rfl rfl rfl (two_of HT_.out (by kernel_rfl)) (by decide) (by decide) (fun K hK => ?_) (fun K hK => ?_)
                                  · skip
                                    refine Kd.R_append_rows_step (Kd.int .u8) (w0 := w) w.heap.size (by rfl) (.tmp 26) (.tmp 30) 22 5 (.int .u8 0) 1 rfl Try.underlying22 info5 rfl (by decide) (by omega) v115 y114 (l0_2.drop ((ji14) : Int).toNat) _ _ _ (fun _ => True) (fun _ => False) rfl rfl ?aO ?aR (fun _ _ h => h) (fun _ h => h.elim) ?aF ?aB ?aS ?aL ?_
                                    (case aR => first | (refine len_ (show (l0_2.drop ((ji14) : Int).toNat).length = (l0_2.length - (ji14).toNat) from List.length_drop) ?_; repeat (first | exact (Kd.C_below HR117.out HB.out) | (with_reducible refine Kd.C_alloc ?_ _) | (with_reducible refine Kd.C_drewN ?_ _) | (with_reducible refine Kd.C_drew ?_)); done) | (repeat (first | exact (Kd.C_below HR117.out HB.out) | (with_reducible refine Kd.C_alloc ?_ _) | (with_reducible refine Kd.C_drewN ?_ _) | (with_reducible refine Kd.C_drew ?_))))
                                    (case aB => exact (hb3_ HB.out GE108.out GE109.out GE127.out))
                                    (case aF => exact (fun _ _ => trivial))
                                    (case aO => exact (kR_ HO116.out))
                                    (case aS => exact (below_size (hb3_ HB.out GE108.out GE109.out GE127.out)))
                                    (case aL => have := LMc17.out; have hlx_ := (show (l0_2.drop ((ji14) : Int).toNat).length = (l0_2.length - (ji14).toNat) from List.length_drop); omega)
                                    intro v119 w34 ho hb hg hat
                                    rw [← Ny118.out] at ho
                                    have n0_ := Aside0.mk (blk_grown (g := gb108) (o := .cells #[.int .i64 a0_0, .int .i64 a0_1, .slice A0_2 l0_2.length c0_2, .slice A0_3 l0_3.length c0_3] 25 (0, 0)) (kb_ BK108.out) hg (Kd.R_ne HO116.out BK108.out (by decide)))
                                    have n1_ := Aside0.mk (blk_grown (g := gb109) (o := .cells #[.int .i64 0, .int .i64 0, .slice none 0 0, .slice none 0 0] 25 (0, 0)) (kb_ BK109.out) hg (Kd.R_ne HO116.out BK109.out (by decide)))
                                    have n2_ := Aside0.mk (blk_grown (g := gb127) (o := .cells #[.int .i64 0, .int .i64 0, .slice none 0 0, .slice none 0 0] 25 (0, 0)) (kb_ BK127.out) hg (Kd.R_ne HO116.out BK127.out (by decide)))
                                    have n3_ := Aside0.mk (hb)
                                    have n4_ := Aside0.mk (ho)
                                    clear BK108
                                    clear BK109
                                    clear BK127
                                    clear HB
                                    clear HO116
                                    have BK108 := n0_
                                    have BK109 := n1_
                                    have BK127 := n2_
                                    have HB := n3_
                                    have HO120 := n4_
                                    clear n0_ n1_ n2_ n3_ n4_
                                    clear ho hb hg hat
                                    refine hK.out _ _ ⟨(blk_cell BK108.out 0).trans rfl, (blk_cell BK108.out 1).trans rfl, (blk_cell BK108.out 2).trans rfl, (blk_cell BK108.out 3).trans rfl⟩ (fun hHeld => ?_)
                                    clear hK K
                                    refine norm_ (a' := ?_) ?_ ?_
                                    rotate_left
                                    · show Act.put _ (some 31) _ = _
                                      simp only [Act.put, List.setIfInBounds_toArray, List.set_cons_zero, List.set_cons_succ, i64_w, i32_w]
                                      rfl
                                    exact norm_ (by first | (simp only [putAll, Act.put, List.setIfInBounds_toArray, List.set_cons_zero, List.set_cons_succ]; done) | (simp only [putAll, Act.put, List.setIfInBounds_toArray, List.set_cons_zero, List.set_cons_succ]; rfl)) (hJ4_9_15 (v115, v119, gb127) _ ⟨hHeld, (kR_ HO120.out), (kb_ BK108.out), (kb_ BK109.out), (kb_ BK127.out), GW127.out, GE127.out, NB108_127.out, NB127_108.out, NB109_127.out, NB127_109.out, (hb3_ HB.out GE108.out GE109.out GE127.out)⟩)
                                  · skip
                                    refine Kd.R_lit_step k70 _ 70 ?hg (N := 32) ?hd (xs := ([] : List (S70))) (inner := []) (ok := fun _ => True) (okp := fun _ => True) ?hr ?hp (fun _ hk => hk) trivial (Below.refl _ _) (Nat.le_refl _) (by simp) ?_; (case hd => rfl); (case hg => rfl); (case hr => first | (go_simp; done) | (go_simp; rfl)); (case hp => exact (Reps.none _ _))
                                    intro v122 w34 ho35 hb hg_ hnew_
                                    clear hg_ hnew_
                                    (first | rw [← Ny121.out] at ho35 | (simp only [Int.reduceToNat] at ho35; rw [← Ny121.out] at ho35))
                                    have n0_ := Aside0.mk (Kd.R_below (kR_ HO116.out) hb)
                                    have n1_ := Aside0.mk (Kd.R_lower ho35 (below_size (hb3_ HB.out GE108.out GE109.out GE127.out)))
                                    have n2_ := Aside0.mk (blk_below (g := gb108) (o := .cells #[.int .i64 a0_0, .int .i64 a0_1, .slice A0_2 l0_2.length c0_2, .slice A0_3 l0_3.length c0_3] 25 (0, 0)) (kb_ BK108.out) hb)
                                    have n3_ := Aside0.mk (blk_below (g := gb109) (o := .cells #[.int .i64 0, .int .i64 0, .slice none 0 0, .slice none 0 0] 25 (0, 0)) (kb_ BK109.out) hb)
                                    have n4_ := Aside0.mk (blk_below (g := gb127) (o := .cells #[.int .i64 0, .int .i64 0, .slice none 0 0, .slice none 0 0] 25 (0, 0)) (kb_ BK127.out) hb)
                                    have n5_ := Aside0.mk (below_step (hb3_ HB.out GE108.out GE109.out GE127.out) hb)
                                    clear HO116
                                    clear BK108
                                    clear BK109
                                    clear BK127
                                    clear HB
                                    have HO116 := n0_
                                    have HO123 := n1_
                                    have BK108 := n2_
                                    have BK109 := n3_
                                    have BK127 := n4_
                                    have HB := n5_
                                    clear n0_ n1_ n2_ n3_ n4_ n5_
                                    clear hb ho35
                                    refine hK.out _ _ ⟨(blk_cell BK108.out 0).trans rfl, (blk_cell BK108.out 1).trans rfl, (blk_cell BK108.out 2).trans rfl, (blk_cell BK108.out 3).trans rfl⟩ (fun hHeld => ?_)
                                    clear hK K
                                    refine norm_ (a' := ?_) ?_ ?_
                                    rotate_left
                                    · show Act.put _ (some 32) _ = _
                                      simp only [Act.put, List.setIfInBounds_toArray, List.set_cons_zero, List.set_cons_succ, i64_w, i32_w]
                                      rfl
                                    exact norm_ (by first | (simp only [putAll, Act.put, List.setIfInBounds_toArray, List.set_cons_zero, List.set_cons_succ]; done) | (simp only [putAll, Act.put, List.setIfInBounds_toArray, List.set_cons_zero, List.set_cons_succ]; rfl)) (hJ4_10_15 (v115, v122, gb127) _ ⟨hHeld, (kR_ HO116.out), (kR_ HO123.out), (kb_ BK108.out), (kb_ BK109.out), (kb_ BK127.out), GW127.out, GE127.out, NB108_127.out, NB127_108.out, NB109_127.out, NB127_109.out, (hb3_ HB.out GE108.out GE109.out GE127.out)⟩)
                              · skip
                                rintro ⟨v115, v122⟩ w34 ⟨hS_, h0_, h1_, h2_, h3_, h4_⟩
                                have n0_ : Aside0 (Kd.R (Kd.int .u8) 5 w34 w.heap.size (fun _ => True) v115 y114) := ⟨h0_⟩
                                have n1_ : Aside0 (Kd.R k70 70 w34 w.heap.size (fun _ => True) v122 y121) := ⟨h1_⟩
                                have n2_ : Aside0 (w34.heap[gb108]? = some (.cells #[.int .i64 a0_0, .int .i64 a0_1, .slice A0_2 l0_2.length c0_2, .slice A0_3 l0_3.length c0_3] 25 (0, 0))) := ⟨h2_⟩
                                have n3_ : Aside0 (w34.heap[gb109]? = some (.cells #[.int .i64 0, .int .i64 0, .slice none 0 0, .slice none 0 0] 25 (0, 0))) := ⟨h3_⟩
                                have n4_ : Aside0 (Below w.heap.size w w34) := ⟨h4_⟩
                                clear BK108
                                clear BK109
                                clear HB
                                clear h0_ h1_ h2_ h3_ h4_
                                have HO116 := n0_
                                have HO123 := n1_
                                have BK108 := n2_
                                have BK109 := n3_
                                have HB := n4_
                                clear n0_ n1_ n2_ n3_ n4_
                                have hHeld : w34.cell? ⟨gb108, 0, none⟩ = some (.int .i64 a0_0) ∧ w34.cell? ⟨gb108, 1, none⟩ = some (.int .i64 a0_1) ∧ w34.cell? ⟨gb108, 2, none⟩ = some (.slice A0_2 l0_2.length c0_2) ∧ w34.cell? ⟨gb108, 3, none⟩ = some (.slice A0_3 l0_3.length c0_3) := hS_
                                refine norm_ (a' := ?_) ?_ ?_
                                rotate_left
                                · simp only [putAll, Act.put, List.setIfInBounds_toArray, List.set_cons_zero, List.set_cons_succ]
                                  rfl
                                refine two_ (i := 9) (j := 15) (Ni := some 31) (Nj := some 7) #[true, true, true, true, true, true, true, true, true, true, true, true, true, false, false, false, false] #[true, true, true, true, true, true, true, true, true, false, true, true, true, false, false, true, false] rfl rfl rfl rfl (two_of HT_.out (by kernel_rfl)) (by decide) (by decide) (fun K hK => ?_) (fun K hK => ?_)
                                · skip
                                  refine Kd.R_append_rows_step (Kd.int .u8) (w0 := w) w.heap.size (by rfl) (.tmp 26) (.tmp 30) 22 5 (.int .u8 0) 1 rfl Try.underlying22 info5 rfl (by decide) (by omega) v115 y114 (l0_2.drop ((ji14) : Int).toNat) _ _ _ (fun _ => True) (fun _ => False) rfl rfl ?aO ?aR (fun _ _ h => h) (fun _ h => h.elim) ?aF ?aB ?aS ?aL ?_
                                  (case aR => first | (refine len_ (show (l0_2.drop ((ji14) : Int).toNat).length = (l0_2.length - (ji14).toNat) from List.length_drop) ?_; repeat (first | exact (Kd.C_below HR117.out HB.out) | (with_reducible refine Kd.C_alloc ?_ _) | (with_reducible refine Kd.C_drewN ?_ _) | (with_reducible refine Kd.C_drew ?_)); done) | (repeat (first | exact (Kd.C_below HR117.out HB.out) | (with_reducible refine Kd.C_alloc ?_ _) | (with_reducible refine Kd.C_drewN ?_ _) | (with_reducible refine Kd.C_drew ?_))))
                                  (case aB => exact (hb2_ HB.out GE108.out GE109.out))
                                  (case aF => exact (fun _ _ => trivial))
                                  (case aO => exact (kR_ HO116.out))
                                  (case aS => exact (below_size (hb2_ HB.out GE108.out GE109.out)))
                                  (case aL => have := LMc17.out; have hlx_ := (show (l0_2.drop ((ji14) : Int).toNat).length = (l0_2.length - (ji14).toNat) from List.length_drop); omega)
                                  intro v119 w35 ho hb hg hat
                                  rw [← Ny118.out] at ho
                                  have n0_ := Aside0.mk (blk_grown (g := gb108) (o := .cells #[.int .i64 a0_0, .int .i64 a0_1, .slice A0_2 l0_2.length c0_2, .slice A0_3 l0_3.length c0_3] 25 (0, 0)) (kb_ BK108.out) hg (Kd.R_ne HO116.out BK108.out (by decide)))
                                  have n1_ := Aside0.mk (blk_grown (g := gb109) (o := .cells #[.int .i64 0, .int .i64 0, .slice none 0 0, .slice none 0 0] 25 (0, 0)) (kb_ BK109.out) hg (Kd.R_ne HO116.out BK109.out (by decide)))
                                  have n2_ := Aside0.mk (Kd.R_over' (kR_ HO123.out) (Kd.R_typed (kR_ HO116.out)) (by decide) hg)
                                  have n3_ := Aside0.mk (hb)
                                  have n4_ := Aside0.mk (ho)
                                  clear BK108
                                  clear BK109
                                  clear HO123
                                  clear HB
                                  clear HO116
                                  have BK108 := n0_
                                  have BK109 := n1_
                                  have HO123 := n2_
                                  have HB := n3_
                                  have HO120 := n4_
                                  clear n0_ n1_ n2_ n3_ n4_
                                  clear ho hb hg hat
                                  refine hK.out _ _ ⟨(blk_cell BK108.out 0).trans rfl, (blk_cell BK108.out 1).trans rfl, (blk_cell BK108.out 2).trans rfl, (blk_cell BK108.out 3).trans rfl⟩ (fun hHeld => ?_)
                                  clear hK K
                                  refine norm_ (a' := ?_) ?_ ?_
                                  rotate_left
                                  · show Act.put _ (some 31) _ = _
                                    simp only [Act.put, List.setIfInBounds_toArray, List.set_cons_zero, List.set_cons_succ, i64_w, i32_w]
                                    rfl
                                  exact norm_ (by first | (simp only [putAll, Act.put, List.setIfInBounds_toArray, List.set_cons_zero, List.set_cons_succ]; done) | (simp only [putAll, Act.put, List.setIfInBounds_toArray, List.set_cons_zero, List.set_cons_succ]; rfl)) (hJ4_9_10 (v115, v119, v122) _ ⟨hHeld, (kR_ HO120.out), (kR_ HO123.out), (kb_ BK108.out), (kb_ BK109.out), (hb2_ HB.out GE108.out GE109.out)⟩)
                                · skip
                                  refine box_step ?hg (N := 7) ?hd (cs := #[.int .i64 0, .int .i64 0, .slice none 0 0, .slice none 0 0]) (t := 25) ?hr ?_; (case hd => rfl); (case hg => rfl); (case hr => first | (go_simp; done) | (go_simp; rfl))
                                  intro gb127 hg w35 hbox hb
                                  have n0_ := Aside0.mk (Kd.R_below (kR_ HO116.out) hb)
                                  have n1_ := Aside0.mk (Kd.R_below (kR_ HO123.out) hb)
                                  have n2_ := Aside0.mk (blk_below (g := gb108) (o := .cells #[.int .i64 a0_0, .int .i64 a0_1, .slice A0_2 l0_2.length c0_2, .slice A0_3 l0_3.length c0_3] 25 (0, 0)) (kb_ BK108.out) hb)
                                  have n3_ := Aside0.mk (blk_below (g := gb109) (o := .cells #[.int .i64 0, .int .i64 0, .slice none 0 0, .slice none 0 0] 25 (0, 0)) (kb_ BK109.out) hb)
                                  have n4_ := Aside0.mk (below_step (hb2_ HB.out GE108.out GE109.out) hb)
                                  have n5_ := Aside0.mk (hbox)
                                  have n6_ := Aside0.mk ((by rw [hg]; exact (below_size (hb2_ HB.out GE108.out GE109.out)) : w.heap.size ≤ gb127))
                                  have n7_ := Aside0.mk ((by rw [hg]; exact (below_size (hb2_ HB.out GE108.out GE109.out)) : w.heap.size ≤ gb127))
                                  have n8_ := Aside0.mk ((by rw [hg]; exact Nat.ne_of_lt (blk_lt (g := gb108) (o := .cells #[.int .i64 a0_0, .int .i64 a0_1, .slice A0_2 l0_2.length c0_2, .slice A0_3 l0_3.length c0_3] 25 (0, 0)) (kb_ BK108.out)) : gb108 ≠ gb127))
                                  have n9_ := Aside0.mk ((by rw [hg]; exact Nat.ne_of_gt (blk_lt (g := gb108) (o := .cells #[.int .i64 a0_0, .int .i64 a0_1, .slice A0_2 l0_2.length c0_2, .slice A0_3 l0_3.length c0_3] 25 (0, 0)) (kb_ BK108.out)) : gb127 ≠ gb108))
                                  have n10_ := Aside0.mk ((by rw [hg]; exact Nat.ne_of_lt (blk_lt (g := gb109) (o := .cells #[.int .i64 0, .int .i64 0, .slice none 0 0, .slice none 0 0] 25 (0, 0)) (kb_ BK109.out)) : gb109 ≠ gb127))
                                  have n11_ := Aside0.mk ((by rw [hg]; exact Nat.ne_of_gt (blk_lt (g := gb109) (o := .cells #[.int .i64 0, .int .i64 0, .slice none 0 0, .slice none 0 0] 25 (0, 0)) (kb_ BK109.out)) : gb127 ≠ gb109))
                                  clear HO116
                                  clear HO123
                                  clear BK108
                                  clear BK109
                                  clear HB
                                  have HO116 := n0_
                                  have HO123 := n1_
                                  have BK108 := n2_
                                  have BK109 := n3_
                                  have HB := n4_
                                  have BK127 := n5_
                                  have GW127 := n6_
                                  have GE127 := n7_
                                  have NB108_127 := n8_
                                  have NB127_108 := n9_
                                  have NB109_127 := n10_
                                  have NB127_109 := n11_
                                  clear n0_ n1_ n2_ n3_ n4_ n5_ n6_ n7_ n8_ n9_ n10_ n11_
                                  clear hb hbox hg
                                  refine hK.out _ _ ⟨(blk_cell BK108.out 0).trans rfl, (blk_cell BK108.out 1).trans rfl, (blk_cell BK108.out 2).trans rfl, (blk_cell BK108.out 3).trans rfl⟩ (fun hHeld => ?_)
                                  clear hK K
                                  refine norm_ (a' := ?_) ?_ ?_
                                  rotate_left
                                  · show Act.put _ (some 7) _ = _
                                    simp only [Act.put, List.setIfInBounds_toArray, List.set_cons_zero, List.set_cons_succ, i64_w, i32_w]
                                    rfl
                                  exact norm_ (by first | (simp only [putAll, Act.put, List.setIfInBounds_toArray, List.set_cons_zero, List.set_cons_succ]; done) | (simp only [putAll, Act.put, List.setIfInBounds_toArray, List.set_cons_zero, List.set_cons_succ]; rfl)) (hJ4_10_15 (v115, v122, gb127) _ ⟨hHeld, (kR_ HO116.out), (kR_ HO123.out), (kb_ BK108.out), (kb_ BK109.out), (kb_ BK127.out), GW127.out, GE127.out, NB108_127.out, NB127_108.out, NB109_127.out, NB127_109.out, (hb3_ HB.out GE108.out GE109.out GE127.out)⟩)
                            · skip
                              rintro ⟨v115, v119⟩ w33 ⟨hS_, h0_, h1_, h2_, h3_⟩
                              have n0_ : Aside0 (Kd.R (Kd.int .u8) 5 w33 w.heap.size (fun _ => True) v119 y118) := ⟨h0_⟩
                              have n1_ : Aside0 (w33.heap[gb108]? = some (.cells #[.int .i64 a0_0, .int .i64 a0_1, .slice A0_2 l0_2.length c0_2, .slice A0_3 l0_3.length c0_3] 25 (0, 0))) := ⟨h1_⟩
                              have n2_ : Aside0 (w33.heap[gb109]? = some (.cells #[.int .i64 0, .int .i64 0, .slice none 0 0, .slice none 0 0] 25 (0, 0))) := ⟨h2_⟩
                              have n3_ : Aside0 (Below w.heap.size w w33) := ⟨h3_⟩
                              clear BK108
                              clear BK109
                              clear HB
                              clear h0_ h1_ h2_ h3_
                              have HO120 := n0_
                              have BK108 := n1_
                              have BK109 := n2_
                              have HB := n3_
                              clear n0_ n1_ n2_ n3_
                              have hHeld : w33.cell? ⟨gb108, 0, none⟩ = some (.int .i64 a0_0) ∧ w33.cell? ⟨gb108, 1, none⟩ = some (.int .i64 a0_1) ∧ w33.cell? ⟨gb108, 2, none⟩ = some (.slice A0_2 l0_2.length c0_2) ∧ w33.cell? ⟨gb108, 3, none⟩ = some (.slice A0_3 l0_3.length c0_3) := hS_
                              refine norm_ (a' := ?_) ?_ ?_
                              rotate_left
                              · simp only [putAll, Act.put, List.setIfInBounds_toArray, List.set_cons_zero, List.set_cons_succ]
                                rfl
                              refine two_ (i := 10) (j := 15) (Ni := some 32) (Nj := some 7) #[true, true, true, true, true, true, true, true, true, true, true, true, true, false, false, false, false] #[true, true, true, true, true, true, true, true, true, true, false, true, true, false, false, true, false] rfl rfl rfl rfl (two_of HT_.out (by kernel_rfl)) (by decide) (by decide) (fun K hK => ?_) (fun K hK => ?_)
                              · skip
                                refine Kd.R_lit_step k70 _ 70 ?hg (N := 32) ?hd (xs := ([] : List (S70))) (inner := []) (ok := fun _ => True) (okp := fun _ => True) ?hr ?hp (fun _ hk => hk) trivial (Below.refl _ _) (Nat.le_refl _) (by simp) ?_; (case hd => rfl); (case hg => rfl); (case hr => first | (go_simp; done) | (go_simp; rfl)); (case hp => exact (Reps.none _ _))
                                intro v122 w34 ho35 hb hg_ hnew_
                                clear hg_ hnew_
                                (first | rw [← Ny121.out] at ho35 | (simp only [Int.reduceToNat] at ho35; rw [← Ny121.out] at ho35))
                                have n0_ := Aside0.mk (Kd.R_below (kR_ HO120.out) hb)
                                have n1_ := Aside0.mk (Kd.R_lower ho35 (below_size (hb2_ HB.out GE108.out GE109.out)))
                                have n2_ := Aside0.mk (blk_below (g := gb108) (o := .cells #[.int .i64 a0_0, .int .i64 a0_1, .slice A0_2 l0_2.length c0_2, .slice A0_3 l0_3.length c0_3] 25 (0, 0)) (kb_ BK108.out) hb)
                                have n3_ := Aside0.mk (blk_below (g := gb109) (o := .cells #[.int .i64 0, .int .i64 0, .slice none 0 0, .slice none 0 0] 25 (0, 0)) (kb_ BK109.out) hb)
                                have n4_ := Aside0.mk (below_step (hb2_ HB.out GE108.out GE109.out) hb)
                                clear HO120
                                clear BK108
                                clear BK109
                                clear HB
                                have HO120 := n0_
                                have HO123 := n1_
                                have BK108 := n2_
                                have BK109 := n3_
                                have HB := n4_
                                clear n0_ n1_ n2_ n3_ n4_
                                clear hb ho35
                                refine hK.out _ _ ⟨(blk_cell BK108.out 0).trans rfl, (blk_cell BK108.out 1).trans rfl, (blk_cell BK108.out 2).trans rfl, (blk_cell BK108.out 3).trans rfl⟩ (fun hHeld => ?_)
                                clear hK K
                                refine norm_ (a' := ?_) ?_ ?_
                                rotate_left
                                · show Act.put _ (some 32) _ = _
                                  simp only [Act.put, List.setIfInBounds_toArray, List.set_cons_zero, List.set_cons_succ, i64_w, i32_w]
                                  rfl
                                exact norm_ (by first | (simp only [putAll, Act.put, List.setIfInBounds_toArray, List.set_cons_zero, List.set_cons_succ]; done) | (simp only [putAll, Act.put, List.setIfInBounds_toArray, List.set_cons_zero, List.set_cons_succ]; rfl)) (hJ4_9_10 (v115, v119, v122) _ ⟨hHeld, (kR_ HO120.out), (kR_ HO123.out), (kb_ BK108.out), (kb_ BK109.out), (hb2_ HB.out GE108.out GE109.out)⟩)
                              · skip
                                refine box_step ?hg (N := 7) ?hd (cs := #[.int .i64 0, .int .i64 0, .slice none 0 0, .slice none 0 0]) (t := 25) ?hr ?_; (case hd => rfl); (case hg => rfl); (case hr => first | (go_simp; done) | (go_simp; rfl))
                                intro gb127 hg w34 hbox hb
                                have n0_ := Aside0.mk (Kd.R_below (kR_ HO120.out) hb)
                                have n1_ := Aside0.mk (blk_below (g := gb108) (o := .cells #[.int .i64 a0_0, .int .i64 a0_1, .slice A0_2 l0_2.length c0_2, .slice A0_3 l0_3.length c0_3] 25 (0, 0)) (kb_ BK108.out) hb)
                                have n2_ := Aside0.mk (blk_below (g := gb109) (o := .cells #[.int .i64 0, .int .i64 0, .slice none 0 0, .slice none 0 0] 25 (0, 0)) (kb_ BK109.out) hb)
                                have n3_ := Aside0.mk (below_step (hb2_ HB.out GE108.out GE109.out) hb)
                                have n4_ := Aside0.mk (hbox)
                                have n5_ := Aside0.mk ((by rw [hg]; exact (below_size (hb2_ HB.out GE108.out GE109.out)) : w.heap.size ≤ gb127))
                                have n6_ := Aside0.mk ((by rw [hg]; exact (below_size (hb2_ HB.out GE108.out GE109.out)) : w.heap.size ≤ gb127))
                                have n7_ := Aside0.mk ((by rw [hg]; exact Nat.ne_of_lt (blk_lt (g := gb108) (o := .cells #[.int .i64 a0_0, .int .i64 a0_1, .slice A0_2 l0_2.length c0_2, .slice A0_3 l0_3.length c0_3] 25 (0, 0)) (kb_ BK108.out)) : gb108 ≠ gb127))
                                have n8_ := Aside0.mk ((by rw [hg]; exact Nat.ne_of_gt (blk_lt (g := gb108) (o := .cells #[.int .i64 a0_0, .int .i64 a0_1, .slice A0_2 l0_2.length c0_2, .slice A0_3 l0_3.length c0_3] 25 (0, 0)) (kb_ BK108.out)) : gb127 ≠ gb108))
                                have n9_ := Aside0.mk ((by rw [hg]; exact Nat.ne_of_lt (blk_lt (g := gb109) (o := .cells #[.int .i64 0, .int .i64 0, .slice none 0 0, .slice none 0 0] 25 (0, 0)) (kb_ BK109.out)) : gb109 ≠ gb127))
                                have n10_ := Aside0.mk ((by rw [hg]; exact Nat.ne_of_gt (blk_lt (g := gb109) (o := .cells #[.int .i64 0, .int .i64 0, .slice none 0 0, .slice none 0 0] 25 (0, 0)) (kb_ BK109.out)) : gb127 ≠ gb109))
                                clear HO120
                                clear BK108
                                clear BK109
                                clear HB
                                have HO120 := n0_
                                have BK108 := n1_
                                have BK109 := n2_
                                have HB := n3_
                                have BK127 := n4_
                                have GW127 := n5_
                                have GE127 := n6_
                                have NB108_127 := n7_
                                have NB127_108 := n8_
                                have NB109_127 := n9_
                                have NB127_109 := n10_
                                clear n0_ n1_ n2_ n3_ n4_ n5_ n6_ n7_ n8_ n9_ n10_
                                clear hb hbox hg
                                refine hK.out _ _ ⟨(blk_cell BK108.out 0).trans rfl, (blk_cell BK108.out 1).trans rfl, (blk_cell BK108.out 2).trans rfl, (blk_cell BK108.out 3).trans rfl⟩ (fun hHeld => ?_)
                                clear hK K
                                refine norm_ (a' := ?_) ?_ ?_
                                rotate_left
                                · show Act.put _ (some 7) _ = _
                                  simp only [Act.put, List.setIfInBounds_toArray, List.set_cons_zero, List.set_cons_succ, i64_w, i32_w]
                                  rfl
                                exact norm_ (by first | (simp only [putAll, Act.put, List.setIfInBounds_toArray, List.set_cons_zero, List.set_cons_succ]; done) | (simp only [putAll, Act.put, List.setIfInBounds_toArray, List.set_cons_zero, List.set_cons_succ]; rfl)) (hJ4_9_15 (v115, v119, gb127) _ ⟨hHeld, (kR_ HO120.out), (kb_ BK108.out), (kb_ BK109.out), (kb_ BK127.out), GW127.out, GE127.out, NB108_127.out, NB127_108.out, NB109_127.out, NB127_109.out, (hb3_ HB.out GE108.out GE109.out GE127.out)⟩)
                          · skip
                            rintro ⟨v115, v122, gb127⟩ w35 ⟨hS_, h0_, h1_, h2_, h3_, h4_, h5_, h6_, h7_, h8_, h9_, h10_, h11_⟩
                            have n0_ : Aside0 (Kd.R (Kd.int .u8) 5 w35 w.heap.size (fun _ => True) v115 y114) := ⟨h0_⟩
                            have n1_ : Aside0 (Kd.R k70 70 w35 w.heap.size (fun _ => True) v122 y121) := ⟨h1_⟩
                            have n2_ : Aside0 (w35.heap[gb108]? = some (.cells #[.int .i64 a0_0, .int .i64 a0_1, .slice A0_2 l0_2.length c0_2, .slice A0_3 l0_3.length c0_3] 25 (0, 0))) := ⟨h2_⟩
                            have n3_ : Aside0 (w35.heap[gb109]? = some (.cells #[.int .i64 0, .int .i64 0, .slice none 0 0, .slice none 0 0] 25 (0, 0))) := ⟨h3_⟩
                            have n4_ : Aside0 (w35.heap[gb127]? = some (.cells #[.int .i64 0, .int .i64 0, .slice none 0 0, .slice none 0 0] 25 (0, 0))) := ⟨h4_⟩
                            have n5_ : Aside0 (w.heap.size ≤ gb127) := ⟨h5_⟩
                            have n6_ : Aside0 (w.heap.size ≤ gb127) := ⟨h6_⟩
                            have n7_ : Aside0 (gb108 ≠ gb127) := ⟨h7_⟩
                            have n8_ : Aside0 (gb127 ≠ gb108) := ⟨h8_⟩
                            have n9_ : Aside0 (gb109 ≠ gb127) := ⟨h9_⟩
                            have n10_ : Aside0 (gb127 ≠ gb109) := ⟨h10_⟩
                            have n11_ : Aside0 (Below w.heap.size w w35) := ⟨h11_⟩
                            clear BK108
                            clear BK109
                            clear HB
                            clear h0_ h1_ h2_ h3_ h4_ h5_ h6_ h7_ h8_ h9_ h10_ h11_
                            have HO116 := n0_
                            have HO123 := n1_
                            have BK108 := n2_
                            have BK109 := n3_
                            have BK127 := n4_
                            have GW127 := n5_
                            have GE127 := n6_
                            have NB108_127 := n7_
                            have NB127_108 := n8_
                            have NB109_127 := n9_
                            have NB127_109 := n10_
                            have HB := n11_
                            clear n0_ n1_ n2_ n3_ n4_ n5_ n6_ n7_ n8_ n9_ n10_ n11_
                            have hHeld : w35.cell? ⟨gb108, 0, none⟩ = some (.int .i64 a0_0) ∧ w35.cell? ⟨gb108, 1, none⟩ = some (.int .i64 a0_1) ∧ w35.cell? ⟨gb108, 2, none⟩ = some (.slice A0_2 l0_2.length c0_2) ∧ w35.cell? ⟨gb108, 3, none⟩ = some (.slice A0_3 l0_3.length c0_3) := hS_
                            refine norm_ (a' := ?_) ?_ ?_
                            rotate_left
                            · simp only [putAll, Act.put, List.setIfInBounds_toArray, List.set_cons_zero, List.set_cons_succ]
                              rfl
                            refine one_ (i := 9) (N := some 31) #[true, true, true, true, true, true, true, true, true, true, true, true, true, false, false, true, false] rfl rfl (one_of HT_.out (by kernel_rfl)) (by decide) (fun K hK => ?_)
                            refine Kd.R_append_rows_step (Kd.int .u8) (w0 := w) w.heap.size (by rfl) (.tmp 26) (.tmp 30) 22 5 (.int .u8 0) 1 rfl Try.underlying22 info5 rfl (by decide) (by omega) v115 y114 (l0_2.drop ((ji14) : Int).toNat) _ _ _ (fun _ => True) (fun _ => False) rfl rfl ?aO ?aR (fun _ _ h => h) (fun _ h => h.elim) ?aF ?aB ?aS ?aL ?_
                            (case aR => first | (refine len_ (show (l0_2.drop ((ji14) : Int).toNat).length = (l0_2.length - (ji14).toNat) from List.length_drop) ?_; repeat (first | exact (Kd.C_below HR117.out HB.out) | (with_reducible refine Kd.C_alloc ?_ _) | (with_reducible refine Kd.C_drewN ?_ _) | (with_reducible refine Kd.C_drew ?_)); done) | (repeat (first | exact (Kd.C_below HR117.out HB.out) | (with_reducible refine Kd.C_alloc ?_ _) | (with_reducible refine Kd.C_drewN ?_ _) | (with_reducible refine Kd.C_drew ?_))))
                            (case aB => exact (hb3_ HB.out GE108.out GE109.out GE127.out))
                            (case aF => exact (fun _ _ => trivial))
                            (case aO => exact (kR_ HO116.out))
                            (case aS => exact (below_size (hb3_ HB.out GE108.out GE109.out GE127.out)))
                            (case aL => have := LMc17.out; have hlx_ := (show (l0_2.drop ((ji14) : Int).toNat).length = (l0_2.length - (ji14).toNat) from List.length_drop); omega)
                            intro v119 w36 ho hb hg hat
                            rw [← Ny118.out] at ho
                            have n0_ := Aside0.mk (blk_grown (g := gb108) (o := .cells #[.int .i64 a0_0, .int .i64 a0_1, .slice A0_2 l0_2.length c0_2, .slice A0_3 l0_3.length c0_3] 25 (0, 0)) (kb_ BK108.out) hg (Kd.R_ne HO116.out BK108.out (by decide)))
                            have n1_ := Aside0.mk (blk_grown (g := gb109) (o := .cells #[.int .i64 0, .int .i64 0, .slice none 0 0, .slice none 0 0] 25 (0, 0)) (kb_ BK109.out) hg (Kd.R_ne HO116.out BK109.out (by decide)))
                            have n2_ := Aside0.mk (Kd.R_over' (kR_ HO123.out) (Kd.R_typed (kR_ HO116.out)) (by decide) hg)
                            have n3_ := Aside0.mk (blk_grown (g := gb127) (o := .cells #[.int .i64 0, .int .i64 0, .slice none 0 0, .slice none 0 0] 25 (0, 0)) (kb_ BK127.out) hg (Kd.R_ne HO116.out BK127.out (by decide)))
                            have n4_ := Aside0.mk (hb)
                            have n5_ := Aside0.mk (ho)
                            clear BK108
                            clear BK109
                            clear HO123
                            clear BK127
                            clear HB
                            clear HO116
                            have BK108 := n0_
                            have BK109 := n1_
                            have HO123 := n2_
                            have BK127 := n3_
                            have HB := n4_
                            have HO120 := n5_
                            clear n0_ n1_ n2_ n3_ n4_ n5_
                            clear ho hb hg hat
                            refine hK.out _ _ ⟨(blk_cell BK108.out 0).trans rfl, (blk_cell BK108.out 1).trans rfl, (blk_cell BK108.out 2).trans rfl, (blk_cell BK108.out 3).trans rfl⟩ (fun hHeld => ?_)
                            clear hK K
                            refine norm_ (a' := ?_) ?_ ?_
                            rotate_left
                            · show Act.put _ (some 31) _ = _
                              simp only [Act.put, List.setIfInBounds_toArray, List.set_cons_zero, List.set_cons_succ, i64_w, i32_w]
                              rfl
                            exact norm_ (by first | (simp only [putAll, Act.put, List.setIfInBounds_toArray, List.set_cons_zero, List.set_cons_succ]; done) | (simp only [putAll, Act.put, List.setIfInBounds_toArray, List.set_cons_zero, List.set_cons_succ]; rfl)) (hJ4_9_10_15 (v115, v119, v122, gb127) _ ⟨hHeld, (kR_ HO120.out), (kR_ HO123.out), (kb_ BK108.out), (kb_ BK109.out), (kb_ BK127.out), GW127.out, GE127.out, NB108_127.out, NB127_108.out, NB109_127.out, NB127_109.out, (hb3_ HB.out GE108.out GE109.out GE127.out)⟩)
                        · skip
                          rintro ⟨v115, v119, gb127⟩ w34 ⟨hS_, h0_, h1_, h2_, h3_, h4_, h5_, h6_, h7_, h8_, h9_, h10_⟩
                          have n0_ : Aside0 (Kd.R (Kd.int .u8) 5 w34 w.heap.size (fun _ => True) v119 y118) := ⟨h0_⟩
                          have n1_ : Aside0 (w34.heap[gb108]? = some (.cells #[.int .i64 a0_0, .int .i64 a0_1, .slice A0_2 l0_2.length c0_2, .slice A0_3 l0_3.length c0_3] 25 (0, 0))) := ⟨h1_⟩
                          have n2_ : Aside0 (w34.heap[gb109]? = some (.cells #[.int .i64 0, .int .i64 0, .slice none 0 0, .slice none 0 0] 25 (0, 0))) := ⟨h2_⟩
                          have n3_ : Aside0 (w34.heap[gb127]? = some (.cells #[.int .i64 0, .int .i64 0, .slice none 0 0, .slice none 0 0] 25 (0, 0))) := ⟨h3_⟩
                          have n4_ : Aside0 (w.heap.size ≤ gb127) := ⟨h4_⟩
                          have n5_ : Aside0 (w.heap.size ≤ gb127) := ⟨h5_⟩
                          have n6_ : Aside0 (gb108 ≠ gb127) := ⟨h6_⟩
                          have n7_ : Aside0 (gb127 ≠ gb108) := ⟨h7_⟩
                          have n8_ : Aside0 (gb109 ≠ gb127) := ⟨h8_⟩
                          have n9_ : Aside0 (gb127 ≠ gb109) := ⟨h9_⟩
                          have n10_ : Aside0 (Below w.heap.size w w34) := ⟨h10_⟩
                          clear BK108
                          clear BK109
                          clear HB
                          clear h0_ h1_ h2_ h3_ h4_ h5_ h6_ h7_ h8_ h9_ h10_
                          have HO120 := n0_
                          have BK108 := n1_
                          have BK109 := n2_
                          have BK127 := n3_
                          have GW127 := n4_
                          have GE127 := n5_
                          have NB108_127 := n6_
                          have NB127_108 := n7_
                          have NB109_127 := n8_
                          have NB127_109 := n9_
                          have HB := n10_
                          clear n0_ n1_ n2_ n3_ n4_ n5_ n6_ n7_ n8_ n9_ n10_
                          have hHeld : w34.cell? ⟨gb108, 0, none⟩ = some (.int .i64 a0_0) ∧ w34.cell? ⟨gb108, 1, none⟩ = some (.int .i64 a0_1) ∧ w34.cell? ⟨gb108, 2, none⟩ = some (.slice A0_2 l0_2.length c0_2) ∧ w34.cell? ⟨gb108, 3, none⟩ = some (.slice A0_3 l0_3.length c0_3) := hS_
                          refine norm_ (a' := ?_) ?_ ?_
                          rotate_left
                          · simp only [putAll, Act.put, List.setIfInBounds_toArray, List.set_cons_zero, List.set_cons_succ]
                            rfl
                          refine one_ (i := 10) (N := some 32) #[true, true, true, true, true, true, true, true, true, true, true, true, true, false, false, true, false] rfl rfl (one_of HT_.out (by kernel_rfl)) (by decide) (fun K hK => ?_)
                          refine Kd.R_lit_step k70 _ 70 ?hg (N := 32) ?hd (xs := ([] : List (S70))) (inner := []) (ok := fun _ => True) (okp := fun _ => True) ?hr ?hp (fun _ hk => hk) trivial (Below.refl _ _) (Nat.le_refl _) (by simp) ?_; (case hd => rfl); (case hg => rfl); (case hr => first | (go_simp; done) | (go_simp; rfl)); (case hp => exact (Reps.none _ _))
                          intro v122 w35 ho36 hb hg_ hnew_
                          clear hg_ hnew_
                          (first | rw [← Ny121.out] at ho36 | (simp only [Int.reduceToNat] at ho36; rw [← Ny121.out] at ho36))
                          have n0_ := Aside0.mk (Kd.R_below (kR_ HO120.out) hb)
                          have n1_ := Aside0.mk (Kd.R_lower ho36 (below_size (hb3_ HB.out GE108.out GE109.out GE127.out)))
                          have n2_ := Aside0.mk (blk_below (g := gb108) (o := .cells #[.int .i64 a0_0, .int .i64 a0_1, .slice A0_2 l0_2.length c0_2, .slice A0_3 l0_3.length c0_3] 25 (0, 0)) (kb_ BK108.out) hb)
                          have n3_ := Aside0.mk (blk_below (g := gb109) (o := .cells #[.int .i64 0, .int .i64 0, .slice none 0 0, .slice none 0 0] 25 (0, 0)) (kb_ BK109.out) hb)
                          have n4_ := Aside0.mk (blk_below (g := gb127) (o := .cells #[.int .i64 0, .int .i64 0, .slice none 0 0, .slice none 0 0] 25 (0, 0)) (kb_ BK127.out) hb)
                          have n5_ := Aside0.mk (below_step (hb3_ HB.out GE108.out GE109.out GE127.out) hb)
                          clear HO120
                          clear BK108
                          clear BK109
                          clear BK127
                          clear HB
                          have HO120 := n0_
                          have HO123 := n1_
                          have BK108 := n2_
                          have BK109 := n3_
                          have BK127 := n4_
                          have HB := n5_
                          clear n0_ n1_ n2_ n3_ n4_ n5_
                          clear hb ho36
                          refine hK.out _ _ ⟨(blk_cell BK108.out 0).trans rfl, (blk_cell BK108.out 1).trans rfl, (blk_cell BK108.out 2).trans rfl, (blk_cell BK108.out 3).trans rfl⟩ (fun hHeld => ?_)
                          clear hK K
                          refine norm_ (a' := ?_) ?_ ?_
                          rotate_left
                          · show Act.put _ (some 32) _ = _
                            simp only [Act.put, List.setIfInBounds_toArray, List.set_cons_zero, List.set_cons_succ, i64_w, i32_w]
                            rfl
                          exact norm_ (by first | (simp only [putAll, Act.put, List.setIfInBounds_toArray, List.set_cons_zero, List.set_cons_succ]; done) | (simp only [putAll, Act.put, List.setIfInBounds_toArray, List.set_cons_zero, List.set_cons_succ]; rfl)) (hJ4_9_10_15 (v115, v119, v122, gb127) _ ⟨hHeld, (kR_ HO120.out), (kR_ HO123.out), (kb_ BK108.out), (kb_ BK109.out), (kb_ BK127.out), GW127.out, GE127.out, NB108_127.out, NB127_108.out, NB109_127.out, NB127_109.out, (hb3_ HB.out GE108.out GE109.out GE127.out)⟩)
                      · skip
                        rintro ⟨v115, v119, v122⟩ w35 ⟨hS_, h0_, h1_, h2_, h3_, h4_⟩
                        have n0_ : Aside0 (Kd.R (Kd.int .u8) 5 w35 w.heap.size (fun _ => True) v119 y118) := ⟨h0_⟩
                        have n1_ : Aside0 (Kd.R k70 70 w35 w.heap.size (fun _ => True) v122 y121) := ⟨h1_⟩
                        have n2_ : Aside0 (w35.heap[gb108]? = some (.cells #[.int .i64 a0_0, .int .i64 a0_1, .slice A0_2 l0_2.length c0_2, .slice A0_3 l0_3.length c0_3] 25 (0, 0))) := ⟨h2_⟩
                        have n3_ : Aside0 (w35.heap[gb109]? = some (.cells #[.int .i64 0, .int .i64 0, .slice none 0 0, .slice none 0 0] 25 (0, 0))) := ⟨h3_⟩
                        have n4_ : Aside0 (Below w.heap.size w w35) := ⟨h4_⟩
                        clear BK108
                        clear BK109
                        clear HB
                        clear h0_ h1_ h2_ h3_ h4_
                        have HO120 := n0_
                        have HO123 := n1_
                        have BK108 := n2_
                        have BK109 := n3_
                        have HB := n4_
                        clear n0_ n1_ n2_ n3_ n4_
                        have hHeld : w35.cell? ⟨gb108, 0, none⟩ = some (.int .i64 a0_0) ∧ w35.cell? ⟨gb108, 1, none⟩ = some (.int .i64 a0_1) ∧ w35.cell? ⟨gb108, 2, none⟩ = some (.slice A0_2 l0_2.length c0_2) ∧ w35.cell? ⟨gb108, 3, none⟩ = some (.slice A0_3 l0_3.length c0_3) := hS_
                        refine norm_ (a' := ?_) ?_ ?_
                        rotate_left
                        · simp only [putAll, Act.put, List.setIfInBounds_toArray, List.set_cons_zero, List.set_cons_succ]
                          rfl
                        refine two_ (i := 13) (j := 15) (Ni := some 35) (Nj := some 7) #[true, true, true, true, true, true, true, true, true, true, true, true, true, true, false, false, false] #[true, true, true, true, true, true, true, true, true, true, true, true, true, false, false, true, false] rfl rfl rfl rfl (two_of HT_.out (by kernel_rfl)) (by decide) (by decide) (fun K hK => ?_) (fun K hK => ?_)
                        · skip
                          refine Kd.R_append_rows_step k70 (w0 := w) w.heap.size (by rfl) (.tmp 32) (.tmp 34) 23 70 (.agg #[(.int .i64 0), (.int .u8 0)]) 16 rfl Try.underlying23 info70 rfl (by decide) (by omega) v122 y121 l0_3 _ _ _ (fun _ => True) (fun _ => False) rfl rfl ?aO ?aR (fun _ _ h => h) (fun _ h => h.elim) ?aF ?aB ?aS ?aL ?_
                          (case aR => exact kC_ (Kd.C_below HR0_3.out HB.out))
                          (case aB => exact (hb2_ HB.out GE108.out GE109.out))
                          (case aF => exact (fun _ _ => trivial))
                          (case aO => exact (kR_ HO123.out))
                          (case aS => exact (below_size (hb2_ HB.out GE108.out GE109.out)))
                          (case aL => have := LMc18.out; omega)
                          intro v125 w36 ho hb hg hat
                          rw [← Ny124.out] at ho
                          have n0_ := Aside0.mk (blk_grown (g := gb108) (o := .cells #[.int .i64 a0_0, .int .i64 a0_1, .slice A0_2 l0_2.length c0_2, .slice A0_3 l0_3.length c0_3] 25 (0, 0)) (kb_ BK108.out) hg (Kd.R_ne HO123.out BK108.out (by decide)))
                          have n1_ := Aside0.mk (blk_grown (g := gb109) (o := .cells #[.int .i64 0, .int .i64 0, .slice none 0 0, .slice none 0 0] 25 (0, 0)) (kb_ BK109.out) hg (Kd.R_ne HO123.out BK109.out (by decide)))
                          have n2_ := Aside0.mk (Kd.R_over' (kR_ HO120.out) (Kd.R_typed (kR_ HO123.out)) (by decide) hg)
                          have n3_ := Aside0.mk (hb)
                          have n4_ := Aside0.mk (ho)
                          clear BK108
                          clear BK109
                          clear HO120
                          clear HB
                          clear HO123
                          have BK108 := n0_
                          have BK109 := n1_
                          have HO120 := n2_
                          have HB := n3_
                          have HO126 := n4_
                          clear n0_ n1_ n2_ n3_ n4_
                          clear ho hb hg hat
                          obtain ⟨Ao37, co37, eo37⟩ := Kd.R_slice HO126.out
                          (first | subst eo37 | (injection eo37 with f1_ f2_ f3_; have f4_ := f1_.symm; have f5_ := f3_.symm; clear f1_ f2_ f3_; subst f4_; subst f5_))
                          obtain ⟨Ao38, co38, eo38⟩ := Kd.R_slice HO120.out
                          (first | subst eo38 | (injection eo38 with f1_ f2_ f3_; have f4_ := f1_.symm; have f5_ := f3_.symm; clear f1_ f2_ f3_; subst f4_; subst f5_))
                          refine hK.out _ _ ⟨(blk_cell BK108.out 0).trans rfl, (blk_cell BK108.out 1).trans rfl, (blk_cell BK108.out 2).trans rfl, (blk_cell BK108.out 3).trans rfl⟩ (fun hHeld => ?_)
                          clear hK K
                          refine norm_ (a' := ?_) ?_ ?_
                          rotate_left
                          · show Act.put _ (some 35) _ = _
                            simp only [Act.put, List.setIfInBounds_toArray, List.set_cons_zero, List.set_cons_succ, i64_w, i32_w]
                            rfl
                          refine pure_ (i := 14) (N := some 36) (v := ?_) (a' := ?_) #[true, true, true, true, true, true, true, true, true, true, true, true, true, true, true, false, false] rfl rfl (any_of HT_.out (by kernel_rfl)) (fun _ _ _ h => h) (Or.inl ⟨by rfl, ?_⟩) ?_ ?_
                          rotate_left
                          · intro w'
                            go_simp
                            with_reducible rfl
                          rotate_left
                          · simp only [Act.put, List.setIfInBounds_toArray, List.set_cons_zero, List.set_cons_succ, i64_w, i32_w]
                            rfl
                          exact norm_ (by first | (simp only [putAll, Act.put, List.setIfInBounds_toArray, List.set_cons_zero, List.set_cons_succ]; done) | (simp only [putAll, Act.put, List.setIfInBounds_toArray, List.set_cons_zero, List.set_cons_succ]; rfl)) (hJ4_9_10_13 (v115, .slice Ao38 y118.length co38, v122, .slice Ao37 y124.length co37) _ ⟨hHeld, (kR_ HO120.out), (kR_ HO126.out), (kb_ BK108.out), (kb_ BK109.out), (hb2_ HB.out GE108.out GE109.out)⟩)
                        · skip
                          refine box_step ?hg (N := 7) ?hd (cs := #[.int .i64 0, .int .i64 0, .slice none 0 0, .slice none 0 0]) (t := 25) ?hr ?_; (case hd => rfl); (case hg => rfl); (case hr => first | (go_simp; done) | (go_simp; rfl))
                          intro gb127 hg w36 hbox hb
                          have n0_ := Aside0.mk (Kd.R_below (kR_ HO120.out) hb)
                          have n1_ := Aside0.mk (Kd.R_below (kR_ HO123.out) hb)
                          have n2_ := Aside0.mk (blk_below (g := gb108) (o := .cells #[.int .i64 a0_0, .int .i64 a0_1, .slice A0_2 l0_2.length c0_2, .slice A0_3 l0_3.length c0_3] 25 (0, 0)) (kb_ BK108.out) hb)
                          have n3_ := Aside0.mk (blk_below (g := gb109) (o := .cells #[.int .i64 0, .int .i64 0, .slice none 0 0, .slice none 0 0] 25 (0, 0)) (kb_ BK109.out) hb)
                          have n4_ := Aside0.mk (below_step (hb2_ HB.out GE108.out GE109.out) hb)
                          have n5_ := Aside0.mk (hbox)
                          have n6_ := Aside0.mk ((by rw [hg]; exact (below_size (hb2_ HB.out GE108.out GE109.out)) : w.heap.size ≤ gb127))
                          have n7_ := Aside0.mk ((by rw [hg]; exact (below_size (hb2_ HB.out GE108.out GE109.out)) : w.heap.size ≤ gb127))
                          have n8_ := Aside0.mk ((by rw [hg]; exact Nat.ne_of_lt (blk_lt (g := gb108) (o := .cells #[.int .i64 a0_0, .int .i64 a0_1, .slice A0_2 l0_2.length c0_2, .slice A0_3 l0_3.length c0_3] 25 (0, 0)) (kb_ BK108.out)) : gb108 ≠ gb127))
                          have n9_ := Aside0.mk ((by rw [hg]; exact Nat.ne_of_gt (blk_lt (g := gb108) (o := .cells #[.int .i64 a0_0, .int .i64 a0_1, .slice A0_2 l0_2.length c0_2, .slice A0_3 l0_3.length c0_3] 25 (0, 0)) (kb_ BK108.out)) : gb127 ≠ gb108))
                          have n10_ := Aside0.mk ((by rw [hg]; exact Nat.ne_of_lt (blk_lt (g := gb109) (o := .cells #[.int .i64 0, .int .i64 0, .slice none 0 0, .slice none 0 0] 25 (0, 0)) (kb_ BK109.out)) : gb109 ≠ gb127))
                          have n11_ := Aside0.mk ((by rw [hg]; exact Nat.ne_of_gt (blk_lt (g := gb109) (o := .cells #[.int .i64 0, .int .i64 0, .slice none 0 0, .slice none 0 0] 25 (0, 0)) (kb_ BK109.out)) : gb127 ≠ gb109))
                          clear HO120
                          clear HO123
                          clear BK108
                          clear BK109
                          clear HB
                          have HO120 := n0_
                          have HO123 := n1_
                          have BK108 := n2_
                          have BK109 := n3_
                          have HB := n4_
                          have BK127 := n5_
                          have GW127 := n6_
                          have GE127 := n7_
                          have NB108_127 := n8_
                          have NB127_108 := n9_
                          have NB109_127 := n10_
                          have NB127_109 := n11_
                          clear n0_ n1_ n2_ n3_ n4_ n5_ n6_ n7_ n8_ n9_ n10_ n11_
                          clear hb hbox hg
                          refine hK.out _ _ ⟨(blk_cell BK108.out 0).trans rfl, (blk_cell BK108.out 1).trans rfl, (blk_cell BK108.out 2).trans rfl, (blk_cell BK108.out 3).trans rfl⟩ (fun hHeld => ?_)
                          clear hK K
                          refine norm_ (a' := ?_) ?_ ?_
                          rotate_left
                          · show Act.put _ (some 7) _ = _
                            simp only [Act.put, List.setIfInBounds_toArray, List.set_cons_zero, List.set_cons_succ, i64_w, i32_w]
                            rfl
                          exact norm_ (by first | (simp only [putAll, Act.put, List.setIfInBounds_toArray, List.set_cons_zero, List.set_cons_succ]; done) | (simp only [putAll, Act.put, List.setIfInBounds_toArray, List.set_cons_zero, List.set_cons_succ]; rfl)) (hJ4_9_10_15 (v115, v119, v122, gb127) _ ⟨hHeld, (kR_ HO120.out), (kR_ HO123.out), (kb_ BK108.out), (kb_ BK109.out), (kb_ BK127.out), GW127.out, GE127.out, NB108_127.out, NB127_108.out, NB109_127.out, NB127_109.out, (hb3_ HB.out GE108.out GE109.out GE127.out)⟩)
                    · skip
                      rintro ⟨v115, v119, v122, gb127⟩ w36 ⟨hS_, h0_, h1_, h2_, h3_, h4_, h5_, h6_, h7_, h8_, h9_, h10_, h11_⟩
                      have n0_ : Aside0 (Kd.R (Kd.int .u8) 5 w36 w.heap.size (fun _ => True) v119 y118) := ⟨h0_⟩
                      have n1_ : Aside0 (Kd.R k70 70 w36 w.heap.size (fun _ => True) v122 y121) := ⟨h1_⟩
                      have n2_ : Aside0 (w36.heap[gb108]? = some (.cells #[.int .i64 a0_0, .int .i64 a0_1, .slice A0_2 l0_2.length c0_2, .slice A0_3 l0_3.length c0_3] 25 (0, 0))) := ⟨h2_⟩
                      have n3_ : Aside0 (w36.heap[gb109]? = some (.cells #[.int .i64 0, .int .i64 0, .slice none 0 0, .slice none 0 0] 25 (0, 0))) := ⟨h3_⟩
                      have n4_ : Aside0 (w36.heap[gb127]? = some (.cells #[.int .i64 0, .int .i64 0, .slice none 0 0, .slice none 0 0] 25 (0, 0))) := ⟨h4_⟩
                      have n5_ : Aside0 (w.heap.size ≤ gb127) := ⟨h5_⟩
                      have n6_ : Aside0 (w.heap.size ≤ gb127) := ⟨h6_⟩
                      have n7_ : Aside0 (gb108 ≠ gb127) := ⟨h7_⟩
                      have n8_ : Aside0 (gb127 ≠ gb108) := ⟨h8_⟩
                      have n9_ : Aside0 (gb109 ≠ gb127) := ⟨h9_⟩
                      have n10_ : Aside0 (gb127 ≠ gb109) := ⟨h10_⟩
                      have n11_ : Aside0 (Below w.heap.size w w36) := ⟨h11_⟩
                      clear BK108
                      clear BK109
                      clear HB
                      clear h0_ h1_ h2_ h3_ h4_ h5_ h6_ h7_ h8_ h9_ h10_ h11_
                      have HO120 := n0_
                      have HO123 := n1_
                      have BK108 := n2_
                      have BK109 := n3_
                      have BK127 := n4_
                      have GW127 := n5_
                      have GE127 := n6_
                      have NB108_127 := n7_
                      have NB127_108 := n8_
                      have NB109_127 := n9_
                      have NB127_109 := n10_
                      have HB := n11_
                      clear n0_ n1_ n2_ n3_ n4_ n5_ n6_ n7_ n8_ n9_ n10_ n11_
                      have hHeld : w36.cell? ⟨gb108, 0, none⟩ = some (.int .i64 a0_0) ∧ w36.cell? ⟨gb108, 1, none⟩ = some (.int .i64 a0_1) ∧ w36.cell? ⟨gb108, 2, none⟩ = some (.slice A0_2 l0_2.length c0_2) ∧ w36.cell? ⟨gb108, 3, none⟩ = some (.slice A0_3 l0_3.length c0_3) := hS_
                      refine norm_ (a' := ?_) ?_ ?_
                      rotate_left
                      · simp only [putAll, Act.put, List.setIfInBounds_toArray, List.set_cons_zero, List.set_cons_succ]
                        rfl
                      refine one_ (i := 13) (N := some 35) #[true, true, true, true, true, true, true, true, true, true, true, true, true, true, false, true, false] rfl rfl (one_of HT_.out (by kernel_rfl)) (by decide) (fun K hK => ?_)
                      refine Kd.R_append_rows_step k70 (w0 := w) w.heap.size (by rfl) (.tmp 32) (.tmp 34) 23 70 (.agg #[(.int .i64 0), (.int .u8 0)]) 16 rfl Try.underlying23 info70 rfl (by decide) (by omega) v122 y121 l0_3 _ _ _ (fun _ => True) (fun _ => False) rfl rfl ?aO ?aR (fun _ _ h => h) (fun _ h => h.elim) ?aF ?aB ?aS ?aL ?_
                      (case aR => exact kC_ (Kd.C_below HR0_3.out HB.out))
                      (case aB => exact (hb3_ HB.out GE108.out GE109.out GE127.out))
                      (case aF => exact (fun _ _ => trivial))
                      (case aO => exact (kR_ HO123.out))
                      (case aS => exact (below_size (hb3_ HB.out GE108.out GE109.out GE127.out)))
                      (case aL => have := LMc18.out; omega)
                      intro v125 w37 ho hb hg hat
                      rw [← Ny124.out] at ho
                      have n0_ := Aside0.mk (blk_grown (g := gb108) (o := .cells #[.int .i64 a0_0, .int .i64 a0_1, .slice A0_2 l0_2.length c0_2, .slice A0_3 l0_3.length c0_3] 25 (0, 0)) (kb_ BK108.out) hg (Kd.R_ne HO123.out BK108.out (by decide)))
                      have n1_ := Aside0.mk (blk_grown (g := gb109) (o := .cells #[.int .i64 0, .int .i64 0, .slice none 0 0, .slice none 0 0] 25 (0, 0)) (kb_ BK109.out) hg (Kd.R_ne HO123.out BK109.out (by decide)))
                      have n2_ := Aside0.mk (Kd.R_over' (kR_ HO120.out) (Kd.R_typed (kR_ HO123.out)) (by decide) hg)
                      have n3_ := Aside0.mk (blk_grown (g := gb127) (o := .cells #[.int .i64 0, .int .i64 0, .slice none 0 0, .slice none 0 0] 25 (0, 0)) (kb_ BK127.out) hg (Kd.R_ne HO123.out BK127.out (by decide)))
                      have n4_ := Aside0.mk (hb)
                      have n5_ := Aside0.mk (ho)
                      clear BK108
                      clear BK109
                      clear HO120
                      clear BK127
                      clear HB
                      clear HO123
                      have BK108 := n0_
                      have BK109 := n1_
                      have HO120 := n2_
                      have BK127 := n3_
                      have HB := n4_
                      have HO126 := n5_
                      clear n0_ n1_ n2_ n3_ n4_ n5_
                      clear ho hb hg hat
                      obtain ⟨Ao38, co38, eo38⟩ := Kd.R_slice HO126.out
                      (first | subst eo38 | (injection eo38 with f1_ f2_ f3_; have f4_ := f1_.symm; have f5_ := f3_.symm; clear f1_ f2_ f3_; subst f4_; subst f5_))
                      obtain ⟨Ao39, co39, eo39⟩ := Kd.R_slice HO120.out
                      (first | subst eo39 | (injection eo39 with f1_ f2_ f3_; have f4_ := f1_.symm; have f5_ := f3_.symm; clear f1_ f2_ f3_; subst f4_; subst f5_))
                      refine hK.out _ _ ⟨(blk_cell BK108.out 0).trans rfl, (blk_cell BK108.out 1).trans rfl, (blk_cell BK108.out 2).trans rfl, (blk_cell BK108.out 3).trans rfl⟩ (fun hHeld => ?_)
                      clear hK K
                      refine norm_ (a' := ?_) ?_ ?_
                      rotate_left
                      · show Act.put _ (some 35) _ = _
                        simp only [Act.put, List.setIfInBounds_toArray, List.set_cons_zero, List.set_cons_succ, i64_w, i32_w]
                        rfl
                      refine pure_ (i := 14) (N := some 36) (v := ?_) (a' := ?_) #[true, true, true, true, true, true, true, true, true, true, true, true, true, true, true, true, false] rfl rfl (any_of HT_.out (by kernel_rfl)) (fun _ _ _ h => h) (Or.inl ⟨by rfl, ?_⟩) ?_ ?_
                      rotate_left
                      · intro w'
                        go_simp
                        with_reducible rfl
                      rotate_left
                      · simp only [Act.put, List.setIfInBounds_toArray, List.set_cons_zero, List.set_cons_succ, i64_w, i32_w]
                        rfl
                      exact norm_ (by first | (simp only [putAll, Act.put, List.setIfInBounds_toArray, List.set_cons_zero, List.set_cons_succ]; done) | (simp only [putAll, Act.put, List.setIfInBounds_toArray, List.set_cons_zero, List.set_cons_succ]; rfl)) (hJ4_9_10_13_15 (v115, .slice Ao39 y118.length co39, v122, .slice Ao38 y124.length co38, gb127) _ ⟨hHeld, (kR_ HO120.out), (kR_ HO126.out), (kb_ BK108.out), (kb_ BK109.out), (kb_ BK127.out), GW127.out, GE127.out, NB108_127.out, NB127_108.out, NB109_127.out, NB127_109.out, (hb3_ HB.out GE108.out GE109.out GE127.out)⟩)
                  · skip
                    rintro ⟨v115, v119, v122, v125⟩ w38 ⟨hS_, h0_, h1_, h2_, h3_, h4_⟩
                    have n0_ : Aside0 (Kd.R (Kd.int .u8) 5 w38 w.heap.size (fun _ => True) v119 y118) := ⟨h0_⟩
                    have n1_ : Aside0 (Kd.R k70 70 w38 w.heap.size (fun _ => True) v125 y124) := ⟨h1_⟩
                    have n2_ : Aside0 (w38.heap[gb108]? = some (.cells #[.int .i64 a0_0, .int .i64 a0_1, .slice A0_2 l0_2.length c0_2, .slice A0_3 l0_3.length c0_3] 25 (0, 0))) := ⟨h2_⟩
                    have n3_ : Aside0 (w38.heap[gb109]? = some (.cells #[.int .i64 0, .int .i64 0, .slice none 0 0, .slice none 0 0] 25 (0, 0))) := ⟨h3_⟩
                    have n4_ : Aside0 (Below w.heap.size w w38) := ⟨h4_⟩
                    clear BK108
                    clear BK109
                    clear HB
                    clear h0_ h1_ h2_ h3_ h4_
                    have HO120 := n0_
                    have HO126 := n1_
                    have BK108 := n2_
                    have BK109 := n3_
                    have HB := n4_
                    clear n0_ n1_ n2_ n3_ n4_
                    have hHeld : w38.cell? ⟨gb108, 0, none⟩ = some (.int .i64 a0_0) ∧ w38.cell? ⟨gb108, 1, none⟩ = some (.int .i64 a0_1) ∧ w38.cell? ⟨gb108, 2, none⟩ = some (.slice A0_2 l0_2.length c0_2) ∧ w38.cell? ⟨gb108, 3, none⟩ = some (.slice A0_3 l0_3.length c0_3) := hS_
                    obtain ⟨Ao39, co39, eo39⟩ := Kd.R_slice HO126.out
                    (first | subst eo39 | (injection eo39 with f1_ f2_ f3_; have f4_ := f1_.symm; have f5_ := f3_.symm; clear f1_ f2_ f3_; subst f4_; subst f5_))
                    obtain ⟨Ao40, co40, eo40⟩ := Kd.R_slice HO120.out
                    (first | subst eo40 | (injection eo40 with f1_ f2_ f3_; have f4_ := f1_.symm; have f5_ := f3_.symm; clear f1_ f2_ f3_; subst f4_; subst f5_))
                    refine norm_ (a' := ?_) ?_ ?_
                    rotate_left
                    · simp only [putAll, Act.put, List.setIfInBounds_toArray, List.set_cons_zero, List.set_cons_succ]
                      rfl
                    refine one_ (i := 15) (N := some 7) #[true, true, true, true, true, true, true, true, true, true, true, true, true, true, true, true, false] rfl rfl (one_of HT_.out (by kernel_rfl)) (by decide) (fun K hK => ?_)
                    refine box_step ?hg (N := 7) ?hd (cs := #[.int .i64 0, .int .i64 0, .slice none 0 0, .slice none 0 0]) (t := 25) ?hr ?_; (case hd => rfl); (case hg => rfl); (case hr => first | (go_simp; done) | (go_simp; rfl))
                    intro gb127 hg w41 hbox hb
                    have n0_ := Aside0.mk (Kd.R_below (kR_ HO120.out) hb)
                    have n1_ := Aside0.mk (Kd.R_below (kR_ HO126.out) hb)
                    have n2_ := Aside0.mk (blk_below (g := gb108) (o := .cells #[.int .i64 a0_0, .int .i64 a0_1, .slice A0_2 l0_2.length c0_2, .slice A0_3 l0_3.length c0_3] 25 (0, 0)) (kb_ BK108.out) hb)
                    have n3_ := Aside0.mk (blk_below (g := gb109) (o := .cells #[.int .i64 0, .int .i64 0, .slice none 0 0, .slice none 0 0] 25 (0, 0)) (kb_ BK109.out) hb)
                    have n4_ := Aside0.mk (below_step (hb2_ HB.out GE108.out GE109.out) hb)
                    have n5_ := Aside0.mk (hbox)
                    have n6_ := Aside0.mk ((by rw [hg]; exact (below_size (hb2_ HB.out GE108.out GE109.out)) : w.heap.size ≤ gb127))
                    have n7_ := Aside0.mk ((by rw [hg]; exact (below_size (hb2_ HB.out GE108.out GE109.out)) : w.heap.size ≤ gb127))
                    have n8_ := Aside0.mk ((by rw [hg]; exact Nat.ne_of_lt (blk_lt (g := gb108) (o := .cells #[.int .i64 a0_0, .int .i64 a0_1, .slice A0_2 l0_2.length c0_2, .slice A0_3 l0_3.length c0_3] 25 (0, 0)) (kb_ BK108.out)) : gb108 ≠ gb127))
                    have n9_ := Aside0.mk ((by rw [hg]; exact Nat.ne_of_gt (blk_lt (g := gb108) (o := .cells #[.int .i64 a0_0, .int .i64 a0_1, .slice A0_2 l0_2.length c0_2, .slice A0_3 l0_3.length c0_3] 25 (0, 0)) (kb_ BK108.out)) : gb127 ≠ gb108))
                    have n10_ := Aside0.mk ((by rw [hg]; exact Nat.ne_of_lt (blk_lt (g := gb109) (o := .cells #[.int .i64 0, .int .i64 0, .slice none 0 0, .slice none 0 0] 25 (0, 0)) (kb_ BK109.out)) : gb109 ≠ gb127))
                    have n11_ := Aside0.mk ((by rw [hg]; exact Nat.ne_of_gt (blk_lt (g := gb109) (o := .cells #[.int .i64 0, .int .i64 0, .slice none 0 0, .slice none 0 0] 25 (0, 0)) (kb_ BK109.out)) : gb127 ≠ gb109))
                    clear HO120
                    clear HO126
                    clear BK108
                    clear BK109
                    clear HB
                    have HO120 := n0_
                    have HO126 := n1_
                    have BK108 := n2_
                    have BK109 := n3_
                    have HB := n4_
                    have BK127 := n5_
                    have GW127 := n6_
                    have GE127 := n7_
                    have NB108_127 := n8_
                    have NB127_108 := n9_
                    have NB109_127 := n10_
                    have NB127_109 := n11_
                    clear n0_ n1_ n2_ n3_ n4_ n5_ n6_ n7_ n8_ n9_ n10_ n11_
                    clear hb hbox hg
                    refine hK.out _ _ ⟨(blk_cell BK108.out 0).trans rfl, (blk_cell BK108.out 1).trans rfl, (blk_cell BK108.out 2).trans rfl, (blk_cell BK108.out 3).trans rfl⟩ (fun hHeld => ?_)
                    clear hK K
                    refine norm_ (a' := ?_) ?_ ?_
                    rotate_left
                    · show Act.put _ (some 7) _ = _
                      simp only [Act.put, List.setIfInBounds_toArray, List.set_cons_zero, List.set_cons_succ, i64_w, i32_w]
                      rfl
                    exact norm_ (by first | (simp only [putAll, Act.put, List.setIfInBounds_toArray, List.set_cons_zero, List.set_cons_succ]; done) | (simp only [putAll, Act.put, List.setIfInBounds_toArray, List.set_cons_zero, List.set_cons_succ]; rfl)) (hJ4_9_10_13_15 (v115, .slice Ao40 y118.length co40, v122, .slice Ao39 y124.length co39, gb127) _ ⟨hHeld, (kR_ HO120.out), (kR_ HO126.out), (kb_ BK108.out), (kb_ BK109.out), (kb_ BK127.out), GW127.out, GE127.out, NB108_127.out, NB127_108.out, NB109_127.out, NB127_109.out, (hb3_ HB.out GE108.out GE109.out GE127.out)⟩)
                rintro ⟨v115, v119, v122, v125, gb127⟩ w39 ⟨hS_, h0_, h1_, h2_, h3_, h4_, h5_, h6_, h7_, h8_, h9_, h10_, h11_⟩
                have n0_ : Aside0 (Kd.R (Kd.int .u8) 5 w39 w.heap.size (fun _ => True) v119 y118) := ⟨h0_⟩
                have n1_ : Aside0 (Kd.R k70 70 w39 w.heap.size (fun _ => True) v125 y124) := ⟨h1_⟩
                have n2_ : Aside0 (w39.heap[gb108]? = some (.cells #[.int .i64 a0_0, .int .i64 a0_1, .slice A0_2 l0_2.length c0_2, .slice A0_3 l0_3.length c0_3] 25 (0, 0))) := ⟨h2_⟩
                have n3_ : Aside0 (w39.heap[gb109]? = some (.cells #[.int .i64 0, .int .i64 0, .slice none 0 0, .slice none 0 0] 25 (0, 0))) := ⟨h3_⟩
                have n4_ : Aside0 (w39.heap[gb127]? = some (.cells #[.int .i64 0, .int .i64 0, .slice none 0 0, .slice none 0 0] 25 (0, 0))) := ⟨h4_⟩
                have n5_ : Aside0 (w.heap.size ≤ gb127) := ⟨h5_⟩
                have n6_ : Aside0 (w.heap.size ≤ gb127) := ⟨h6_⟩
                have n7_ : Aside0 (gb108 ≠ gb127) := ⟨h7_⟩
                have n8_ : Aside0 (gb127 ≠ gb108) := ⟨h8_⟩
                have n9_ : Aside0 (gb109 ≠ gb127) := ⟨h9_⟩
                have n10_ : Aside0 (gb127 ≠ gb109) := ⟨h10_⟩
                have n11_ : Aside0 (Below w.heap.size w w39) := ⟨h11_⟩
                clear BK108
                clear BK109
                clear HB
                clear h0_ h1_ h2_ h3_ h4_ h5_ h6_ h7_ h8_ h9_ h10_ h11_
                have HO120 := n0_
                have HO126 := n1_
                have BK108 := n2_
                have BK109 := n3_
                have BK127 := n4_
                have GW127 := n5_
                have GE127 := n6_
                have NB108_127 := n7_
                have NB127_108 := n8_
                have NB109_127 := n9_
                have NB127_109 := n10_
                have HB := n11_
                clear n0_ n1_ n2_ n3_ n4_ n5_ n6_ n7_ n8_ n9_ n10_ n11_
                have hHeld : w39.cell? ⟨gb108, 0, none⟩ = some (.int .i64 a0_0) ∧ w39.cell? ⟨gb108, 1, none⟩ = some (.int .i64 a0_1) ∧ w39.cell? ⟨gb108, 2, none⟩ = some (.slice A0_2 l0_2.length c0_2) ∧ w39.cell? ⟨gb108, 3, none⟩ = some (.slice A0_3 l0_3.length c0_3) := hS_
                obtain ⟨Ao40, co40, eo40⟩ := Kd.R_slice HO126.out
                (first | subst eo40 | (injection eo40 with f1_ f2_ f3_; have f4_ := f1_.symm; have f5_ := f3_.symm; clear f1_ f2_ f3_; subst f4_; subst f5_))
                obtain ⟨Ao41, co41, eo41⟩ := Kd.R_slice HO120.out
                (first | subst eo41 | (injection eo41 with f1_ f2_ f3_; have f4_ := f1_.symm; have f5_ := f3_.symm; clear f1_ f2_ f3_; subst f4_; subst f5_))
                refine norm_ (a' := ?_) ?_ ?_
                rotate_left
                · simp only [putAll, Act.put, List.setIfInBounds_toArray, List.set_cons_zero, List.set_cons_succ]
                  rfl
                refine one_ (i := 16) (N := none) #[true, true, true, true, true, true, true, true, true, true, true, true, true, true, true, true, true] rfl rfl (one_of HT_.out (by kernel_rfl)) (by decide) (fun K hK => ?_)
                have hs42 : w39.cell? ⟨gb127, 0, none⟩ = some (.int .i64 0) := (blk_cell BK127.out 0).trans rfl
                have hfs42 := blk_frozen BK127.out 0
                have hns42_0 := NB108_127.out
                have hns42_1 := NB109_127.out
                have hms42_0 := NB127_108.out
                have hms42_1 := NB127_109.out
                have hs43 : w39.cell? ⟨gb127, 1, none⟩ = some (.int .i64 0) := (blk_cell BK127.out 1).trans rfl
                have hfs43 := blk_frozen BK127.out 1
                have hns43_0 := NB108_127.out
                have hns43_1 := NB109_127.out
                have hms43_0 := NB127_108.out
                have hms43_1 := NB127_109.out
                have hs44 : w39.cell? ⟨gb127, 2, none⟩ = some (.slice none 0 0) := (blk_cell BK127.out 2).trans rfl
                have hfs44 := blk_frozen BK127.out 2
                have hns44_0 := NB108_127.out
                have hns44_1 := NB109_127.out
                have hms44_0 := NB127_108.out
                have hms44_1 := NB127_109.out
                have hs45 : w39.cell? ⟨gb127, 3, none⟩ = some (.slice none 0 0) := (blk_cell BK127.out 3).trans rfl
                have hfs45 := blk_frozen BK127.out 3
                have hns45_0 := NB108_127.out
                have hns45_1 := NB109_127.out
                have hms45_0 := NB127_108.out
                have hms45_1 := NB127_109.out
                refine skip_ (w1 := ?_) (by rfl) rfl ?_ ?_
                rotate_left
                · go_simp
                  rfl
                refine hK.out _ _ ⟨((cell_far (p := ⟨gb127, _, none⟩) NB108_127.out _).trans (((cell_far (p := ⟨gb127, _, none⟩) NB108_127.out _).trans (((cell_far (p := ⟨gb127, _, none⟩) NB108_127.out _).trans (((cell_far (p := ⟨gb127, _, none⟩) NB108_127.out _).trans (hHeld.1)))))))), ((cell_far (p := ⟨gb127, _, none⟩) NB108_127.out _).trans (((cell_far (p := ⟨gb127, _, none⟩) NB108_127.out _).trans (((cell_far (p := ⟨gb127, _, none⟩) NB108_127.out _).trans (((cell_far (p := ⟨gb127, _, none⟩) NB108_127.out _).trans (hHeld.2.1)))))))), ((cell_far (p := ⟨gb127, _, none⟩) NB108_127.out _).trans (((cell_far (p := ⟨gb127, _, none⟩) NB108_127.out _).trans (((cell_far (p := ⟨gb127, _, none⟩) NB108_127.out _).trans (((cell_far (p := ⟨gb127, _, none⟩) NB108_127.out _).trans (hHeld.2.2.1)))))))), ((cell_far (p := ⟨gb127, _, none⟩) NB108_127.out _).trans (((cell_far (p := ⟨gb127, _, none⟩) NB108_127.out _).trans (((cell_far (p := ⟨gb127, _, none⟩) NB108_127.out _).trans (((cell_far (p := ⟨gb127, _, none⟩) NB108_127.out _).trans (hHeld.2.2.2))))))))⟩ (fun hHeld => ?_)
                clear hK K
                refine done_ (done_of HT_.out (by kernel_rfl)) ?_
                try go_wp2
                have n0_ : Aside0 (Kd.R (Kd.int .u8) 5 ((((w39.setCell ⟨gb127, 0, none⟩ (.int .i64 a0_0)).setCell ⟨gb127, 1, none⟩ (.int .i64 a0_1)).setCell ⟨gb127, 2, none⟩ (.slice Ao41 y118.length co41)).setCell ⟨gb127, 3, none⟩ (.slice Ao40 y124.length co40)) w.heap.size (fun _ => True) (.slice Ao41 y118.length co41) y118) := ⟨by refine kR_ ?_; exact Kd.R_mono (Kd.R_f gb127 3 (.slice Ao40 y124.length co40) (Kd.R_f gb127 2 (.slice Ao41 y118.length co41) (Kd.R_f gb127 1 (.int .i64 a0_1) (Kd.R_f gb127 0 (.int .i64 a0_0) (Kd.R_types HO120.out BK127.out (by decide)))))) (fun _ hk => trivial)⟩
                have n1_ : Aside0 (Kd.R k70 70 ((((w39.setCell ⟨gb127, 0, none⟩ (.int .i64 a0_0)).setCell ⟨gb127, 1, none⟩ (.int .i64 a0_1)).setCell ⟨gb127, 2, none⟩ (.slice Ao41 y118.length co41)).setCell ⟨gb127, 3, none⟩ (.slice Ao40 y124.length co40)) w.heap.size (fun _ => True) (.slice Ao40 y124.length co40) y124) := ⟨by refine kR_ ?_; exact Kd.R_mono (Kd.R_f gb127 3 (.slice Ao40 y124.length co40) (Kd.R_f gb127 2 (.slice Ao41 y118.length co41) (Kd.R_f gb127 1 (.int .i64 a0_1) (Kd.R_f gb127 0 (.int .i64 a0_0) (Kd.R_types HO126.out BK127.out (by decide)))))) (fun _ hk => trivial)⟩
                have n2_ : Aside0 (((((w39.setCell ⟨gb127, 0, none⟩ (.int .i64 a0_0)).setCell ⟨gb127, 1, none⟩ (.int .i64 a0_1)).setCell ⟨gb127, 2, none⟩ (.slice Ao41 y118.length co41)).setCell ⟨gb127, 3, none⟩ (.slice Ao40 y124.length co40)).heap[gb108]? = some (.cells #[.int .i64 a0_0, .int .i64 a0_1, .slice A0_2 l0_2.length c0_2, .slice A0_3 l0_3.length c0_3] 25 (0, 0))) := ⟨by refine kb_ ?_; refine blk_far ?_ NB108_127.out _; refine kb_ ?_; refine blk_far ?_ NB108_127.out _; refine kb_ ?_; refine blk_far ?_ NB108_127.out _; refine kb_ ?_; refine blk_far ?_ NB108_127.out _; refine kb_ ?_; exact BK108.out⟩
                have n3_ : Aside0 (((((w39.setCell ⟨gb127, 0, none⟩ (.int .i64 a0_0)).setCell ⟨gb127, 1, none⟩ (.int .i64 a0_1)).setCell ⟨gb127, 2, none⟩ (.slice Ao41 y118.length co41)).setCell ⟨gb127, 3, none⟩ (.slice Ao40 y124.length co40)).heap[gb109]? = some (.cells #[.int .i64 0, .int .i64 0, .slice none 0 0, .slice none 0 0] 25 (0, 0))) := ⟨by refine kb_ ?_; refine blk_far ?_ NB109_127.out _; refine kb_ ?_; refine blk_far ?_ NB109_127.out _; refine kb_ ?_; refine blk_far ?_ NB109_127.out _; refine kb_ ?_; refine blk_far ?_ NB109_127.out _; refine kb_ ?_; exact BK109.out⟩
                have n4_ : Aside0 (((((w39.setCell ⟨gb127, 0, none⟩ (.int .i64 a0_0)).setCell ⟨gb127, 1, none⟩ (.int .i64 a0_1)).setCell ⟨gb127, 2, none⟩ (.slice Ao41 y118.length co41)).setCell ⟨gb127, 3, none⟩ (.slice Ao40 y124.length co40)).heap[gb127]? = some (.cells #[.int .i64 a0_0, .int .i64 a0_1, .slice Ao41 y118.length co41, .slice Ao40 y124.length co40] 25 (0, 0))) := ⟨by refine kb_ ?_; refine blk_put (cs := #[.int .i64 a0_0, .int .i64 a0_1, .slice Ao41 y118.length co41, .slice none 0 0]) ?_ 3 _ rfl; refine kb_ ?_; refine blk_put (cs := #[.int .i64 a0_0, .int .i64 a0_1, .slice none 0 0, .slice none 0 0]) ?_ 2 _ rfl; refine kb_ ?_; refine blk_put (cs := #[.int .i64 a0_0, .int .i64 0, .slice none 0 0, .slice none 0 0]) ?_ 1 _ rfl; refine kb_ ?_; refine blk_put (cs := #[.int .i64 0, .int .i64 0, .slice none 0 0, .slice none 0 0]) ?_ 0 _ rfl; refine kb_ ?_; exact BK127.out⟩
                have n5_ : Aside0 (Below w.heap.size w ((((w39.setCell ⟨gb127, 0, none⟩ (.int .i64 a0_0)).setCell ⟨gb127, 1, none⟩ (.int .i64 a0_1)).setCell ⟨gb127, 2, none⟩ (.slice Ao41 y118.length co41)).setCell ⟨gb127, 3, none⟩ (.slice Ao40 y124.length co40))) := ⟨by repeat (first | (with_reducible first | exact HB.out | apply below_alloc | apply pw_below_drewN | apply below_drew1 | refine below_set ?_ GE108.out | refine below_set ?_ GE109.out | refine below_set ?_ GE127.out) | exact HB.out)⟩
                (try clear HO120)
                (try clear HO126)
                (try clear BK108)
                (try clear BK109)
                (try clear BK127)
                (try clear HB)
                generalize ((((w39.setCell ⟨gb127, 0, none⟩ (.int .i64 a0_0)).setCell ⟨gb127, 1, none⟩ (.int .i64 a0_1)).setCell ⟨gb127, 2, none⟩ (.slice Ao41 y118.length co41)).setCell ⟨gb127, 3, none⟩ (.slice Ao40 y124.length co40)) = w46 at n0_ n1_ n2_ n3_ n4_ n5_ ⊢
                have HO120 := n0_
                have HO126 := n1_
                have BK108 := n2_
                have BK109 := n3_
                have BK127 := n4_
                have HB := n5_
                clear n0_ n1_ n2_ n3_ n4_ n5_
                have n0_ := Aside0.mk (Kd.R_drew HO120.out)
                have n1_ := Aside0.mk (Kd.R_drew HO126.out)
                have n2_ := Aside0.mk (blk_drew BK108.out)
                have n3_ := Aside0.mk (blk_drew BK109.out)
                have n4_ := Aside0.mk (blk_drew BK127.out)
                have n5_ := Aside0.mk (below_drew1 HB.out)
                clear HO120
                clear HO126
                clear BK108
                clear BK109
                clear BK127
                clear HB
                have HO120 := n0_
                have HO126 := n1_
                have BK108 := n2_
                have BK109 := n3_
                have BK127 := n4_
                have HB := n5_
                clear n0_ n1_ n2_ n3_ n4_ n5_
                obtain ⟨i048, hi048, _, hsz48, _⟩ := info_parts info5
                obtain ⟨hcut48, hA48, hC48⟩ := print_take_of (P := Try.prog) (Value.int .u8) 0 22 5 .i64 Try.underlying22 hi048 hsz48 A0_2 c0_2 l0_2 (ji14) (of_decide_eq_true (by first | (with_reducible assumption) | assumption)) (of_decide_eq_true (by first | (with_reducible assumption) | assumption)) HC0_2.out
                have HR131 := Aside0.mk (Kd.C_of_reads (h1 := fun _ => rfl) (hA48 _ (Kd.reads_of_C HR0_2.out)))
                have HC131 := Aside0.mk hC48
                clear hA48 hC48 hi048 hsz48
                refine start_ (n := 9) (S := fun w' => w'.cell? ⟨gb127, 0, none⟩ = some (.int .i64 a0_0) ∧ w'.cell? ⟨gb127, 1, none⟩ = some (.int .i64 a0_1) ∧ w'.cell? ⟨gb127, 2, none⟩ = some (.slice Ao41 y118.length co41) ∧ w'.cell? ⟨gb127, 3, none⟩ = some (.slice Ao40 y124.length co40) ∧ w'.cell? ⟨gb108, 0, none⟩ = some (.int .i64 a0_0) ∧ w'.cell? ⟨gb108, 1, none⟩ = some (.int .i64 a0_1) ∧ w'.cell? ⟨gb108, 2, none⟩ = some (.slice A0_2 l0_2.length c0_2) ∧ w'.cell? ⟨gb108, 3, none⟩ = some (.slice A0_3 l0_3.length c0_3)) (ds := []) #[false, false, false, false, false, false, false, false, false] (by kernel_rfl) rfl rfl ⟨(blk_cell BK127.out 0).trans rfl, (blk_cell BK127.out 1).trans rfl, (blk_cell BK127.out 2).trans rfl, (blk_cell BK127.out 3).trans rfl, (blk_cell BK108.out 0).trans rfl, (blk_cell BK108.out 1).trans rfl, (blk_cell BK108.out 2).trans rfl, (blk_cell BK108.out 3).trans rfl⟩ (fun hHeld => ?_); refine with_tabW spec_EarRead.tab5 spec_EarRead.bits5 (fun HT_ HW_ => ?_)
                generalize w46.drew = w47 at HO120 HO126 BK108 BK109 BK127 HB HR131 hHeld ⊢
                refine pure_ (i := 2) (N := some 39) (v := ?_) (a' := ?_) #[false, false, true, false, false, false, false, false, false] rfl rfl (any_of HT_.out (by kernel_rfl)) (fun _ _ _ h => h) (Or.inl ⟨by rfl, ?_⟩) ?_ ?_
                rotate_left
                · intro w'
                  go_simp
                  with_reducible rfl
                rotate_left
                · simp only [Act.put, List.setIfInBounds_toArray, List.set_cons_zero, List.set_cons_succ, i64_w, i32_w]
                  rfl
                refine pure_ (i := 4) (N := some 41) (v := ?_) (a' := ?_) #[false, false, true, false, true, false, false, false, false] rfl rfl (any_of HT_.out (by kernel_rfl)) (fun _ _ _ h => h) (Or.inl ⟨by rfl, ?_⟩) ?_ ?_
                rotate_left
                · intro w'
                  go_simp
                  with_reducible rfl
                rotate_left
                · simp only [Act.put, List.setIfInBounds_toArray, List.set_cons_zero, List.set_cons_succ, i64_w, i32_w]
                  rfl
                refine take_ (i := 0) (N := some 37) (v := ?_) (a' := ?_) #[true, false, true, false, true, false, false, false, false] rfl rfl (take_ofW HT_.out HW_.out (by kernel_rfl)) (fun _ _ _ h => h) (Or.inl ⟨by rfl, ?_⟩) hHeld ?_ ?_
                rotate_left
                · rintro w' ⟨s0, s1, s2, s3, s4, s5, s6, s7⟩
                  go_simp
                  with_reducible rfl
                rotate_left
                · simp only [Act.put, List.setIfInBounds_toArray, List.set_cons_zero, List.set_cons_succ, i64_w, i32_w]
                  rfl
                refine take_ (i := 3) (N := some 40) (v := ?_) (a' := ?_) #[true, false, true, true, true, false, false, false, false] rfl rfl (take_ofW HT_.out HW_.out (by kernel_rfl)) (fun _ _ _ h => h) (Or.inl ⟨by rfl, ?_⟩) hHeld ?_ ?_
                rotate_left
                · rintro w' ⟨s0, s1, s2, s3, s4, s5, s6, s7⟩
                  go_simp
                  with_reducible rfl
                rotate_left
                · simp only [Act.put, List.setIfInBounds_toArray, List.set_cons_zero, List.set_cons_succ, i64_w, i32_w]
                  rfl
                refine pure_ (i := 5) (N := some 42) (v := ?_) (a' := ?_) #[true, false, true, true, true, true, false, false, false] rfl rfl (any_of HT_.out (by kernel_rfl)) (fun _ _ _ h => h) (Or.inl ⟨by rfl, ?_⟩) ?_ ?_
                rotate_left
                · intro w'
                  go_simp
                  with_reducible rfl
                rotate_left
                · simp only [Act.put, List.setIfInBounds_toArray, List.set_cons_zero, List.set_cons_succ, i64_w, i32_w]
                  rfl
                refine one_ (i := 1) (N := some 38) #[true, true, true, true, true, true, false, false, false] rfl rfl (one_of HT_.out (by kernel_rfl)) (by decide) (fun K hK => ?_)
                refine Kd.R_lit_step (Kd.int .u8) _ 5 ?hg (N := 38) ?hd (xs := ([] : List Int)) (inner := []) (ok := fun _ => True) (okp := fun _ => True) ?hr ?hp (fun _ hk => hk) trivial (Below.refl _ _) (Nat.le_refl _) (by simp) ?_; (case hd => rfl); (case hg => rfl); (case hr => first | (go_simp; done) | (go_simp; rfl)); (case hp => exact (Reps.none _ _))
                intro v129 w49 ho50 hb hg_ hnew_
                clear hg_ hnew_
                (first | rw [← Ny128.out] at ho50 | (simp only [Int.reduceToNat] at ho50; rw [← Ny128.out] at ho50))
                have n0_ := Aside0.mk (Kd.R_elder' (kR_ HO120.out) (Kd.R_base ho50) hb)
                have n1_ := Aside0.mk (Kd.R_below (kR_ HO126.out) hb)
                have n2_ := Aside0.mk (Kd.R_lower (Kd.R_new' ho50 (Kd.R_lt (kR_ HO120.out))) (below_size (hb3_ HB.out GE108.out GE109.out GE127.out)))
                have n3_ := Aside0.mk (blk_below (g := gb108) (o := .cells #[.int .i64 a0_0, .int .i64 a0_1, .slice A0_2 l0_2.length c0_2, .slice A0_3 l0_3.length c0_3] 25 (0, 0)) (kb_ BK108.out) hb)
                have n4_ := Aside0.mk (blk_below (g := gb109) (o := .cells #[.int .i64 0, .int .i64 0, .slice none 0 0, .slice none 0 0] 25 (0, 0)) (kb_ BK109.out) hb)
                have n5_ := Aside0.mk (blk_below (g := gb127) (o := .cells #[.int .i64 a0_0, .int .i64 a0_1, .slice Ao41 y118.length co41, .slice Ao40 y124.length co40] 25 (0, 0)) (kb_ BK127.out) hb)
                have n6_ := Aside0.mk (below_step (hb3_ HB.out GE108.out GE109.out GE127.out) hb)
                clear HO120
                clear HO126
                clear BK108
                clear BK109
                clear BK127
                clear HB
                have HO120 := n0_
                have HO126 := n1_
                have HO130 := n2_
                have BK108 := n3_
                have BK109 := n4_
                have BK127 := n5_
                have HB := n6_
                clear n0_ n1_ n2_ n3_ n4_ n5_ n6_
                clear hb ho50
                refine hK.out _ _ ⟨(blk_cell BK127.out 0).trans rfl, (blk_cell BK127.out 1).trans rfl, (blk_cell BK127.out 2).trans rfl, (blk_cell BK127.out 3).trans rfl, (blk_cell BK108.out 0).trans rfl, (blk_cell BK108.out 1).trans rfl, (blk_cell BK108.out 2).trans rfl, (blk_cell BK108.out 3).trans rfl⟩ (fun hHeld => ?_)
                clear hK K
                refine norm_ (a' := ?_) ?_ ?_
                rotate_left
                · show Act.put _ (some 38) _ = _
                  simp only [Act.put, List.setIfInBounds_toArray, List.set_cons_zero, List.set_cons_succ, i64_w, i32_w]
                  rfl
                refine one_ (i := 6) (N := some 43) #[true, true, true, true, true, true, true, false, false] rfl rfl (one_of HT_.out (by kernel_rfl)) (by decide) (fun K hK => ?_)
                refine Kd.R_append_rows_step (Kd.int .u8) (w0 := w) w.heap.size (by rfl) (.tmp 38) (.tmp 42) 22 5 (.int .u8 0) 1 rfl Try.underlying22 info5 rfl (by decide) (by omega) v129 y128 (l0_2.take ((ji14) : Int).toNat) _ _ _ (fun k_ => some k_ ≠ (.slice Ao41 y118.length co41 : Value).ownBlock) (fun _ => False) rfl rfl ?aO ?aR (fun _ _ h => h) (fun _ h => h.elim) ?aF ?aB ?aS ?aL ?_
                (case aR => first | (refine len_ (show (l0_2.take ((ji14) : Int).toNat).length = (ji14).toNat from (by rw [List.length_take]; have h_ : ((ji14) : Int) ≤ (l0_2.length : Int) := of_decide_eq_true (by first | (with_reducible assumption) | assumption); omega)) ?_; repeat (first | exact (Kd.C_below HR131.out HB.out) | (with_reducible refine Kd.C_alloc ?_ _) | (with_reducible refine Kd.C_drewN ?_ _) | (with_reducible refine Kd.C_drew ?_)); done) | (repeat (first | exact (Kd.C_below HR131.out HB.out) | (with_reducible refine Kd.C_alloc ?_ _) | (with_reducible refine Kd.C_drewN ?_ _) | (with_reducible refine Kd.C_drew ?_))))
                (case aB => exact (hb3_ HB.out GE108.out GE109.out GE127.out))
                (case aF => exact (fun k_ hk => Kd.fresh' (Kd.R_lt (kR_ HO120.out)) k_ hk))
                (case aO => exact (by refine kR_ ?_; first | exact Kd.R_mono HO130.out (fun _ hk => hk.2) | exact Kd.R_mono HO130.out (fun _ _ => trivial)))
                (case aS => exact (below_size (hb3_ HB.out GE108.out GE109.out GE127.out)))
                (case aL => have := LMc21.out; have hlx_ := (show (l0_2.take ((ji14) : Int).toNat).length = (ji14).toNat from (by rw [List.length_take]; have h_ : ((ji14) : Int) ≤ (l0_2.length : Int) := of_decide_eq_true (by first | (with_reducible assumption) | assumption); omega)); omega)
                intro v133 w51 ho hb hg hat
                rw [← Ny132.out] at ho
                have n0_ := Aside0.mk (blk_grown (g := gb108) (o := .cells #[.int .i64 a0_0, .int .i64 a0_1, .slice A0_2 l0_2.length c0_2, .slice A0_3 l0_3.length c0_3] 25 (0, 0)) (kb_ BK108.out) hg (Kd.R_ne HO130.out BK108.out (by decide)))
                have n1_ := Aside0.mk (blk_grown (g := gb109) (o := .cells #[.int .i64 0, .int .i64 0, .slice none 0 0, .slice none 0 0] 25 (0, 0)) (kb_ BK109.out) hg (Kd.R_ne HO130.out BK109.out (by decide)))
                have n2_ := Aside0.mk (Kd.R_after (ok := (fun _ => True)) (kR_ HO120.out) hg hat)
                have n3_ := Aside0.mk (Kd.R_over' (kR_ HO126.out) (Kd.R_typed (kR_ HO130.out)) (by decide) hg)
                have n4_ := Aside0.mk (blk_grown (g := gb127) (o := .cells #[.int .i64 a0_0, .int .i64 a0_1, .slice Ao41 y118.length co41, .slice Ao40 y124.length co40] 25 (0, 0)) (kb_ BK127.out) hg (Kd.R_ne HO130.out BK127.out (by decide)))
                have n5_ := Aside0.mk (hb)
                have n6_ := Aside0.mk (ho)
                clear BK108
                clear BK109
                clear HO120
                clear HO126
                clear BK127
                clear HB
                clear HO130
                have BK108 := n0_
                have BK109 := n1_
                have HO120 := n2_
                have HO126 := n3_
                have BK127 := n4_
                have HB := n5_
                have HO134 := n6_
                clear n0_ n1_ n2_ n3_ n4_ n5_ n6_
                clear ho hb hg hat
                refine hK.out _ _ ⟨(blk_cell BK127.out 0).trans rfl, (blk_cell BK127.out 1).trans rfl, (blk_cell BK127.out 2).trans rfl, (blk_cell BK127.out 3).trans rfl, (blk_cell BK108.out 0).trans rfl, (blk_cell BK108.out 1).trans rfl, (blk_cell BK108.out 2).trans rfl, (blk_cell BK108.out 3).trans rfl⟩ (fun hHeld => ?_)
                clear hK K
                refine norm_ (a' := ?_) ?_ ?_
                rotate_left
                · show Act.put _ (some 43) _ = _
                  simp only [Act.put, List.setIfInBounds_toArray, List.set_cons_zero, List.set_cons_succ, i64_w, i32_w]
                  rfl
                refine one_ (i := 7) (N := none) #[true, true, true, true, true, true, true, true, false] rfl rfl (one_of HT_.out (by kernel_rfl)) (by decide) (fun K hK => ?_)
                have hs52 : w51.cell? ⟨gb109, 0, none⟩ = some (.int .i64 0) := (blk_cell BK109.out 0).trans rfl
                have hfs52 := blk_frozen BK109.out 0
                have hns52_0 := NB108_109.out
                have hns52_2 := NB127_109.out
                have hms52_0 := NB109_108.out
                have hms52_2 := NB109_127.out
                have hs53 : w51.cell? ⟨gb109, 1, none⟩ = some (.int .i64 0) := (blk_cell BK109.out 1).trans rfl
                have hfs53 := blk_frozen BK109.out 1
                have hns53_0 := NB108_109.out
                have hns53_2 := NB127_109.out
                have hms53_0 := NB109_108.out
                have hms53_2 := NB109_127.out
                have hs54 : w51.cell? ⟨gb109, 2, none⟩ = some (.slice none 0 0) := (blk_cell BK109.out 2).trans rfl
                have hfs54 := blk_frozen BK109.out 2
                have hns54_0 := NB108_109.out
                have hns54_2 := NB127_109.out
                have hms54_0 := NB109_108.out
                have hms54_2 := NB109_127.out
                have hs55 : w51.cell? ⟨gb109, 3, none⟩ = some (.slice none 0 0) := (blk_cell BK109.out 3).trans rfl
                have hfs55 := blk_frozen BK109.out 3
                have hns55_0 := NB108_109.out
                have hns55_2 := NB127_109.out
                have hms55_0 := NB109_108.out
                have hms55_2 := NB109_127.out
                refine skip_ (w1 := ?_) (by rfl) rfl ?_ ?_
                rotate_left
                · go_simp
                  rfl
                refine hK.out _ _ ⟨((cell_far (p := ⟨gb109, _, none⟩) NB127_109.out _).trans (((cell_far (p := ⟨gb109, _, none⟩) NB127_109.out _).trans (((cell_far (p := ⟨gb109, _, none⟩) NB127_109.out _).trans (((cell_far (p := ⟨gb109, _, none⟩) NB127_109.out _).trans (hHeld.1)))))))), ((cell_far (p := ⟨gb109, _, none⟩) NB127_109.out _).trans (((cell_far (p := ⟨gb109, _, none⟩) NB127_109.out _).trans (((cell_far (p := ⟨gb109, _, none⟩) NB127_109.out _).trans (((cell_far (p := ⟨gb109, _, none⟩) NB127_109.out _).trans (hHeld.2.1)))))))), ((cell_far (p := ⟨gb109, _, none⟩) NB127_109.out _).trans (((cell_far (p := ⟨gb109, _, none⟩) NB127_109.out _).trans (((cell_far (p := ⟨gb109, _, none⟩) NB127_109.out _).trans (((cell_far (p := ⟨gb109, _, none⟩) NB127_109.out _).trans (hHeld.2.2.1)))))))), ((cell_far (p := ⟨gb109, _, none⟩) NB127_109.out _).trans (((cell_far (p := ⟨gb109, _, none⟩) NB127_109.out _).trans (((cell_far (p := ⟨gb109, _, none⟩) NB127_109.out _).trans (((cell_far (p := ⟨gb109, _, none⟩) NB127_109.out _).trans (hHeld.2.2.2.1)))))))), ((cell_far (p := ⟨gb109, _, none⟩) NB108_109.out _).trans (((cell_far (p := ⟨gb109, _, none⟩) NB108_109.out _).trans (((cell_far (p := ⟨gb109, _, none⟩) NB108_109.out _).trans (((cell_far (p := ⟨gb109, _, none⟩) NB108_109.out _).trans (hHeld.2.2.2.2.1)))))))), ((cell_far (p := ⟨gb109, _, none⟩) NB108_109.out _).trans (((cell_far (p := ⟨gb109, _, none⟩) NB108_109.out _).trans (((cell_far (p := ⟨gb109, _, none⟩) NB108_109.out _).trans (((cell_far (p := ⟨gb109, _, none⟩) NB108_109.out _).trans (hHeld.2.2.2.2.2.1)))))))), ((cell_far (p := ⟨gb109, _, none⟩) NB108_109.out _).trans (((cell_far (p := ⟨gb109, _, none⟩) NB108_109.out _).trans (((cell_far (p := ⟨gb109, _, none⟩) NB108_109.out _).trans (((cell_far (p := ⟨gb109, _, none⟩) NB108_109.out _).trans (hHeld.2.2.2.2.2.2.1)))))))), ((cell_far (p := ⟨gb109, _, none⟩) NB108_109.out _).trans (((cell_far (p := ⟨gb109, _, none⟩) NB108_109.out _).trans (((cell_far (p := ⟨gb109, _, none⟩) NB108_109.out _).trans (((cell_far (p := ⟨gb109, _, none⟩) NB108_109.out _).trans (hHeld.2.2.2.2.2.2.2))))))))⟩ (fun hHeld => ?_)
                clear hK K
                refine pure_ (i := 8) (N := some 5) (v := ?_) (a' := ?_) #[true, true, true, true, true, true, true, true, true] rfl rfl (any_of HT_.out (by kernel_rfl)) (fun _ _ _ h => h) (Or.inl ⟨by rfl, ?_⟩) ?_ ?_
                rotate_left
                · intro w'
                  go_simp
                  with_reducible rfl
                rotate_left
                · simp only [Act.put, List.setIfInBounds_toArray, List.set_cons_zero, List.set_cons_succ, i64_w, i32_w]
                  rfl
                refine done_ (done_of HT_.out (by kernel_rfl)) ?_
                try go_wp2
                refine bodyPost_ret (results_ct rfl _ _ gb109 25 #[.int .i64 a0_0, .int .i64 a0_1, .slice Ao41 y118.length co41, .slice Ao40 y124.length co40] (0, 0) _ rfl (by refine kb_ ?_; refine blk_put (cs := #[.int .i64 a0_0, .int .i64 a0_1, .slice Ao41 y118.length co41, .slice none 0 0]) ?_ 3 _ rfl; refine kb_ ?_; refine blk_put (cs := #[.int .i64 a0_0, .int .i64 a0_1, .slice none 0 0, .slice none 0 0]) ?_ 2 _ rfl; refine kb_ ?_; refine blk_put (cs := #[.int .i64 a0_0, .int .i64 0, .slice none 0 0, .slice none 0 0]) ?_ 1 _ rfl; refine kb_ ?_; refine blk_put (cs := #[.int .i64 0, .int .i64 0, .slice none 0 0, .slice none 0 0]) ?_ 0 _ rfl; refine kb_ ?_; exact BK109.out) Try.underlying25 rfl (by kernel_rfl)) rfl ?_
                exact ⟨_, _, _, by first | rfl | (simp [errW_none, errW_some] <;> rfl) | (simp only [← hji14]; first | rfl | (simp [errW_none, errW_some] <;> rfl)) | (simp [*, errW_none, errW_some] <;> rfl), by refine kR_ ?_; exact Kd.R_mono (Kd.R_f gb109 3 (.slice Ao40 y124.length co40) (Kd.R_f gb109 2 (.slice Ao41 y118.length co41) (Kd.R_f gb109 1 (.int .i64 a0_1) (Kd.R_f gb109 0 (.int .i64 a0_0) (Kd.R_types HO120.out BK109.out (by decide)))))) (fun _ hk => hk.1.2), by refine kR_ ?_; exact Kd.R_mono (Kd.R_f gb109 3 (.slice Ao40 y124.length co40) (Kd.R_f gb109 2 (.slice Ao41 y118.length co41) (Kd.R_f gb109 1 (.int .i64 a0_1) (Kd.R_f gb109 0 (.int .i64 a0_0) (Kd.R_types HO126.out BK109.out (by decide)))))) (fun _ hk => trivial), by refine kR_ ?_; exact Kd.R_mono (Kd.R_f gb109 3 (.slice Ao40 y124.length co40) (Kd.R_f gb109 2 (.slice Ao41 y118.length co41) (Kd.R_f gb109 1 (.int .i64 a0_1) (Kd.R_f gb109 0 (.int .i64 a0_0) (Kd.R_types HO134.out BK109.out (by decide)))))) (fun _ hk => hk.1), by repeat (first | (with_reducible first | exact HB.out | apply below_alloc | apply pw_below_drewN | apply below_drew1 | refine below_set ?_ GE108.out | refine below_set ?_ GE109.out | refine below_set ?_ GE127.out) | exact HB.out)⟩
              · rw [if_neg c21] at H
                exact absurd H (by simp)
            · rw [if_neg c18] at H
              exact absurd H (by simp)
          · rw [if_neg c17] at H
            exact absurd H (by simp)
        · rw [if_neg c16] at H
          exact absurd H (by simp)
      · rw [if_neg c15] at H
        exact absurd H (by simp)
  · replace c4 := Bool.eq_false_iff.mpr c4
    subst c4
    have H1 : (some (0, 0, ([] : List Int), ([] : List (S70)), (([] : List Int)))) = some (r1, r2, r3, r4, r5) := by rw [if_neg (show ¬ (false = true) by decide)] at H; exact H
    clear H
    have H := H1
    clear H1
    obtain ⟨y135, hy135⟩ : ∃ y_ : List Int, y_ = (([] : List Int)) := ⟨_, rfl⟩
    replace H : (some (0, 0, ([] : List Int), ([] : List (S70)), y135)) = some (r1, r2, r3, r4, r5) := by first | (rw [hy135]; with_reducible exact H) | (have H2_ := (Option.bind_some _ _).symm.trans H; rw [hy135]; with_reducible exact H2_) | (have H2_ := (Option.bind_some _ _).symm.trans H; with_reducible exact H2_) | with_reducible exact H | (rw [hy135]; exact H) | exact H
    have Ny135 := Aside0.mk hy135
    clear hy135
    simp only [Option.some.injEq, Prod.mk.injEq] at H
    obtain ⟨rfl, rfl, rfl, rfl, rfl⟩ := H
    go_enter Try.func16, Try.ntmps16
    go_wp2_with (first | ((with_reducible refine gate_dst (N := 2) rfl ?_); refine box_event ?hg (N := 2) ?hd (cs := #[.int .i64 a0_0, .int .i64 a0_1, .slice A0_2 l0_2.length c0_2, .slice A0_3 l0_3.length c0_3]) (t := 25) ?hr ?_; (case hd => rfl); (case hg => rfl); (case hr => first | (go_simp; done) | (go_simp; rfl)); intro gb108 hg w56 hbox hb; have n0_ := Aside0.mk (below_step (hb0_ HB.out) hb); have n1_ := Aside0.mk (hbox); have n2_ := Aside0.mk ((by rw [hg]; exact (below_size (hb0_ HB.out)) : w.heap.size ≤ gb108)); have n3_ := Aside0.mk ((by rw [hg]; exact (below_size (hb0_ HB.out)) : w.heap.size ≤ gb108)); clear HB; have HB := n0_; have BK108 := n1_; have GW108 := n2_; have GE108 := n3_; clear n0_ n1_ n2_ n3_; clear hb hbox hg) | ((with_reducible refine gate_dst (N := 4) rfl ?_); refine box_event ?hg (N := 4) ?hd (cs := #[.int .i64 0, .int .i64 0, .slice none 0 0, .slice none 0 0]) (t := 25) ?hr ?_; (case hd => rfl); (case hg => rfl); (case hr => first | (go_simp; done) | (go_simp; rfl)); intro gb109 hg w57 hbox hb; have n0_ := Aside0.mk (blk_below (g := gb108) (o := .cells #[.int .i64 a0_0, .int .i64 a0_1, .slice A0_2 l0_2.length c0_2, .slice A0_3 l0_3.length c0_3] 25 (0, 0)) (kb_ BK108.out) hb); have n1_ := Aside0.mk (below_step (hb1_ HB.out GE108.out) hb); have n2_ := Aside0.mk (hbox); have n3_ := Aside0.mk ((by rw [hg]; exact (below_size (hb1_ HB.out GE108.out)) : w.heap.size ≤ gb109)); have n4_ := Aside0.mk ((by rw [hg]; exact (below_size (hb1_ HB.out GE108.out)) : w.heap.size ≤ gb109)); have n5_ := Aside0.mk ((by rw [hg]; exact Nat.ne_of_lt (blk_lt (g := gb108) (o := .cells #[.int .i64 a0_0, .int .i64 a0_1, .slice A0_2 l0_2.length c0_2, .slice A0_3 l0_3.length c0_3] 25 (0, 0)) (kb_ BK108.out)) : gb108 ≠ gb109)); have n6_ := Aside0.mk ((by rw [hg]; exact Nat.ne_of_gt (blk_lt (g := gb108) (o := .cells #[.int .i64 a0_0, .int .i64 a0_1, .slice A0_2 l0_2.length c0_2, .slice A0_3 l0_3.length c0_3] 25 (0, 0)) (kb_ BK108.out)) : gb109 ≠ gb108)); clear BK108; clear HB; have BK108 := n0_; have HB := n1_; have BK109 := n2_; have GW109 := n3_; have GE109 := n4_; have NB108_109 := n5_; have NB109_108 := n6_; clear n0_ n1_ n2_ n3_ n4_ n5_ n6_; clear hb hbox hg; have hnb58 := NB108_109.out; have hnc58 := NB109_108.out; have hcz59_0 : w57.cell? ⟨gb108, 0, none⟩ = some (.int .i64 a0_0) := (blk_cell BK108.out 0).trans rfl; have hcz59_1 : w57.cell? ⟨gb108, 1, none⟩ = some (.int .i64 a0_1) := (blk_cell BK108.out 1).trans rfl; have hcz59_2 : w57.cell? ⟨gb108, 2, none⟩ = some (.slice A0_2 l0_2.length c0_2) := (blk_cell BK108.out 2).trans rfl; have hcz59_3 : w57.cell? ⟨gb108, 3, none⟩ = some (.slice A0_3 l0_3.length c0_3) := (blk_cell BK108.out 3).trans rfl; have hfz59_0 := blk_frozen BK108.out 0; have hfz59_1 := blk_frozen BK108.out 1; have hfz59_2 := blk_frozen BK108.out 2; have hfz59_3 := blk_frozen BK108.out 3) | ((with_reducible refine gate_callee (f := 43) rfl ?_); refine goesL_ (some 9) rfl rfl Try.func43 (by kernel_rfl) rfl #[.agg #[.int .i64 a0_0, .int .i64 a0_1, .slice A0_2 l0_2.length c0_2, .slice A0_3 l0_3.length c0_3]] rfl ar_ ?_; (with_reducible refine (spec_EarOk.calls k a0_0 a0_1 _ _ l0_2 _ _ l0_3 false _ ?side1 ?side2 ?side3 ?side4 A3.out).mono ?_); (case side1 => exact kC_ (Kd.C_below HR0_2.out HB.out)); (case side2 => exact HC0_2.out); (case side3 => exact kC_ (Kd.C_below HR0_3.out HB.out)); (case side4 => exact HC0_3.out); rintro e w60 ⟨rfl, hb⟩; refine ⟨_, rfl, ?_⟩; have n0_ := Aside0.mk (blk_below (g := gb108) (o := .cells #[.int .i64 a0_0, .int .i64 a0_1, .slice A0_2 l0_2.length c0_2, .slice A0_3 l0_3.length c0_3] 25 (0, 0)) (kb_ BK108.out) hb); have n1_ := Aside0.mk (blk_below (g := gb109) (o := .cells #[.int .i64 0, .int .i64 0, .slice none 0 0, .slice none 0 0] 25 (0, 0)) (kb_ BK109.out) hb); have n2_ := Aside0.mk (below_step (hb2_ HB.out GE108.out GE109.out) hb); clear BK108; clear BK109; clear HB; have BK108 := n0_; have BK109 := n1_; have HB := n2_; clear n0_ n1_ n2_; (try clear hb); (try clear hb2); (try clear hk); (try clear hi)) | ((with_reducible refine gate_dst (N := 16) rfl ?_); refine Kd.R_lit (Kd.int .u8) _ 5 ?hg (N := 16) ?hd (xs := ([] : List Int)) (inner := []) (ok := fun _ => True) (okp := fun _ => True) ?hr ?hp (fun _ hk => hk) trivial (Below.refl _ _) (Nat.le_refl _) (by simp) ?_; (case hd => rfl); (case hg => rfl); (case hr => first | (go_simp; done) | (go_simp; rfl)); (case hp => exact (Reps.none _ _)); intro v136 w61 ho62 hb hg_ hnew_; clear hg_ hnew_; (first | rw [← Ny135.out] at ho62 | (simp only [Int.reduceToNat] at ho62; rw [← Ny135.out] at ho62)); have n0_ := Aside0.mk (Kd.R_lower ho62 (below_size (hb2_ HB.out GE108.out GE109.out))); have n1_ := Aside0.mk (blk_below (g := gb108) (o := .cells #[.int .i64 a0_0, .int .i64 a0_1, .slice A0_2 l0_2.length c0_2, .slice A0_3 l0_3.length c0_3] 25 (0, 0)) (kb_ BK108.out) hb); have n2_ := Aside0.mk (blk_below (g := gb109) (o := .cells #[.int .i64 0, .int .i64 0, .slice none 0 0, .slice none 0 0] 25 (0, 0)) (kb_ BK109.out) hb); have n3_ := Aside0.mk (below_step (hb2_ HB.out GE108.out GE109.out) hb); clear BK108; clear BK109; clear HB; have HO137 := n0_; have BK108 := n1_; have BK109 := n2_; have HB := n3_; clear n0_ n1_ n2_ n3_; clear hb ho62; have hcz63_0 : w61.cell? ⟨gb109, 0, none⟩ = some (.int .i64 0) := (blk_cell BK109.out 0).trans rfl; have hcz63_1 : w61.cell? ⟨gb109, 1, none⟩ = some (.int .i64 0) := (blk_cell BK109.out 1).trans rfl; have hcz63_2 : w61.cell? ⟨gb109, 2, none⟩ = some (.slice none 0 0) := (blk_cell BK109.out 2).trans rfl; have hcz63_3 : w61.cell? ⟨gb109, 3, none⟩ = some (.slice none 0 0) := (blk_cell BK109.out 3).trans rfl; have hfz63_0 := blk_frozen BK109.out 0; have hfz63_1 := blk_frozen BK109.out 1; have hfz63_2 := blk_frozen BK109.out 2; have hfz63_3 := blk_frozen BK109.out 3))
    refine bodyPost_ret (results_ct rfl _ _ gb109 25 #[.int .i64 0, .int .i64 0, .slice none 0 0, .slice none 0 0] (0, 0) _ rfl (by refine kb_ ?_; refine blk_put (cs := #[.int .i64 0, .int .i64 0, .slice none 0 0, .slice none 0 0]) ?_ 3 _ rfl; refine kb_ ?_; refine blk_put (cs := #[.int .i64 0, .int .i64 0, .slice none 0 0, .slice none 0 0]) ?_ 2 _ rfl; refine kb_ ?_; refine blk_put (cs := #[.int .i64 0, .int .i64 0, .slice none 0 0, .slice none 0 0]) ?_ 1 _ rfl; refine kb_ ?_; refine blk_put (cs := #[.int .i64 0, .int .i64 0, .slice none 0 0, .slice none 0 0]) ?_ 0 _ rfl; refine kb_ ?_; exact BK109.out) Try.underlying25 rfl (by kernel_rfl)) rfl ?_
    exact ⟨_, _, _, by first | rfl | (simp [errW_none, errW_some] <;> rfl) | (simp [*, errW_none, errW_some] <;> rfl), by first | exact Kd.R_nil _ _ _ _ _ | exact Kd.N_nil _ _ _ _ _ | exact Kd.V_nil _ _ _ _ _ | exact Kd.Q_nil _ _ _ _ _ | exact Kd.S_nil _ _ _ _ _, by first | exact Kd.R_nil _ _ _ _ _ | exact Kd.N_nil _ _ _ _ _ | exact Kd.V_nil _ _ _ _ _ | exact Kd.Q_nil _ _ _ _ _ | exact Kd.S_nil _ _ _ _ _, by refine kR_ ?_; exact Kd.R_mono (Kd.R_f gb109 3 (.slice none 0 0) (Kd.R_f gb109 2 (.slice none 0 0) (Kd.R_f gb109 1 (.int .i64 0) (Kd.R_f gb109 0 (.int .i64 0) (Kd.R_types HO137.out BK109.out (by decide)))))) (fun _ hk => (by simp [Value.ownBlock])), by repeat (first | (with_reducible first | exact HB.out | apply below_alloc | apply pw_below_drewN | apply below_drew1 | refine below_set ?_ GE108.out | refine below_set ?_ GE109.out) | exact HB.out)⟩

end Go.Proofs.Ytjiodkbbmhhccaa.PFnEarFree
