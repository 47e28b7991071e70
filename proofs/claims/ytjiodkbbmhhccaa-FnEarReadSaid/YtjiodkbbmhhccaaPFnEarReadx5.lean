/- Printed by wip/xp/xprint.sh out of the translation, for this claim: what each function answers, as a plain function, and that the machine does just that. No condition. -/
import Derived.Test.YtjiodkbbmhhccaaPFnEarReadx0
import Derived.Test.YtjiodkbbmhhccaaPFnEarReadx4
namespace Go.Proofs.Ytjiodkbbmhhccaa.PFnEarRead
open Go.RowKit Go.Proofs.YtjiodkbbmhhccaaW.PrintWords Go.Proofs.YtjiodkbbmhhccaaW.PrintLast Go.Proofs.YtjiodkbbmhhccaaW.PrintMore
attribute [local go_sem] max2_int min2_int max_two min_two max_three min_three max_four min_four   -- for this text's walks alone
set_option linter.unusedVariables false
set_option linter.unusedSimpArgs false

/-! ### spec_EarRead: function 16 -/
def spec_EarRead.f (k : Nat) (a0_0 : Int) (a0_1 : Int) (l0_2 : List Int) (l0_3 : List (S70)) (a1 : Int) : Option (Int × Int × List Int × (List (S70)) × List Int) := (spec_EarOk.f k a0_0 a0_1 l0_2 l0_3).bind fun t160 => (if t160 = true then (if a1 < 0 then (some (0, 0, ([] : List Int), ([] : List (S70)), (([] : List Int)))) else ((some (([] : List Int) : List Int)).bind fun y164 => (if 0 ≤ (mn a1 (l0_2.length : Int)) then (if (mn a1 (l0_2.length : Int)) ≤ (l0_2.length : Int) then (if y164.length + (l0_2.drop ((mn a1 (l0_2.length : Int)) : Int).toNat).length < 140737488355328 then ((some (([] : List (S70)) : List (S70))).bind fun y171 => (if y171.length + l0_3.length < 8796093022208 then ((some (([] : List Int) : List Int)).bind fun y178 => (if y178.length + (l0_2.take ((mn a1 (l0_2.length : Int)) : Int).toNat).length < 140737488355328 then (some (a0_0, a0_1, (y164 ++ (l0_2.drop ((mn a1 (l0_2.length : Int)) : Int).toNat)), (y171 ++ l0_3), (y178 ++ (l0_2.take ((mn a1 (l0_2.length : Int)) : Int).toNat)))) else (none))) else (none))) else (none)) else (none)) else (none)))) else (some (0, 0, ([] : List Int), ([] : List (S70)), (([] : List Int)))))
theorem spec_EarRead.mono : ∀ a0 a1 a2 a3 a4 k, LeO (spec_EarRead.f k a0 a1 a2 a3 a4) (spec_EarRead.f (k + 1) a0 a1 a2 a3 a4) := by
  intro a0 a1 a2 a3 a4 k
  unfold spec_EarRead.f
  repeat' first
      | (with_reducible exact spec_EarOk.mono _ _ _ _ _)
      | (with_reducible exact LeO.refl _)
      | (with_reducible exact LeO.none _)
      | (with_reducible refine LeO.ite ?_ ?_)
      | (with_reducible refine LeO.bind ?_ (fun _ => ?_))
      | exact spec_EarOk.mono _ _ _ _ _
      | exact LeO.none _
      | refine LeO.ite ?_ ?_
      | refine LeO.bind ?_ (fun _ => ?_)
def spec_EarRead.T4 : Bool × List (List Nat × List Nat) := (true, [([], []), ([0], [0]), ([], []), ([2], [2]), ([], []), ([], []), ([5], [5]), ([], []), ([6, 7], [6, 7]), ([4, 8], [4, 8]), ([], []), ([], []), ([11], [11]), ([10, 12, 9], [10, 12]), ([1, 3, 9, 13], [1, 3, 9, 13]), ([], []), ([15, 14, 13, 0, 1, 2, 3, 4, 5, 6, 7, 8, 9, 10, 11, 12, 13, 14, 15], [14, 15])])
def spec_EarRead.B4 : List Nat := [0, 1, 0, 4, 0, 0, 32, 0, 224, 496, 0, 0, 2048, 8176, 16383, 0, 65535]
theorem spec_EarRead.tab4 : rtab .any (opsOf Try.f16 4) = spec_EarRead.T4 := by kernel_rfl
theorem spec_EarRead.bits4 : waitsOk spec_EarRead.T4.2 spec_EarRead.B4 = true := by kernel_rfl
def spec_EarRead.T5 : Bool × List (List Nat × List Nat) := (true, [([], []), ([], []), ([], []), ([2], [2]), ([], []), ([3, 4], [3, 4]), ([1, 5], [1, 5]), ([0, 6, 0], [0]), ([6, 7, 0, 1, 2, 3, 4, 5, 6, 7], [6])])
def spec_EarRead.B5 : List Nat := [0, 0, 0, 4, 0, 28, 62, 127, 255]
theorem spec_EarRead.tab5 : rtab .any (opsOf Try.f16 5) = spec_EarRead.T5 := by kernel_rfl
theorem spec_EarRead.bits5 : waitsOk spec_EarRead.T5.2 spec_EarRead.B5 = true := by kernel_rfl
set_option maxHeartbeats 8000000 in
set_option maxRecDepth 100000 in
theorem spec_EarRead.calls (k : Nat) (a0_0 : Int) (a0_1 : Int) (A0_2 : Option Addr) (c0_2 : Nat) (l0_2 : List Int) (A0_3 : Option Addr) (c0_3 : Nat) (l0_3 : List (S70)) (a1 : Int) (r1 : Int) (r2 : Int) (r3 : List Int) (r4 : List (S70)) (r5 : List Int) (w : World) (hr0_2 : Kd.C (Kd.int .u8) w A0_2 l0_2.length l0_2) (hc0_2 : l0_2.length ≤ c0_2) (hr0_3 : Kd.C k70 w A0_3 l0_3.length l0_3) (hc0_3 : l0_3.length ≤ c0_3) (h : spec_EarRead.f k a0_0 a0_1 l0_2 l0_3 a1 = some (r1, r2, r3, r4, r5)) :
    Calls Try.prog 16 #[.agg #[.int .i64 a0_0, .int .i64 a0_1, .slice A0_2 l0_2.length c0_2, .slice A0_3 l0_3.length c0_3], .int .i64 a1] w fun e w' => ∃ v2_ v3_ v4_ : Value, e = .returned (.tuple #[.agg #[.int .i64 r1, .int .i64 r2, v2_, v3_], v4_]) ∧ Kd.R (Kd.int .u8) 5 w' w.heap.size (fun k_ => some k_ ≠ (v4_ : Value).ownBlock) v2_ r3 ∧ Kd.R k70 70 w' w.heap.size (fun _ => True) v3_ r4 ∧ Kd.R (Kd.int .u8) 5 w' w.heap.size (fun k_ => some k_ ≠ (v2_ : Value).ownBlock) v4_ r5 ∧ Below w.heap.size w w' := by
  have hu25 := Try.underlying25
  have HR0_2 := Aside0.mk hr0_2
  have HC0_2 := Aside0.mk hc0_2
  clear hr0_2 hc0_2
  have HR0_3 := Aside0.mk hr0_3
  have HC0_3 := Aside0.mk hc0_3
  clear hr0_3 hc0_3
  have HB := Aside0.mk (Below.refl w.heap.size w)
  have H : ((spec_EarOk.f k a0_0 a0_1 l0_2 l0_3).bind fun t160 => (if t160 = true then (if a1 < 0 then (some (0, 0, ([] : List Int), ([] : List (S70)), (([] : List Int)))) else ((some (([] : List Int) : List Int)).bind fun y164 => (if 0 ≤ (mn a1 (l0_2.length : Int)) then (if (mn a1 (l0_2.length : Int)) ≤ (l0_2.length : Int) then (if y164.length + (l0_2.drop ((mn a1 (l0_2.length : Int)) : Int).toNat).length < 140737488355328 then ((some (([] : List (S70)) : List (S70))).bind fun y171 => (if y171.length + l0_3.length < 8796093022208 then ((some (([] : List Int) : List Int)).bind fun y178 => (if y178.length + (l0_2.take ((mn a1 (l0_2.length : Int)) : Int).toNat).length < 140737488355328 then (some (a0_0, a0_1, (y164 ++ (l0_2.drop ((mn a1 (l0_2.length : Int)) : Int).toNat)), (y171 ++ l0_3), (y178 ++ (l0_2.take ((mn a1 (l0_2.length : Int)) : Int).toNat)))) else (none))) else (none))) else (none)) else (none)) else (none)))) else (some (0, 0, ([] : List Int), ([] : List (S70)), (([] : List Int)))))) = some (r1, r2, r3, r4, r5) := h
  clear h
  replace H := Option.bind_eq_some_iff.mp H
  obtain ⟨t160, A30, H⟩ := H
  replace H : (if t160 = true then (if a1 < 0 then (some (0, 0, ([] : List Int), ([] : List (S70)), (([] : List Int)))) else ((some (([] : List Int) : List Int)).bind fun y164 => (if 0 ≤ (mn a1 (l0_2.length : Int)) then (if (mn a1 (l0_2.length : Int)) ≤ (l0_2.length : Int) then (if y164.length + (l0_2.drop ((mn a1 (l0_2.length : Int)) : Int).toNat).length < 140737488355328 then ((some (([] : List (S70)) : List (S70))).bind fun y171 => (if y171.length + l0_3.length < 8796093022208 then ((some (([] : List Int) : List Int)).bind fun y178 => (if y178.length + (l0_2.take ((mn a1 (l0_2.length : Int)) : Int).toNat).length < 140737488355328 then (some (a0_0, a0_1, (y164 ++ (l0_2.drop ((mn a1 (l0_2.length : Int)) : Int).toNat)), (y171 ++ l0_3), (y178 ++ (l0_2.take ((mn a1 (l0_2.length : Int)) : Int).toNat)))) else (none))) else (none))) else (none)) else (none)) else (none)))) else (some (0, 0, ([] : List Int), ([] : List (S70)), (([] : List Int))))) = some (r1, r2, r3, r4, r5) := H
  have A3 := Aside0.mk A30
  clear A30
  by_cases c4 : t160 = true
  · subst c4
    have H1 : (if a1 < 0 then (some (0, 0, ([] : List Int), ([] : List (S70)), (([] : List Int)))) else ((some (([] : List Int) : List Int)).bind fun y164 => (if 0 ≤ (mn a1 (l0_2.length : Int)) then (if (mn a1 (l0_2.length : Int)) ≤ (l0_2.length : Int) then (if y164.length + (l0_2.drop ((mn a1 (l0_2.length : Int)) : Int).toNat).length < 140737488355328 then ((some (([] : List (S70)) : List (S70))).bind fun y171 => (if y171.length + l0_3.length < 8796093022208 then ((some (([] : List Int) : List Int)).bind fun y178 => (if y178.length + (l0_2.take ((mn a1 (l0_2.length : Int)) : Int).toNat).length < 140737488355328 then (some (a0_0, a0_1, (y164 ++ (l0_2.drop ((mn a1 (l0_2.length : Int)) : Int).toNat)), (y171 ++ l0_3), (y178 ++ (l0_2.take ((mn a1 (l0_2.length : Int)) : Int).toNat)))) else (none))) else (none))) else (none)) else (none)) else (none)))) = some (r1, r2, r3, r4, r5) := by rw [if_pos rfl] at H; exact H
    clear H
    have H := H1
    clear H1
    by_cases c5 : a1 < 0
    · rw [if_pos c5] at H
      have c5b0 : decide (a1 < 0) = true := decide_eq_true c5
      clear c5
      obtain ⟨y161, hy161⟩ : ∃ y_ : List Int, y_ = (([] : List Int)) := ⟨_, rfl⟩
      replace H : (some (0, 0, ([] : List Int), ([] : List (S70)), y161)) = some (r1, r2, r3, r4, r5) := by first | (rw [hy161]; with_reducible exact H) | (have H2_ := (Option.bind_some _ _).symm.trans H; rw [hy161]; with_reducible exact H2_) | (have H2_ := (Option.bind_some _ _).symm.trans H; with_reducible exact H2_) | with_reducible exact H | (rw [hy161]; exact H) | exact H
      have Ny161 := Aside0.mk hy161
      clear hy161
      simp only [Option.some.injEq, Prod.mk.injEq] at H
      obtain ⟨rfl, rfl, rfl, rfl, rfl⟩ := H
      go_enter Try.func16, Try.ntmps16
      go_wp2_with (first | ((with_reducible refine gate_dst (N := 2) rfl ?_); refine box_event ?hg (N := 2) ?hd (cs := #[.int .i64 a0_0, .int .i64 a0_1, .slice A0_2 l0_2.length c0_2, .slice A0_3 l0_3.length c0_3]) (t := 25) ?hr ?_; (case hd => rfl); (case hg => rfl); (case hr => first | (go_simp; done) | (go_simp; rfl)); intro gb158 hg w6 hbox hb; have n0_ := Aside0.mk (below_step (hb0_ HB.out) hb); have n1_ := Aside0.mk (hbox); have n2_ := Aside0.mk ((by rw [hg]; exact (below_size (hb0_ HB.out)) : w.heap.size ≤ gb158)); have n3_ := Aside0.mk ((by rw [hg]; exact (below_size (hb0_ HB.out)) : w.heap.size ≤ gb158)); clear HB; have HB := n0_; have BK158 := n1_; have GW158 := n2_; have GE158 := n3_; clear n0_ n1_ n2_ n3_; clear hb hbox hg) | ((with_reducible refine gate_dst (N := 4) rfl ?_); refine box_event ?hg (N := 4) ?hd (cs := #[.int .i64 0, .int .i64 0, .slice none 0 0, .slice none 0 0]) (t := 25) ?hr ?_; (case hd => rfl); (case hg => rfl); (case hr => first | (go_simp; done) | (go_simp; rfl)); intro gb159 hg w7 hbox hb; have n0_ := Aside0.mk (blk_below (g := gb158) (o := .cells #[.int .i64 a0_0, .int .i64 a0_1, .slice A0_2 l0_2.length c0_2, .slice A0_3 l0_3.length c0_3] 25 (0, 0)) (kb_ BK158.out) hb); have n1_ := Aside0.mk (below_step (hb1_ HB.out GE158.out) hb); have n2_ := Aside0.mk (hbox); have n3_ := Aside0.mk ((by rw [hg]; exact (below_size (hb1_ HB.out GE158.out)) : w.heap.size ≤ gb159)); have n4_ := Aside0.mk ((by rw [hg]; exact (below_size (hb1_ HB.out GE158.out)) : w.heap.size ≤ gb159)); have n5_ := Aside0.mk ((by rw [hg]; exact Nat.ne_of_lt (blk_lt (g := gb158) (o := .cells #[.int .i64 a0_0, .int .i64 a0_1, .slice A0_2 l0_2.length c0_2, .slice A0_3 l0_3.length c0_3] 25 (0, 0)) (kb_ BK158.out)) : gb158 ≠ gb159)); have n6_ := Aside0.mk ((by rw [hg]; exact Nat.ne_of_gt (blk_lt (g := gb158) (o := .cells #[.int .i64 a0_0, .int .i64 a0_1, .slice A0_2 l0_2.length c0_2, .slice A0_3 l0_3.length c0_3] 25 (0, 0)) (kb_ BK158.out)) : gb159 ≠ gb158)); clear BK158; clear HB; have BK158 := n0_; have HB := n1_; have BK159 := n2_; have GW159 := n3_; have GE159 := n4_; have NB158_159 := n5_; have NB159_158 := n6_; clear n0_ n1_ n2_ n3_ n4_ n5_ n6_; clear hb hbox hg; have hnb8 := NB158_159.out; have hnc8 := NB159_158.out; have hcz9_0 : w7.cell? ⟨gb158, 0, none⟩ = some (.int .i64 a0_0) := (blk_cell BK158.out 0).trans rfl; have hcz9_1 : w7.cell? ⟨gb158, 1, none⟩ = some (.int .i64 a0_1) := (blk_cell BK158.out 1).trans rfl; have hcz9_2 : w7.cell? ⟨gb158, 2, none⟩ = some (.slice A0_2 l0_2.length c0_2) := (blk_cell BK158.out 2).trans rfl; have hcz9_3 : w7.cell? ⟨gb158, 3, none⟩ = some (.slice A0_3 l0_3.length c0_3) := (blk_cell BK158.out 3).trans rfl; have hfz9_0 := blk_frozen BK158.out 0; have hfz9_1 := blk_frozen BK158.out 1; have hfz9_2 := blk_frozen BK158.out 2; have hfz9_3 := blk_frozen BK158.out 3) | ((with_reducible refine gate_callee (f := 43) rfl ?_); refine goesL_ (some 9) rfl rfl Try.func43 (by kernel_rfl) rfl #[.agg #[.int .i64 a0_0, .int .i64 a0_1, .slice A0_2 l0_2.length c0_2, .slice A0_3 l0_3.length c0_3]] rfl ar_ ?_; (with_reducible refine (spec_EarOk.calls k a0_0 a0_1 _ _ l0_2 _ _ l0_3 true _ ?side1 ?side2 ?side3 ?side4 A3.out).mono ?_); (case side1 => exact kC_ (Kd.C_below HR0_2.out HB.out)); (case side2 => exact HC0_2.out); (case side3 => exact kC_ (Kd.C_below HR0_3.out HB.out)); (case side4 => exact HC0_3.out); rintro e w10 ⟨rfl, hb⟩; refine ⟨_, rfl, ?_⟩; have n0_ := Aside0.mk (blk_below (g := gb158) (o := .cells #[.int .i64 a0_0, .int .i64 a0_1, .slice A0_2 l0_2.length c0_2, .slice A0_3 l0_3.length c0_3] 25 (0, 0)) (kb_ BK158.out) hb); have n1_ := Aside0.mk (blk_below (g := gb159) (o := .cells #[.int .i64 0, .int .i64 0, .slice none 0 0, .slice none 0 0] 25 (0, 0)) (kb_ BK159.out) hb); have n2_ := Aside0.mk (below_step (hb2_ HB.out GE158.out GE159.out) hb); clear BK158; clear BK159; clear HB; have BK158 := n0_; have BK159 := n1_; have HB := n2_; clear n0_ n1_ n2_; (try clear hb); (try clear hb2); (try clear hk); (try clear hi)) | ((with_reducible refine gate_dst (N := 16) rfl ?_); refine Kd.R_lit (Kd.int .u8) _ 5 ?hg (N := 16) ?hd (xs := ([] : List Int)) (inner := []) (ok := fun _ => True) (okp := fun _ => True) ?hr ?hp (fun _ hk => hk) trivial (Below.refl _ _) (Nat.le_refl _) (by simp) ?_; (case hd => rfl); (case hg => rfl); (case hr => first | (go_simp; done) | (go_simp; rfl)); (case hp => exact (Reps.none _ _)); intro v162 w11 ho12 hb hg_ hnew_; clear hg_ hnew_; (first | rw [← Ny161.out] at ho12 | (simp only [Int.reduceToNat] at ho12; rw [← Ny161.out] at ho12)); have n0_ := Aside0.mk (Kd.R_lower ho12 (below_size (hb2_ HB.out GE158.out GE159.out))); have n1_ := Aside0.mk (blk_below (g := gb158) (o := .cells #[.int .i64 a0_0, .int .i64 a0_1, .slice A0_2 l0_2.length c0_2, .slice A0_3 l0_3.length c0_3] 25 (0, 0)) (kb_ BK158.out) hb); have n2_ := Aside0.mk (blk_below (g := gb159) (o := .cells #[.int .i64 0, .int .i64 0, .slice none 0 0, .slice none 0 0] 25 (0, 0)) (kb_ BK159.out) hb); have n3_ := Aside0.mk (below_step (hb2_ HB.out GE158.out GE159.out) hb); clear BK158; clear BK159; clear HB; have HO163 := n0_; have BK158 := n1_; have BK159 := n2_; have HB := n3_; clear n0_ n1_ n2_ n3_; clear hb ho12; have hcz13_0 : w11.cell? ⟨gb159, 0, none⟩ = some (.int .i64 0) := (blk_cell BK159.out 0).trans rfl; have hcz13_1 : w11.cell? ⟨gb159, 1, none⟩ = some (.int .i64 0) := (blk_cell BK159.out 1).trans rfl; have hcz13_2 : w11.cell? ⟨gb159, 2, none⟩ = some (.slice none 0 0) := (blk_cell BK159.out 2).trans rfl; have hcz13_3 : w11.cell? ⟨gb159, 3, none⟩ = some (.slice none 0 0) := (blk_cell BK159.out 3).trans rfl; have hfz13_0 := blk_frozen BK159.out 0; have hfz13_1 := blk_frozen BK159.out 1; have hfz13_2 := blk_frozen BK159.out 2; have hfz13_3 := blk_frozen BK159.out 3))
      refine bodyPost_ret (results_ct rfl _ _ gb159 25 #[.int .i64 0, .int .i64 0, .slice none 0 0, .slice none 0 0] (0, 0) _ rfl (by refine kb_ ?_; refine blk_put (cs := #[.int .i64 0, .int .i64 0, .slice none 0 0, .slice none 0 0]) ?_ 3 _ rfl; refine kb_ ?_; refine blk_put (cs := #[.int .i64 0, .int .i64 0, .slice none 0 0, .slice none 0 0]) ?_ 2 _ rfl; refine kb_ ?_; refine blk_put (cs := #[.int .i64 0, .int .i64 0, .slice none 0 0, .slice none 0 0]) ?_ 1 _ rfl; refine kb_ ?_; refine blk_put (cs := #[.int .i64 0, .int .i64 0, .slice none 0 0, .slice none 0 0]) ?_ 0 _ rfl; refine kb_ ?_; exact BK159.out) Try.underlying25 rfl (by kernel_rfl)) rfl ?_
      exact ⟨_, _, _, by first | rfl | (simp [errW_none, errW_some] <;> rfl) | (simp [*, errW_none, errW_some] <;> rfl), by first | exact Kd.R_nil _ _ _ _ _ | exact Kd.N_nil _ _ _ _ _ | exact Kd.V_nil _ _ _ _ _ | exact Kd.Q_nil _ _ _ _ _ | exact Kd.S_nil _ _ _ _ _, by first | exact Kd.R_nil _ _ _ _ _ | exact Kd.N_nil _ _ _ _ _ | exact Kd.V_nil _ _ _ _ _ | exact Kd.Q_nil _ _ _ _ _ | exact Kd.S_nil _ _ _ _ _, by refine kR_ ?_; exact Kd.R_mono (Kd.R_f gb159 3 (.slice none 0 0) (Kd.R_f gb159 2 (.slice none 0 0) (Kd.R_f gb159 1 (.int .i64 0) (Kd.R_f gb159 0 (.int .i64 0) (Kd.R_types HO163.out BK159.out (by decide)))))) (fun _ hk => (by simp [Value.ownBlock])), by repeat (first | (with_reducible first | exact HB.out | apply below_alloc | apply pw_below_drewN | apply below_drew1 | refine below_set ?_ GE158.out | refine below_set ?_ GE159.out) | exact HB.out)⟩
    · rw [if_neg c5] at H
      have c5b0 : decide (a1 < 0) = false := decide_eq_false c5
      clear c5
      obtain ⟨ji14, hji14⟩ : ∃ j_ : Int, (mn a1 (l0_2.length : Int)) = j_ := ⟨_, rfl⟩
      replace H : ((some (([] : List Int) : List Int)).bind fun y164 => (if 0 ≤ (ji14) then (if (ji14) ≤ (l0_2.length : Int) then (if y164.length + (l0_2.drop ((ji14) : Int).toNat).length < 140737488355328 then ((some (([] : List (S70)) : List (S70))).bind fun y171 => (if y171.length + l0_3.length < 8796093022208 then ((some (([] : List Int) : List Int)).bind fun y178 => (if y178.length + (l0_2.take ((ji14) : Int).toNat).length < 140737488355328 then (some (a0_0, a0_1, (y164 ++ (l0_2.drop ((ji14) : Int).toNat)), (y171 ++ l0_3), (y178 ++ (l0_2.take ((ji14) : Int).toNat)))) else (none))) else (none))) else (none)) else (none)) else (none))) = some (r1, r2, r3, r4, r5) := by first | (rw [hji14] at H; exact H) | (simp only [hji14] at H ⊢; exact H)
      (try rw [hji14] at A3)
      have hji14_ : (if (l0_2.length : Int) < a1 then (l0_2.length : Int) else a1) = ji14 := hji14
      obtain ⟨y164, hy164⟩ : ∃ y_ : List Int, y_ = (([] : List Int)) := ⟨_, rfl⟩
      replace H : (if 0 ≤ (ji14) then (if (ji14) ≤ (l0_2.length : Int) then (if y164.length + (l0_2.drop ((ji14) : Int).toNat).length < 140737488355328 then ((some (([] : List (S70)) : List (S70))).bind fun y171 => (if y171.length + l0_3.length < 8796093022208 then ((some (([] : List Int) : List Int)).bind fun y178 => (if y178.length + (l0_2.take ((ji14) : Int).toNat).length < 140737488355328 then (some (a0_0, a0_1, (y164 ++ (l0_2.drop ((ji14) : Int).toNat)), (y171 ++ l0_3), (y178 ++ (l0_2.take ((ji14) : Int).toNat)))) else (none))) else (none))) else (none)) else (none)) else (none)) = some (r1, r2, r3, r4, r5) := by first | (rw [hy164]; with_reducible exact H) | (have H2_ := (Option.bind_some _ _).symm.trans H; rw [hy164]; with_reducible exact H2_) | (have H2_ := (Option.bind_some _ _).symm.trans H; with_reducible exact H2_) | with_reducible exact H | (rw [hy164]; exact H) | exact H
      have Ny164 := Aside0.mk hy164
      clear hy164
      by_cases c15 : 0 ≤ (ji14)
      · rw [if_pos c15] at H
        have c15b0 := eq_true c15
        have c15b1 : decide (0 ≤ (ji14)) = true := decide_eq_true c15
        clear c15
        by_cases c16 : (ji14) ≤ (l0_2.length : Int)
        · rw [if_pos c16] at H
          have c16b0 := eq_true c16
          have c16b1 : decide ((ji14) ≤ (l0_2.length : Int)) = true := decide_eq_true c16
          clear c16
          by_cases c17 : y164.length + (l0_2.drop ((ji14) : Int).toNat).length < 140737488355328
          · rw [if_pos c17] at H
            have LMc17 := Aside0.mk c17
            clear c17
            obtain ⟨y168, hy168⟩ : ∃ y_ : List Int, y_ = (y164 ++ (l0_2.drop ((ji14) : Int).toNat)) := ⟨_, rfl⟩
            replace H : ((some (([] : List (S70)) : List (S70))).bind fun y171 => (if y171.length + l0_3.length < 8796093022208 then ((some (([] : List Int) : List Int)).bind fun y178 => (if y178.length + (l0_2.take ((ji14) : Int).toNat).length < 140737488355328 then (some (a0_0, a0_1, y168, (y171 ++ l0_3), (y178 ++ (l0_2.take ((ji14) : Int).toNat)))) else (none))) else (none))) = some (r1, r2, r3, r4, r5) := by first | (rw [hy168]; with_reducible exact H) | (have H2_ := (Option.bind_some _ _).symm.trans H; rw [hy168]; with_reducible exact H2_) | (have H2_ := (Option.bind_some _ _).symm.trans H; with_reducible exact H2_) | with_reducible exact H | (rw [hy168]; exact H) | exact H
            have Ny168 := Aside0.mk hy168
            clear hy168
            obtain ⟨y171, hy171⟩ : ∃ y_ : List (S70), y_ = (([] : List (S70))) := ⟨_, rfl⟩
            replace H : (if y171.length + l0_3.length < 8796093022208 then ((some (([] : List Int) : List Int)).bind fun y178 => (if y178.length + (l0_2.take ((ji14) : Int).toNat).length < 140737488355328 then (some (a0_0, a0_1, y168, (y171 ++ l0_3), (y178 ++ (l0_2.take ((ji14) : Int).toNat)))) else (none))) else (none)) = some (r1, r2, r3, r4, r5) := by first | (rw [hy171]; with_reducible exact H) | (have H2_ := (Option.bind_some _ _).symm.trans H; rw [hy171]; with_reducible exact H2_) | (have H2_ := (Option.bind_some _ _).symm.trans H; with_reducible exact H2_) | with_reducible exact H | (rw [hy171]; exact H) | exact H
            have Ny171 := Aside0.mk hy171
            clear hy171
            by_cases c18 : y171.length + l0_3.length < 8796093022208
            · rw [if_pos c18] at H
              have LMc18 := Aside0.mk c18
              clear c18
              obtain ⟨y174, hy174⟩ : ∃ y_ : List (S70), y_ = (y171 ++ l0_3) := ⟨_, rfl⟩
              replace H : ((some (([] : List Int) : List Int)).bind fun y178 => (if y178.length + (l0_2.take ((ji14) : Int).toNat).length < 140737488355328 then (some (a0_0, a0_1, y168, y174, (y178 ++ (l0_2.take ((ji14) : Int).toNat)))) else (none))) = some (r1, r2, r3, r4, r5) := by first | (rw [hy174]; with_reducible exact H) | (have H2_ := (Option.bind_some _ _).symm.trans H; rw [hy174]; with_reducible exact H2_) | (have H2_ := (Option.bind_some _ _).symm.trans H; with_reducible exact H2_) | with_reducible exact H | (rw [hy174]; exact H) | exact H
              have Ny174 := Aside0.mk hy174
              clear hy174
              obtain ⟨y178, hy178⟩ : ∃ y_ : List Int, y_ = (([] : List Int)) := ⟨_, rfl⟩
              replace H : (if y178.length + (l0_2.take ((ji14) : Int).toNat).length < 140737488355328 then (some (a0_0, a0_1, y168, y174, (y178 ++ (l0_2.take ((ji14) : Int).toNat)))) else (none)) = some (r1, r2, r3, r4, r5) := by first | (rw [hy178]; with_reducible exact H) | (have H2_ := (Option.bind_some _ _).symm.trans H; rw [hy178]; with_reducible exact H2_) | (have H2_ := (Option.bind_some _ _).symm.trans H; with_reducible exact H2_) | with_reducible exact H | (rw [hy178]; exact H) | exact H
              have Ny178 := Aside0.mk hy178
              clear hy178
              have c19b0 := eq_true (of_decide_eq_true (by first | (with_reducible assumption) | assumption) : 0 ≤ (ji14))
              have c20b0 := eq_true (of_decide_eq_true (by first | (with_reducible assumption) | assumption) : (ji14) ≤ (l0_2.length : Int))
              by_cases c21 : y178.length + (l0_2.take ((ji14) : Int).toNat).length < 140737488355328
              · rw [if_pos c21] at H
                have LMc21 := Aside0.mk c21
                clear c21
                obtain ⟨y182, hy182⟩ : ∃ y_ : List Int, y_ = (y178 ++ (l0_2.take ((ji14) : Int).toNat)) := ⟨_, rfl⟩
                replace H : (some (a0_0, a0_1, y168, y174, y182)) = some (r1, r2, r3, r4, r5) := by first | (rw [hy182]; with_reducible exact H) | (have H2_ := (Option.bind_some _ _).symm.trans H; rw [hy182]; with_reducible exact H2_) | (have H2_ := (Option.bind_some _ _).symm.trans H; with_reducible exact H2_) | with_reducible exact H | (rw [hy182]; exact H) | exact H
                have Ny182 := Aside0.mk hy182
                clear hy182
                simp only [Option.some.injEq, Prod.mk.injEq] at H
                obtain ⟨rfl, rfl, rfl, rfl, rfl⟩ := H
                go_enter Try.func16, Try.ntmps16
                try go_wp2_with (first | ((with_reducible refine gate_dst (N := 2) rfl ?_); refine box_event ?hg (N := 2) ?hd (cs := #[.int .i64 a0_0, .int .i64 a0_1, .slice A0_2 l0_2.length c0_2, .slice A0_3 l0_3.length c0_3]) (t := 25) ?hr ?_; (case hd => rfl); (case hg => rfl); (case hr => first | (go_simp; done) | (go_simp; rfl)); intro gb158 hg w22 hbox hb; have n0_ := Aside0.mk (below_step (hb0_ HB.out) hb); have n1_ := Aside0.mk (hbox); have n2_ := Aside0.mk ((by rw [hg]; exact (below_size (hb0_ HB.out)) : w.heap.size ≤ gb158)); have n3_ := Aside0.mk ((by rw [hg]; exact (below_size (hb0_ HB.out)) : w.heap.size ≤ gb158)); clear HB; have HB := n0_; have BK158 := n1_; have GW158 := n2_; have GE158 := n3_; clear n0_ n1_ n2_ n3_; clear hb hbox hg) | ((with_reducible refine gate_dst (N := 4) rfl ?_); refine box_event ?hg (N := 4) ?hd (cs := #[.int .i64 0, .int .i64 0, .slice none 0 0, .slice none 0 0]) (t := 25) ?hr ?_; (case hd => rfl); (case hg => rfl); (case hr => first | (go_simp; done) | (go_simp; rfl)); intro gb159 hg w23 hbox hb; have n0_ := Aside0.mk (blk_below (g := gb158) (o := .cells #[.int .i64 a0_0, .int .i64 a0_1, .slice A0_2 l0_2.length c0_2, .slice A0_3 l0_3.length c0_3] 25 (0, 0)) (kb_ BK158.out) hb); have n1_ := Aside0.mk (below_step (hb1_ HB.out GE158.out) hb); have n2_ := Aside0.mk (hbox); have n3_ := Aside0.mk ((by rw [hg]; exact (below_size (hb1_ HB.out GE158.out)) : w.heap.size ≤ gb159)); have n4_ := Aside0.mk ((by rw [hg]; exact (below_size (hb1_ HB.out GE158.out)) : w.heap.size ≤ gb159)); have n5_ := Aside0.mk ((by rw [hg]; exact Nat.ne_of_lt (blk_lt (g := gb158) (o := .cells #[.int .i64 a0_0, .int .i64 a0_1, .slice A0_2 l0_2.length c0_2, .slice A0_3 l0_3.length c0_3] 25 (0, 0)) (kb_ BK158.out)) : gb158 ≠ gb159)); have n6_ := Aside0.mk ((by rw [hg]; exact Nat.ne_of_gt (blk_lt (g := gb158) (o := .cells #[.int .i64 a0_0, .int .i64 a0_1, .slice A0_2 l0_2.length c0_2, .slice A0_3 l0_3.length c0_3] 25 (0, 0)) (kb_ BK158.out)) : gb159 ≠ gb158)); clear BK158; clear HB; have BK158 := n0_; have HB := n1_; have BK159 := n2_; have GW159 := n3_; have GE159 := n4_; have NB158_159 := n5_; have NB159_158 := n6_; clear n0_ n1_ n2_ n3_ n4_ n5_ n6_; clear hb hbox hg; have hnb24 := NB158_159.out; have hnc24 := NB159_158.out; have hcz25_0 : w23.cell? ⟨gb158, 0, none⟩ = some (.int .i64 a0_0) := (blk_cell BK158.out 0).trans rfl; have hcz25_1 : w23.cell? ⟨gb158, 1, none⟩ = some (.int .i64 a0_1) := (blk_cell BK158.out 1).trans rfl; have hcz25_2 : w23.cell? ⟨gb158, 2, none⟩ = some (.slice A0_2 l0_2.length c0_2) := (blk_cell BK158.out 2).trans rfl; have hcz25_3 : w23.cell? ⟨gb158, 3, none⟩ = some (.slice A0_3 l0_3.length c0_3) := (blk_cell BK158.out 3).trans rfl; have hfz25_0 := blk_frozen BK158.out 0; have hfz25_1 := blk_frozen BK158.out 1; have hfz25_2 := blk_frozen BK158.out 2; have hfz25_3 := blk_frozen BK158.out 3) | ((with_reducible refine gate_callee (f := 43) rfl ?_); refine goesL_ (some 9) rfl rfl Try.func43 (by kernel_rfl) rfl #[.agg #[.int .i64 a0_0, .int .i64 a0_1, .slice A0_2 l0_2.length c0_2, .slice A0_3 l0_3.length c0_3]] rfl ar_ ?_; (with_reducible refine (spec_EarOk.calls k a0_0 a0_1 _ _ l0_2 _ _ l0_3 true _ ?side1 ?side2 ?side3 ?side4 A3.out).mono ?_); (case side1 => exact kC_ (Kd.C_below HR0_2.out HB.out)); (case side2 => exact HC0_2.out); (case side3 => exact kC_ (Kd.C_below HR0_3.out HB.out)); (case side4 => exact HC0_3.out); rintro e w26 ⟨rfl, hb⟩; refine ⟨_, rfl, ?_⟩; have n0_ := Aside0.mk (blk_below (g := gb158) (o := .cells #[.int .i64 a0_0, .int .i64 a0_1, .slice A0_2 l0_2.length c0_2, .slice A0_3 l0_3.length c0_3] 25 (0, 0)) (kb_ BK158.out) hb); have n1_ := Aside0.mk (blk_below (g := gb159) (o := .cells #[.int .i64 0, .int .i64 0, .slice none 0 0, .slice none 0 0] 25 (0, 0)) (kb_ BK159.out) hb); have n2_ := Aside0.mk (below_step (hb2_ HB.out GE158.out GE159.out) hb); clear BK158; clear BK159; clear HB; have BK158 := n0_; have BK159 := n1_; have HB := n2_; clear n0_ n1_ n2_; (try clear hb); (try clear hb2); (try clear hk); (try clear hi); have hcz27_0 : w26.cell? ⟨gb158, 0, none⟩ = some (.int .i64 a0_0) := (blk_cell BK158.out 0).trans rfl; have hcz27_1 : w26.cell? ⟨gb158, 1, none⟩ = some (.int .i64 a0_1) := (blk_cell BK158.out 1).trans rfl; have hcz27_2 : w26.cell? ⟨gb158, 2, none⟩ = some (.slice A0_2 l0_2.length c0_2) := (blk_cell BK158.out 2).trans rfl; have hcz27_3 : w26.cell? ⟨gb158, 3, none⟩ = some (.slice A0_3 l0_3.length c0_3) := (blk_cell BK158.out 3).trans rfl; have hfz27_0 := blk_frozen BK158.out 0; have hfz27_1 := blk_frozen BK158.out 1; have hfz27_2 := blk_frozen BK158.out 2; have hfz27_3 := blk_frozen BK158.out 3))
                have n0_ := Aside0.mk (blk_drew BK158.out)
                have n1_ := Aside0.mk (blk_drew BK159.out)
                have n2_ := Aside0.mk (below_drew1 HB.out)
                clear BK158
                clear BK159
                clear HB
                have BK158 := n0_
                have BK159 := n1_
                have HB := n2_
                clear n0_ n1_ n2_
                obtain ⟨i029, hi029, _, hsz29, _⟩ := info_parts info5
                obtain ⟨A29, hcut29, hA29, hC29⟩ := print_drop_of (P := Try.prog) (Value.int .u8) 0 22 5 .i64 Try.underlying22 hi029 hsz29 A0_2 c0_2 l0_2 (ji14) (of_decide_eq_true (by first | (with_reducible assumption) | assumption)) (of_decide_eq_true (by first | (with_reducible assumption) | assumption)) HC0_2.out
                have HR167 := Aside0.mk (Kd.C_of_reads (h1 := fun _ => rfl) (hA29 _ (Kd.reads_of_C HR0_2.out)))
                have HC167 := Aside0.mk hC29
                clear hA29 hC29 hi029 hsz29
                refine start_ (n := 17) (S := fun w' => w'.cell? ⟨gb158, 0, none⟩ = some (.int .i64 a0_0) ∧ w'.cell? ⟨gb158, 1, none⟩ = some (.int .i64 a0_1) ∧ w'.cell? ⟨gb158, 2, none⟩ = some (.slice A0_2 l0_2.length c0_2) ∧ w'.cell? ⟨gb158, 3, none⟩ = some (.slice A0_3 l0_3.length c0_3)) (ds := []) #[false, false, false, false, false, false, false, false, false, false, false, false, false, false, false, false, false] (by kernel_rfl) rfl rfl ⟨(blk_cell BK158.out 0).trans rfl, (blk_cell BK158.out 1).trans rfl, (blk_cell BK158.out 2).trans rfl, (blk_cell BK158.out 3).trans rfl⟩ (fun hHeld => ?_); refine with_tabW spec_EarRead.tab4 spec_EarRead.bits4 (fun HT_ HW_ => ?_)
                generalize w26.drew = w28 at BK158 BK159 HB HR167 hHeld ⊢
                refine pu_ (i := 0) (N := some 22) HT_ ?_
                refine pu_ (i := 2) (N := some 24) HT_ ?_
                refine pu_ (i := 5) (N := some 27) HT_ ?_
                refine pu_ (i := 7) (N := some 29) HT_ ?_
                refine pu_ (i := 11) (N := some 33) HT_ ?_
                refine tk_ (i := 1) (N := some 23) HT_ HW_ hHeld ?_
                refine tk_ (i := 3) (N := some 25) HT_ HW_ hHeld ?_
                refine tk_ (i := 6) (N := some 28) HT_ HW_ hHeld ?_
                refine pu_ (i := 8) (N := some 30) HT_ ?_
                refine tk_ (i := 12) (N := some 34) HT_ HW_ hHeld ?_
                refine join_ (σ := Value × Value × Value × Value × Nat) 1 #[true, true, true, true, true, true, true, true, true, true, true, true, true, true, true, true, false] (fun s_ => [(26, s_.1), (31, s_.2.1), (32, s_.2.2.1), (35, s_.2.2.2.1), (7, .pointer (some ⟨s_.2.2.2.2, 0, none⟩)), (36, .agg #[.int .i64 a0_0, .int .i64 a0_1, s_.2.1, s_.2.2.2.1])]) (fun s_ w' => (w'.cell? ⟨gb158, 0, none⟩ = some (.int .i64 a0_0) ∧ w'.cell? ⟨gb158, 1, none⟩ = some (.int .i64 a0_1) ∧ w'.cell? ⟨gb158, 2, none⟩ = some (.slice A0_2 l0_2.length c0_2) ∧ w'.cell? ⟨gb158, 3, none⟩ = some (.slice A0_3 l0_3.length c0_3)) ∧ (Kd.R (Kd.int .u8) 5 w' w.heap.size (fun _ => True) s_.2.1 y168) ∧ (Kd.R k70 70 w' w.heap.size (fun _ => True) s_.2.2.2.1 y174) ∧ (w'.heap[gb158]? = some (.cells #[.int .i64 a0_0, .int .i64 a0_1, .slice A0_2 l0_2.length c0_2, .slice A0_3 l0_3.length c0_3] 25 (0, 0))) ∧ (w'.heap[gb159]? = some (.cells #[.int .i64 0, .int .i64 0, .slice none 0 0, .slice none 0 0] 25 (0, 0))) ∧ (w'.heap[s_.2.2.2.2]? = some (.cells #[.int .i64 0, .int .i64 0, .slice none 0 0, .slice none 0 0] 25 (0, 0))) ∧ (w.heap.size ≤ s_.2.2.2.2) ∧ (w.heap.size ≤ s_.2.2.2.2) ∧ (gb158 ≠ s_.2.2.2.2) ∧ (s_.2.2.2.2 ≠ gb158) ∧ (gb159 ≠ s_.2.2.2.2) ∧ (s_.2.2.2.2 ≠ gb159) ∧ (Below w.heap.size w w')) ?_ ?_
                rotate_left
                · intro hJ4_9_10_13_15
                  refine join_ (σ := Value × Value × Value × Value) 2 #[true, true, true, true, true, true, true, true, true, true, true, true, true, true, true, false, false] (fun s_ => [(26, s_.1), (31, s_.2.1), (32, s_.2.2.1), (35, s_.2.2.2), (36, .agg #[.int .i64 a0_0, .int .i64 a0_1, s_.2.1, s_.2.2.2])]) (fun s_ w' => (w'.cell? ⟨gb158, 0, none⟩ = some (.int .i64 a0_0) ∧ w'.cell? ⟨gb158, 1, none⟩ = some (.int .i64 a0_1) ∧ w'.cell? ⟨gb158, 2, none⟩ = some (.slice A0_2 l0_2.length c0_2) ∧ w'.cell? ⟨gb158, 3, none⟩ = some (.slice A0_3 l0_3.length c0_3)) ∧ (Kd.R (Kd.int .u8) 5 w' w.heap.size (fun _ => True) s_.2.1 y168) ∧ (Kd.R k70 70 w' w.heap.size (fun _ => True) s_.2.2.2 y174) ∧ (w'.heap[gb158]? = some (.cells #[.int .i64 a0_0, .int .i64 a0_1, .slice A0_2 l0_2.length c0_2, .slice A0_3 l0_3.length c0_3] 25 (0, 0))) ∧ (w'.heap[gb159]? = some (.cells #[.int .i64 0, .int .i64 0, .slice none 0 0, .slice none 0 0] 25 (0, 0))) ∧ (Below w.heap.size w w')) ?_ ?_
                  rotate_left
                  · intro hJ4_9_10_13
                    refine join_ (σ := Value × Value × Value × Nat) 3 #[true, true, true, true, true, true, true, true, true, true, true, true, true, false, false, true, false] (fun s_ => [(26, s_.1), (31, s_.2.1), (32, s_.2.2.1), (7, .pointer (some ⟨s_.2.2.2, 0, none⟩))]) (fun s_ w' => (w'.cell? ⟨gb158, 0, none⟩ = some (.int .i64 a0_0) ∧ w'.cell? ⟨gb158, 1, none⟩ = some (.int .i64 a0_1) ∧ w'.cell? ⟨gb158, 2, none⟩ = some (.slice A0_2 l0_2.length c0_2) ∧ w'.cell? ⟨gb158, 3, none⟩ = some (.slice A0_3 l0_3.length c0_3)) ∧ (Kd.R (Kd.int .u8) 5 w' w.heap.size (fun _ => True) s_.2.1 y168) ∧ (Kd.R k70 70 w' w.heap.size (fun _ => True) s_.2.2.1 y171) ∧ (w'.heap[gb158]? = some (.cells #[.int .i64 a0_0, .int .i64 a0_1, .slice A0_2 l0_2.length c0_2, .slice A0_3 l0_3.length c0_3] 25 (0, 0))) ∧ (w'.heap[gb159]? = some (.cells #[.int .i64 0, .int .i64 0, .slice none 0 0, .slice none 0 0] 25 (0, 0))) ∧ (w'.heap[s_.2.2.2]? = some (.cells #[.int .i64 0, .int .i64 0, .slice none 0 0, .slice none 0 0] 25 (0, 0))) ∧ (w.heap.size ≤ s_.2.2.2) ∧ (w.heap.size ≤ s_.2.2.2) ∧ (gb158 ≠ s_.2.2.2) ∧ (s_.2.2.2 ≠ gb158) ∧ (gb159 ≠ s_.2.2.2) ∧ (s_.2.2.2 ≠ gb159) ∧ (Below w.heap.size w w')) ?_ ?_
                    rotate_left
                    · intro hJ4_9_10_15
                      refine join_ (σ := Value × Value × Value) 4 #[true, true, true, true, true, true, true, true, true, true, true, true, true, false, false, false, false] (fun s_ => [(26, s_.1), (31, s_.2.1), (32, s_.2.2)]) (fun s_ w' => (w'.cell? ⟨gb158, 0, none⟩ = some (.int .i64 a0_0) ∧ w'.cell? ⟨gb158, 1, none⟩ = some (.int .i64 a0_1) ∧ w'.cell? ⟨gb158, 2, none⟩ = some (.slice A0_2 l0_2.length c0_2) ∧ w'.cell? ⟨gb158, 3, none⟩ = some (.slice A0_3 l0_3.length c0_3)) ∧ (Kd.R (Kd.int .u8) 5 w' w.heap.size (fun _ => True) s_.2.1 y168) ∧ (Kd.R k70 70 w' w.heap.size (fun _ => True) s_.2.2 y171) ∧ (w'.heap[gb158]? = some (.cells #[.int .i64 a0_0, .int .i64 a0_1, .slice A0_2 l0_2.length c0_2, .slice A0_3 l0_3.length c0_3] 25 (0, 0))) ∧ (w'.heap[gb159]? = some (.cells #[.int .i64 0, .int .i64 0, .slice none 0 0, .slice none 0 0] 25 (0, 0))) ∧ (Below w.heap.size w w')) ?_ ?_
                      rotate_left
                      · intro hJ4_9_10
                        refine join_ (σ := Value × Value × Nat) 4 #[true, true, true, true, true, true, true, true, true, true, false, true, true, false, false, true, false] (fun s_ => [(26, s_.1), (31, s_.2.1), (7, .pointer (some ⟨s_.2.2, 0, none⟩))]) (fun s_ w' => (w'.cell? ⟨gb158, 0, none⟩ = some (.int .i64 a0_0) ∧ w'.cell? ⟨gb158, 1, none⟩ = some (.int .i64 a0_1) ∧ w'.cell? ⟨gb158, 2, none⟩ = some (.slice A0_2 l0_2.length c0_2) ∧ w'.cell? ⟨gb158, 3, none⟩ = some (.slice A0_3 l0_3.length c0_3)) ∧ (Kd.R (Kd.int .u8) 5 w' w.heap.size (fun _ => True) s_.2.1 y168) ∧ (w'.heap[gb158]? = some (.cells #[.int .i64 a0_0, .int .i64 a0_1, .slice A0_2 l0_2.length c0_2, .slice A0_3 l0_3.length c0_3] 25 (0, 0))) ∧ (w'.heap[gb159]? = some (.cells #[.int .i64 0, .int .i64 0, .slice none 0 0, .slice none 0 0] 25 (0, 0))) ∧ (w'.heap[s_.2.2]? = some (.cells #[.int .i64 0, .int .i64 0, .slice none 0 0, .slice none 0 0] 25 (0, 0))) ∧ (w.heap.size ≤ s_.2.2) ∧ (w.heap.size ≤ s_.2.2) ∧ (gb158 ≠ s_.2.2) ∧ (s_.2.2 ≠ gb158) ∧ (gb159 ≠ s_.2.2) ∧ (s_.2.2 ≠ gb159) ∧ (Below w.heap.size w w')) ?_ ?_
                        rotate_left
                        · intro hJ4_9_15
                          refine join_ (σ := Value × Value × Nat) 4 #[true, true, true, true, true, true, true, true, true, false, true, true, true, false, false, true, false] (fun s_ => [(26, s_.1), (32, s_.2.1), (7, .pointer (some ⟨s_.2.2, 0, none⟩))]) (fun s_ w' => (w'.cell? ⟨gb158, 0, none⟩ = some (.int .i64 a0_0) ∧ w'.cell? ⟨gb158, 1, none⟩ = some (.int .i64 a0_1) ∧ w'.cell? ⟨gb158, 2, none⟩ = some (.slice A0_2 l0_2.length c0_2) ∧ w'.cell? ⟨gb158, 3, none⟩ = some (.slice A0_3 l0_3.length c0_3)) ∧ (Kd.R (Kd.int .u8) 5 w' w.heap.size (fun _ => True) s_.1 y164) ∧ (Kd.R k70 70 w' w.heap.size (fun _ => True) s_.2.1 y171) ∧ (w'.heap[gb158]? = some (.cells #[.int .i64 a0_0, .int .i64 a0_1, .slice A0_2 l0_2.length c0_2, .slice A0_3 l0_3.length c0_3] 25 (0, 0))) ∧ (w'.heap[gb159]? = some (.cells #[.int .i64 0, .int .i64 0, .slice none 0 0, .slice none 0 0] 25 (0, 0))) ∧ (w'.heap[s_.2.2]? = some (.cells #[.int .i64 0, .int .i64 0, .slice none 0 0, .slice none 0 0] 25 (0, 0))) ∧ (w.heap.size ≤ s_.2.2) ∧ (w.heap.size ≤ s_.2.2) ∧ (gb158 ≠ s_.2.2) ∧ (s_.2.2 ≠ gb158) ∧ (gb159 ≠ s_.2.2) ∧ (s_.2.2 ≠ gb159) ∧ (Below w.heap.size w w')) ?_ ?_
                          rotate_left
                          · intro hJ4_10_15
                            refine join_ (σ := Value × Value) 5 #[true, true, true, true, true, true, true, true, true, true, false, true, true, false, false, false, false] (fun s_ => [(26, s_.1), (31, s_.2)]) (fun s_ w' => (w'.cell? ⟨gb158, 0, none⟩ = some (.int .i64 a0_0) ∧ w'.cell? ⟨gb158, 1, none⟩ = some (.int .i64 a0_1) ∧ w'.cell? ⟨gb158, 2, none⟩ = some (.slice A0_2 l0_2.length c0_2) ∧ w'.cell? ⟨gb158, 3, none⟩ = some (.slice A0_3 l0_3.length c0_3)) ∧ (Kd.R (Kd.int .u8) 5 w' w.heap.size (fun _ => True) s_.2 y168) ∧ (w'.heap[gb158]? = some (.cells #[.int .i64 a0_0, .int .i64 a0_1, .slice A0_2 l0_2.length c0_2, .slice A0_3 l0_3.length c0_3] 25 (0, 0))) ∧ (w'.heap[gb159]? = some (.cells #[.int .i64 0, .int .i64 0, .slice none 0 0, .slice none 0 0] 25 (0, 0))) ∧ (Below w.heap.size w w')) ?_ ?_
                            rotate_left
                            · intro hJ4_9
                              refine join_ (σ := Value × Value) 5 #[true, true, true, true, true, true, true, true, true, false, true, true, true, false, false, false, false] (fun s_ => [(26, s_.1), (32, s_.2)]) (fun s_ w' => (w'.cell? ⟨gb158, 0, none⟩ = some (.int .i64 a0_0) ∧ w'.cell? ⟨gb158, 1, none⟩ = some (.int .i64 a0_1) ∧ w'.cell? ⟨gb158, 2, none⟩ = some (.slice A0_2 l0_2.length c0_2) ∧ w'.cell? ⟨gb158, 3, none⟩ = some (.slice A0_3 l0_3.length c0_3)) ∧ (Kd.R (Kd.int .u8) 5 w' w.heap.size (fun _ => True) s_.1 y164) ∧ (Kd.R k70 70 w' w.heap.size (fun _ => True) s_.2 y171) ∧ (w'.heap[gb158]? = some (.cells #[.int .i64 a0_0, .int .i64 a0_1, .slice A0_2 l0_2.length c0_2, .slice A0_3 l0_3.length c0_3] 25 (0, 0))) ∧ (w'.heap[gb159]? = some (.cells #[.int .i64 0, .int .i64 0, .slice none 0 0, .slice none 0 0] 25 (0, 0))) ∧ (Below w.heap.size w w')) ?_ ?_
                              rotate_left
                              · intro hJ4_10
                                refine join_ (σ := Value × Nat) 5 #[true, true, true, true, true, true, true, true, true, false, false, true, true, false, false, true, false] (fun s_ => [(26, s_.1), (7, .pointer (some ⟨s_.2, 0, none⟩))]) (fun s_ w' => (w'.cell? ⟨gb158, 0, none⟩ = some (.int .i64 a0_0) ∧ w'.cell? ⟨gb158, 1, none⟩ = some (.int .i64 a0_1) ∧ w'.cell? ⟨gb158, 2, none⟩ = some (.slice A0_2 l0_2.length c0_2) ∧ w'.cell? ⟨gb158, 3, none⟩ = some (.slice A0_3 l0_3.length c0_3)) ∧ (Kd.R (Kd.int .u8) 5 w' w.heap.size (fun _ => True) s_.1 y164) ∧ (w'.heap[gb158]? = some (.cells #[.int .i64 a0_0, .int .i64 a0_1, .slice A0_2 l0_2.length c0_2, .slice A0_3 l0_3.length c0_3] 25 (0, 0))) ∧ (w'.heap[gb159]? = some (.cells #[.int .i64 0, .int .i64 0, .slice none 0 0, .slice none 0 0] 25 (0, 0))) ∧ (w'.heap[s_.2]? = some (.cells #[.int .i64 0, .int .i64 0, .slice none 0 0, .slice none 0 0] 25 (0, 0))) ∧ (w.heap.size ≤ s_.2) ∧ (w.heap.size ≤ s_.2) ∧ (gb158 ≠ s_.2) ∧ (s_.2 ≠ gb158) ∧ (gb159 ≠ s_.2) ∧ (s_.2 ≠ gb159) ∧ (Below w.heap.size w w')) ?_ ?_
                                rotate_left
                                · intro hJ4_15
                                  refine join_ (σ := Value × Nat) 5 #[true, true, true, true, false, true, true, true, true, false, true, true, true, false, false, true, false] (fun s_ => [(32, s_.1), (7, .pointer (some ⟨s_.2, 0, none⟩))]) (fun s_ w' => (w'.cell? ⟨gb158, 0, none⟩ = some (.int .i64 a0_0) ∧ w'.cell? ⟨gb158, 1, none⟩ = some (.int .i64 a0_1) ∧ w'.cell? ⟨gb158, 2, none⟩ = some (.slice A0_2 l0_2.length c0_2) ∧ w'.cell? ⟨gb158, 3, none⟩ = some (.slice A0_3 l0_3.length c0_3)) ∧ (Kd.R k70 70 w' w.heap.size (fun _ => True) s_.1 y171) ∧ (w'.heap[gb158]? = some (.cells #[.int .i64 a0_0, .int .i64 a0_1, .slice A0_2 l0_2.length c0_2, .slice A0_3 l0_3.length c0_3] 25 (0, 0))) ∧ (w'.heap[gb159]? = some (.cells #[.int .i64 0, .int .i64 0, .slice none 0 0, .slice none 0 0] 25 (0, 0))) ∧ (w'.heap[s_.2]? = some (.cells #[.int .i64 0, .int .i64 0, .slice none 0 0, .slice none 0 0] 25 (0, 0))) ∧ (w.heap.size ≤ s_.2) ∧ (w.heap.size ≤ s_.2) ∧ (gb158 ≠ s_.2) ∧ (s_.2 ≠ gb158) ∧ (gb159 ≠ s_.2) ∧ (s_.2 ≠ gb159) ∧ (Below w.heap.size w w')) ?_ ?_
                                  rotate_left
                                  · intro hJ10_15
                                    refine join_ (σ := Value) 6 #[true, true, true, true, true, true, true, true, true, false, false, true, true, false, false, false, false] (fun s_ => [(26, s_)]) (fun s_ w' => (w'.cell? ⟨gb158, 0, none⟩ = some (.int .i64 a0_0) ∧ w'.cell? ⟨gb158, 1, none⟩ = some (.int .i64 a0_1) ∧ w'.cell? ⟨gb158, 2, none⟩ = some (.slice A0_2 l0_2.length c0_2) ∧ w'.cell? ⟨gb158, 3, none⟩ = some (.slice A0_3 l0_3.length c0_3)) ∧ (Kd.R (Kd.int .u8) 5 w' w.heap.size (fun _ => True) s_ y164) ∧ (w'.heap[gb158]? = some (.cells #[.int .i64 a0_0, .int .i64 a0_1, .slice A0_2 l0_2.length c0_2, .slice A0_3 l0_3.length c0_3] 25 (0, 0))) ∧ (w'.heap[gb159]? = some (.cells #[.int .i64 0, .int .i64 0, .slice none 0 0, .slice none 0 0] 25 (0, 0))) ∧ (Below w.heap.size w w')) ?_ ?_
                                    rotate_left
                                    · intro hJ4
                                      refine join_ (σ := Value) 6 #[true, true, true, true, false, true, true, true, true, false, true, true, true, false, false, false, false] (fun s_ => [(32, s_)]) (fun s_ w' => (w'.cell? ⟨gb158, 0, none⟩ = some (.int .i64 a0_0) ∧ w'.cell? ⟨gb158, 1, none⟩ = some (.int .i64 a0_1) ∧ w'.cell? ⟨gb158, 2, none⟩ = some (.slice A0_2 l0_2.length c0_2) ∧ w'.cell? ⟨gb158, 3, none⟩ = some (.slice A0_3 l0_3.length c0_3)) ∧ (Kd.R k70 70 w' w.heap.size (fun _ => True) s_ y171) ∧ (w'.heap[gb158]? = some (.cells #[.int .i64 a0_0, .int .i64 a0_1, .slice A0_2 l0_2.length c0_2, .slice A0_3 l0_3.length c0_3] 25 (0, 0))) ∧ (w'.heap[gb159]? = some (.cells #[.int .i64 0, .int .i64 0, .slice none 0 0, .slice none 0 0] 25 (0, 0))) ∧ (Below w.heap.size w w')) ?_ ?_
                                      rotate_left
                                      · intro hJ10
                                        refine join_ (σ := Nat) 6 #[true, true, true, true, false, true, true, true, true, false, false, true, true, false, false, true, false] (fun s_ => [(7, .pointer (some ⟨s_, 0, none⟩))]) (fun s_ w' => (w'.cell? ⟨gb158, 0, none⟩ = some (.int .i64 a0_0) ∧ w'.cell? ⟨gb158, 1, none⟩ = some (.int .i64 a0_1) ∧ w'.cell? ⟨gb158, 2, none⟩ = some (.slice A0_2 l0_2.length c0_2) ∧ w'.cell? ⟨gb158, 3, none⟩ = some (.slice A0_3 l0_3.length c0_3)) ∧ (w'.heap[gb158]? = some (.cells #[.int .i64 a0_0, .int .i64 a0_1, .slice A0_2 l0_2.length c0_2, .slice A0_3 l0_3.length c0_3] 25 (0, 0))) ∧ (w'.heap[gb159]? = some (.cells #[.int .i64 0, .int .i64 0, .slice none 0 0, .slice none 0 0] 25 (0, 0))) ∧ (w'.heap[s_]? = some (.cells #[.int .i64 0, .int .i64 0, .slice none 0 0, .slice none 0 0] 25 (0, 0))) ∧ (w.heap.size ≤ s_) ∧ (w.heap.size ≤ s_) ∧ (gb158 ≠ s_) ∧ (s_ ≠ gb158) ∧ (gb159 ≠ s_) ∧ (s_ ≠ gb159) ∧ (Below w.heap.size w w')) ?_ ?_
                                        rotate_left
                                        · intro hJ15
                                          refine three_ (i := 4) (j := 10) (k := 15) (Ni := some 26) (Nj := some 32) (Nk := some 7) #[true, true, true, true, true, true, true, true, true, false, false, true, true, false, false, false, false] #[true, true, true, true, false, true, true, true, true, false, true, true, true, false, false, false, false] #[true, true, true, true, false, true, true, true, true, false, false, true, true, false, false, true, false] rfl rfl rfl rfl rfl rfl (three_of HT_.out (by kernel_rfl)) (by decide) (by decide) (by decide) (fun K hK => ?_) (fun K hK => ?_) (fun K hK => ?_)
                                          · skip
                                            refine Kd.R_lit_step (Kd.int .u8) _ 5 ?hg (N := 26) ?hd (xs := ([] : List Int)) (inner := []) (ok := fun _ => True) (okp := fun _ => True) ?hr ?hp (fun _ hk => hk) trivial (Below.refl _ _) (Nat.le_refl _) (by simp) ?_; (case hd => rfl); (case hg => rfl); (case hr => first | (go_simp; done) | (go_simp; rfl)); (case hp => exact (Reps.none _ _))
                                            intro v165 w30 ho31 hb hg_ hnew_
                                            clear hg_ hnew_
                                            (first | rw [← Ny164.out] at ho31 | (simp only [Int.reduceToNat] at ho31; rw [← Ny164.out] at ho31))
                                            have n0_ := Aside0.mk (Kd.R_lower ho31 (below_size (hb2_ HB.out GE158.out GE159.out)))
                                            have n1_ := Aside0.mk (blk_below (g := gb158) (o := .cells #[.int .i64 a0_0, .int .i64 a0_1, .slice A0_2 l0_2.length c0_2, .slice A0_3 l0_3.length c0_3] 25 (0, 0)) (kb_ BK158.out) hb)
                                            have n2_ := Aside0.mk (blk_below (g := gb159) (o := .cells #[.int .i64 0, .int .i64 0, .slice none 0 0, .slice none 0 0] 25 (0, 0)) (kb_ BK159.out) hb)
                                            have n3_ := Aside0.mk (below_step (hb2_ HB.out GE158.out GE159.out) hb)
                                            clear BK158
                                            clear BK159
                                            clear HB
                                            have HO166 := n0_
                                            have BK158 := n1_
                                            have BK159 := n2_
                                            have HB := n3_
                                            clear n0_ n1_ n2_ n3_
                                            clear hb ho31
                                            refine hK.out _ _ ⟨(blk_cell BK158.out 0).trans rfl, (blk_cell BK158.out 1).trans rfl, (blk_cell BK158.out 2).trans rfl, (blk_cell BK158.out 3).trans rfl⟩ (fun hHeld => ?_)
                                            clear hK K
                                            refine nm_ 26 ?_
                                            exact norm_ (by first | (simp only [putAll, Act.put, List.setIfInBounds_toArray, List.set_cons_zero, List.set_cons_succ]; done) | (simp only [putAll, Act.put, List.setIfInBounds_toArray, List.set_cons_zero, List.set_cons_succ]; rfl)) (hJ4 (v165) _ ⟨hHeld, (kR_ HO166.out), (kb_ BK158.out), (kb_ BK159.out), (hb2_ HB.out GE158.out GE159.out)⟩)
                                          · skip
                                            refine Kd.R_lit_step k70 _ 70 ?hg (N := 32) ?hd (xs := ([] : List (S70))) (inner := []) (ok := fun _ => True) (okp := fun _ => True) ?hr ?hp (fun _ hk => hk) trivial (Below.refl _ _) (Nat.le_refl _) (by simp) ?_; (case hd => rfl); (case hg => rfl); (case hr => first | (go_simp; done) | (go_simp; rfl)); (case hp => exact (Reps.none _ _))
                                            intro v172 w30 ho31 hb hg_ hnew_
                                            clear hg_ hnew_
                                            (first | rw [← Ny171.out] at ho31 | (simp only [Int.reduceToNat] at ho31; rw [← Ny171.out] at ho31))
                                            have n0_ := Aside0.mk (Kd.R_lower ho31 (below_size (hb2_ HB.out GE158.out GE159.out)))
                                            have n1_ := Aside0.mk (blk_below (g := gb158) (o := .cells #[.int .i64 a0_0, .int .i64 a0_1, .slice A0_2 l0_2.length c0_2, .slice A0_3 l0_3.length c0_3] 25 (0, 0)) (kb_ BK158.out) hb)
                                            have n2_ := Aside0.mk (blk_below (g := gb159) (o := .cells #[.int .i64 0, .int .i64 0, .slice none 0 0, .slice none 0 0] 25 (0, 0)) (kb_ BK159.out) hb)
                                            have n3_ := Aside0.mk (below_step (hb2_ HB.out GE158.out GE159.out) hb)
                                            clear BK158
                                            clear BK159
                                            clear HB
                                            have HO173 := n0_
                                            have BK158 := n1_
                                            have BK159 := n2_
                                            have HB := n3_
                                            clear n0_ n1_ n2_ n3_
                                            clear hb ho31
                                            refine hK.out _ _ ⟨(blk_cell BK158.out 0).trans rfl, (blk_cell BK158.out 1).trans rfl, (blk_cell BK158.out 2).trans rfl, (blk_cell BK158.out 3).trans rfl⟩ (fun hHeld => ?_)
                                            clear hK K
                                            refine nm_ 32 ?_
                                            exact norm_ (by first | (simp only [putAll, Act.put, List.setIfInBounds_toArray, List.set_cons_zero, List.set_cons_succ]; done) | (simp only [putAll, Act.put, List.setIfInBounds_toArray, List.set_cons_zero, List.set_cons_succ]; rfl)) (hJ10 (v172) _ ⟨hHeld, (kR_ HO173.out), (kb_ BK158.out), (kb_ BK159.out), (hb2_ HB.out GE158.out GE159.out)⟩)
                                          · skip
                                            refine box_step ?hg (N := 7) ?hd (cs := #[.int .i64 0, .int .i64 0, .slice none 0 0, .slice none 0 0]) (t := 25) ?hr ?_; (case hd => rfl); (case hg => rfl); (case hr => first | (go_simp; done) | (go_simp; rfl))
                                            intro gb177 hg w30 hbox hb
                                            have n0_ := Aside0.mk (blk_below (g := gb158) (o := .cells #[.int .i64 a0_0, .int .i64 a0_1, .slice A0_2 l0_2.length c0_2, .slice A0_3 l0_3.length c0_3] 25 (0, 0)) (kb_ BK158.out) hb)
                                            have n1_ := Aside0.mk (blk_below (g := gb159) (o := .cells #[.int .i64 0, .int .i64 0, .slice none 0 0, .slice none 0 0] 25 (0, 0)) (kb_ BK159.out) hb)
                                            have n2_ := Aside0.mk (below_step (hb2_ HB.out GE158.out GE159.out) hb)
                                            have n3_ := Aside0.mk (hbox)
                                            have n4_ := Aside0.mk ((by rw [hg]; exact (below_size (hb2_ HB.out GE158.out GE159.out)) : w.heap.size ≤ gb177))
                                            have n5_ := Aside0.mk ((by rw [hg]; exact (below_size (hb2_ HB.out GE158.out GE159.out)) : w.heap.size ≤ gb177))
                                            have n6_ := Aside0.mk ((by rw [hg]; exact Nat.ne_of_lt (blk_lt (g := gb158) (o := .cells #[.int .i64 a0_0, .int .i64 a0_1, .slice A0_2 l0_2.length c0_2, .slice A0_3 l0_3.length c0_3] 25 (0, 0)) (kb_ BK158.out)) : gb158 ≠ gb177))
                                            have n7_ := Aside0.mk ((by rw [hg]; exact Nat.ne_of_gt (blk_lt (g := gb158) (o := .cells #[.int .i64 a0_0, .int .i64 a0_1, .slice A0_2 l0_2.length c0_2, .slice A0_3 l0_3.length c0_3] 25 (0, 0)) (kb_ BK158.out)) : gb177 ≠ gb158))
                                            have n8_ := Aside0.mk ((by rw [hg]; exact Nat.ne_of_lt (blk_lt (g := gb159) (o := .cells #[.int .i64 0, .int .i64 0, .slice none 0 0, .slice none 0 0] 25 (0, 0)) (kb_ BK159.out)) : gb159 ≠ gb177))
                                            have n9_ := Aside0.mk ((by rw [hg]; exact Nat.ne_of_gt (blk_lt (g := gb159) (o := .cells #[.int .i64 0, .int .i64 0, .slice none 0 0, .slice none 0 0] 25 (0, 0)) (kb_ BK159.out)) : gb177 ≠ gb159))
                                            clear BK158
                                            clear BK159
                                            clear HB
                                            have BK158 := n0_
                                            have BK159 := n1_
                                            have HB := n2_
                                            have BK177 := n3_
                                            have GW177 := n4_
                                            have GE177 := n5_
                                            have NB158_177 := n6_
                                            have NB177_158 := n7_
                                            have NB159_177 := n8_
                                            have NB177_159 := n9_
                                            clear n0_ n1_ n2_ n3_ n4_ n5_ n6_ n7_ n8_ n9_
                                            clear hb hbox hg
                                            refine hK.out _ _ ⟨(blk_cell BK158.out 0).trans rfl, (blk_cell BK158.out 1).trans rfl, (blk_cell BK158.out 2).trans rfl, (blk_cell BK158.out 3).trans rfl⟩ (fun hHeld => ?_)
                                            clear hK K
                                            refine nm_ 7 ?_
                                            exact norm_ (by first | (simp only [putAll, Act.put, List.setIfInBounds_toArray, List.set_cons_zero, List.set_cons_succ]; done) | (simp only [putAll, Act.put, List.setIfInBounds_toArray, List.set_cons_zero, List.set_cons_succ]; rfl)) (hJ15 (gb177) _ ⟨hHeld, (kb_ BK158.out), (kb_ BK159.out), (kb_ BK177.out), GW177.out, GE177.out, NB158_177.out, NB177_158.out, NB159_177.out, NB177_159.out, (hb3_ HB.out GE158.out GE159.out GE177.out)⟩)
                                        · skip
                                          rintro gb177 w31 ⟨hS_, h0_, h1_, h2_, h3_, h4_, h5_, h6_, h7_, h8_, h9_⟩
                                          have n0_ : Aside0 (w31.heap[gb158]? = some (.cells #[.int .i64 a0_0, .int .i64 a0_1, .slice A0_2 l0_2.length c0_2, .slice A0_3 l0_3.length c0_3] 25 (0, 0))) := ⟨h0_⟩
                                          have n1_ : Aside0 (w31.heap[gb159]? = some (.cells #[.int .i64 0, .int .i64 0, .slice none 0 0, .slice none 0 0] 25 (0, 0))) := ⟨h1_⟩
                                          have n2_ : Aside0 (w31.heap[gb177]? = some (.cells #[.int .i64 0, .int .i64 0, .slice none 0 0, .slice none 0 0] 25 (0, 0))) := ⟨h2_⟩
                                          have n3_ : Aside0 (w.heap.size ≤ gb177) := ⟨h3_⟩
                                          have n4_ : Aside0 (w.heap.size ≤ gb177) := ⟨h4_⟩
                                          have n5_ : Aside0 (gb158 ≠ gb177) := ⟨h5_⟩
                                          have n6_ : Aside0 (gb177 ≠ gb158) := ⟨h6_⟩
                                          have n7_ : Aside0 (gb159 ≠ gb177) := ⟨h7_⟩
                                          have n8_ : Aside0 (gb177 ≠ gb159) := ⟨h8_⟩
                                          have n9_ : Aside0 (Below w.heap.size w w31) := ⟨h9_⟩
                                          clear BK158
                                          clear BK159
                                          clear HB
                                          clear h0_ h1_ h2_ h3_ h4_ h5_ h6_ h7_ h8_ h9_
                                          have BK158 := n0_
                                          have BK159 := n1_
                                          have BK177 := n2_
                                          have GW177 := n3_
                                          have GE177 := n4_
                                          have NB158_177 := n5_
                                          have NB177_158 := n6_
                                          have NB159_177 := n7_
                                          have NB177_159 := n8_
                                          have HB := n9_
                                          clear n0_ n1_ n2_ n3_ n4_ n5_ n6_ n7_ n8_ n9_
                                          have hHeld : w31.cell? ⟨gb158, 0, none⟩ = some (.int .i64 a0_0) ∧ w31.cell? ⟨gb158, 1, none⟩ = some (.int .i64 a0_1) ∧ w31.cell? ⟨gb158, 2, none⟩ = some (.slice A0_2 l0_2.length c0_2) ∧ w31.cell? ⟨gb158, 3, none⟩ = some (.slice A0_3 l0_3.length c0_3) := hS_
                                          refine norm_ (a' := ?_) ?_ ?_
                                          rotate_left
                                          · simp only [putAll, Act.put, List.setIfInBounds_toArray, List.set_cons_zero, List.set_cons_succ]
                                            rfl
                                          refine two_ (i := 4) (j := 10) (Ni := some 26) (Nj := some 32) #[true, true, true, true, true, true, true, true, true, false, false, true, true, false, false, true, false] #[true, true, true, true, false, true, true, true, true, false, true, true, true, false, false, true, false] rfl rfl rfl rfl (two_of HT_.out (by kernel_rfl)) (by decide) (by decide) (fun K hK => ?_) (fun K hK => ?_)
                                          · skip
                                            refine Kd.R_lit_step (Kd.int .u8) _ 5 ?hg (N := 26) ?hd (xs := ([] : List Int)) (inner := []) (ok := fun _ => True) (okp := fun _ => True) ?hr ?hp (fun _ hk => hk) trivial (Below.refl _ _) (Nat.le_refl _) (by simp) ?_; (case hd => rfl); (case hg => rfl); (case hr => first | (go_simp; done) | (go_simp; rfl)); (case hp => exact (Reps.none _ _))
                                            intro v165 w32 ho33 hb hg_ hnew_
                                            clear hg_ hnew_
                                            (first | rw [← Ny164.out] at ho33 | (simp only [Int.reduceToNat] at ho33; rw [← Ny164.out] at ho33))
                                            have n0_ := Aside0.mk (Kd.R_lower ho33 (below_size (hb3_ HB.out GE158.out GE159.out GE177.out)))
                                            have n1_ := Aside0.mk (blk_below (g := gb158) (o := .cells #[.int .i64 a0_0, .int .i64 a0_1, .slice A0_2 l0_2.length c0_2, .slice A0_3 l0_3.length c0_3] 25 (0, 0)) (kb_ BK158.out) hb)
                                            have n2_ := Aside0.mk (blk_below (g := gb159) (o := .cells #[.int .i64 0, .int .i64 0, .slice none 0 0, .slice none 0 0] 25 (0, 0)) (kb_ BK159.out) hb)
                                            have n3_ := Aside0.mk (blk_below (g := gb177) (o := .cells #[.int .i64 0, .int .i64 0, .slice none 0 0, .slice none 0 0] 25 (0, 0)) (kb_ BK177.out) hb)
                                            have n4_ := Aside0.mk (below_step (hb3_ HB.out GE158.out GE159.out GE177.out) hb)
                                            clear BK158
                                            clear BK159
                                            clear BK177
                                            clear HB
                                            have HO166 := n0_
                                            have BK158 := n1_
                                            have BK159 := n2_
                                            have BK177 := n3_
                                            have HB := n4_
                                            clear n0_ n1_ n2_ n3_ n4_
                                            clear hb ho33
                                            refine hK.out _ _ ⟨(blk_cell BK158.out 0).trans rfl, (blk_cell BK158.out 1).trans rfl, (blk_cell BK158.out 2).trans rfl, (blk_cell BK158.out 3).trans rfl⟩ (fun hHeld => ?_)
                                            clear hK K
                                            refine nm_ 26 ?_
                                            exact norm_ (by first | (simp only [putAll, Act.put, List.setIfInBounds_toArray, List.set_cons_zero, List.set_cons_succ]; done) | (simp only [putAll, Act.put, List.setIfInBounds_toArray, List.set_cons_zero, List.set_cons_succ]; rfl)) (hJ4_15 (v165, gb177) _ ⟨hHeld, (kR_ HO166.out), (kb_ BK158.out), (kb_ BK159.out), (kb_ BK177.out), GW177.out, GE177.out, NB158_177.out, NB177_158.out, NB159_177.out, NB177_159.out, (hb3_ HB.out GE158.out GE159.out GE177.out)⟩)
                                          · skip
                                            refine Kd.R_lit_step k70 _ 70 ?hg (N := 32) ?hd (xs := ([] : List (S70))) (inner := []) (ok := fun _ => True) (okp := fun _ => True) ?hr ?hp (fun _ hk => hk) trivial (Below.refl _ _) (Nat.le_refl _) (by simp) ?_; (case hd => rfl); (case hg => rfl); (case hr => first | (go_simp; done) | (go_simp; rfl)); (case hp => exact (Reps.none _ _))
                                            intro v172 w32 ho33 hb hg_ hnew_
                                            clear hg_ hnew_
                                            (first | rw [← Ny171.out] at ho33 | (simp only [Int.reduceToNat] at ho33; rw [← Ny171.out] at ho33))
                                            have n0_ := Aside0.mk (Kd.R_lower ho33 (below_size (hb3_ HB.out GE158.out GE159.out GE177.out)))
                                            have n1_ := Aside0.mk (blk_below (g := gb158) (o := .cells #[.int .i64 a0_0, .int .i64 a0_1, .slice A0_2 l0_2.length c0_2, .slice A0_3 l0_3.length c0_3] 25 (0, 0)) (kb_ BK158.out) hb)
                                            have n2_ := Aside0.mk (blk_below (g := gb159) (o := .cells #[.int .i64 0, .int .i64 0, .slice none 0 0, .slice none 0 0] 25 (0, 0)) (kb_ BK159.out) hb)
                                            have n3_ := Aside0.mk (blk_below (g := gb177) (o := .cells #[.int .i64 0, .int .i64 0, .slice none 0 0, .slice none 0 0] 25 (0, 0)) (kb_ BK177.out) hb)
                                            have n4_ := Aside0.mk (below_step (hb3_ HB.out GE158.out GE159.out GE177.out) hb)
                                            clear BK158
                                            clear BK159
                                            clear BK177
                                            clear HB
                                            have HO173 := n0_
                                            have BK158 := n1_
                                            have BK159 := n2_
                                            have BK177 := n3_
                                            have HB := n4_
                                            clear n0_ n1_ n2_ n3_ n4_
                                            clear hb ho33
                                            refine hK.out _ _ ⟨(blk_cell BK158.out 0).trans rfl, (blk_cell BK158.out 1).trans rfl, (blk_cell BK158.out 2).trans rfl, (blk_cell BK158.out 3).trans rfl⟩ (fun hHeld => ?_)
                                            clear hK K
                                            refine nm_ 32 ?_
                                            exact norm_ (by first | (simp only [putAll, Act.put, List.setIfInBounds_toArray, List.set_cons_zero, List.set_cons_succ]; done) | (simp only [putAll, Act.put, List.setIfInBounds_toArray, List.set_cons_zero, List.set_cons_succ]; rfl)) (hJ10_15 (v172, gb177) _ ⟨hHeld, (kR_ HO173.out), (kb_ BK158.out), (kb_ BK159.out), (kb_ BK177.out), GW177.out, GE177.out, NB158_177.out, NB177_158.out, NB159_177.out, NB177_159.out, (hb3_ HB.out GE158.out GE159.out GE177.out)⟩)
                                      · skip
                                        rintro v172 w32 ⟨hS_, h0_, h1_, h2_, h3_⟩
                                        have n0_ : Aside0 (Kd.R k70 70 w32 w.heap.size (fun _ => True) v172 y171) := ⟨h0_⟩
                                        have n1_ : Aside0 (w32.heap[gb158]? = some (.cells #[.int .i64 a0_0, .int .i64 a0_1, .slice A0_2 l0_2.length c0_2, .slice A0_3 l0_3.length c0_3] 25 (0, 0))) := ⟨h1_⟩
                                        have n2_ : Aside0 (w32.heap[gb159]? = some (.cells #[.int .i64 0, .int .i64 0, .slice none 0 0, .slice none 0 0] 25 (0, 0))) := ⟨h2_⟩
                                        have n3_ : Aside0 (Below w.heap.size w w32) := ⟨h3_⟩
                                        clear BK158
                                        clear BK159
                                        clear HB
                                        clear h0_ h1_ h2_ h3_
                                        have HO173 := n0_
                                        have BK158 := n1_
                                        have BK159 := n2_
                                        have HB := n3_
                                        clear n0_ n1_ n2_ n3_
                                        have hHeld : w32.cell? ⟨gb158, 0, none⟩ = some (.int .i64 a0_0) ∧ w32.cell? ⟨gb158, 1, none⟩ = some (.int .i64 a0_1) ∧ w32.cell? ⟨gb158, 2, none⟩ = some (.slice A0_2 l0_2.length c0_2) ∧ w32.cell? ⟨gb158, 3, none⟩ = some (.slice A0_3 l0_3.length c0_3) := hS_
                                        refine norm_ (a' := ?_) ?_ ?_
                                        rotate_left
                                        · simp only [putAll, Act.put, List.setIfInBounds_toArray, List.set_cons_zero, List.set_cons_succ]
                                          rfl
                                        refine two_ (i := 4) (j := 15) (Ni := some 26) (Nj := some 7) #[true, true, true, true, true, true, true, true, true, false, true, true, true, false, false, false, false] #[true, true, true, true, false, true, true, true, true, false, true, true, true, false, false, true, false] rfl rfl rfl rfl (two_of HT_.out (by kernel_rfl)) (by decide) (by decide) (fun K hK => ?_) (fun K hK => ?_)
                                        · skip
                                          refine Kd.R_lit_step (Kd.int .u8) _ 5 ?hg (N := 26) ?hd (xs := ([] : List Int)) (inner := []) (ok := fun _ => True) (okp := fun _ => True) ?hr ?hp (fun _ hk => hk) trivial (Below.refl _ _) (Nat.le_refl _) (by simp) ?_; (case hd => rfl); (case hg => rfl); (case hr => first | (go_simp; done) | (go_simp; rfl)); (case hp => exact (Reps.none _ _))
                                          intro v165 w33 ho34 hb hg_ hnew_
                                          clear hg_ hnew_
                                          (first | rw [← Ny164.out] at ho34 | (simp only [Int.reduceToNat] at ho34; rw [← Ny164.out] at ho34))
                                          have n0_ := Aside0.mk (Kd.R_below (kR_ HO173.out) hb)
                                          have n1_ := Aside0.mk (Kd.R_lower ho34 (below_size (hb2_ HB.out GE158.out GE159.out)))
                                          have n2_ := Aside0.mk (blk_below (g := gb158) (o := .cells #[.int .i64 a0_0, .int .i64 a0_1, .slice A0_2 l0_2.length c0_2, .slice A0_3 l0_3.length c0_3] 25 (0, 0)) (kb_ BK158.out) hb)
                                          have n3_ := Aside0.mk (blk_below (g := gb159) (o := .cells #[.int .i64 0, .int .i64 0, .slice none 0 0, .slice none 0 0] 25 (0, 0)) (kb_ BK159.out) hb)
                                          have n4_ := Aside0.mk (below_step (hb2_ HB.out GE158.out GE159.out) hb)
                                          clear HO173
                                          clear BK158
                                          clear BK159
                                          clear HB
                                          have HO173 := n0_
                                          have HO166 := n1_
                                          have BK158 := n2_
                                          have BK159 := n3_
                                          have HB := n4_
                                          clear n0_ n1_ n2_ n3_ n4_
                                          clear hb ho34
                                          refine hK.out _ _ ⟨(blk_cell BK158.out 0).trans rfl, (blk_cell BK158.out 1).trans rfl, (blk_cell BK158.out 2).trans rfl, (blk_cell BK158.out 3).trans rfl⟩ (fun hHeld => ?_)
                                          clear hK K
                                          refine nm_ 26 ?_
                                          exact norm_ (by first | (simp only [putAll, Act.put, List.setIfInBounds_toArray, List.set_cons_zero, List.set_cons_succ]; done) | (simp only [putAll, Act.put, List.setIfInBounds_toArray, List.set_cons_zero, List.set_cons_succ]; rfl)) (hJ4_10 (v165, v172) _ ⟨hHeld, (kR_ HO166.out), (kR_ HO173.out), (kb_ BK158.out), (kb_ BK159.out), (hb2_ HB.out GE158.out GE159.out)⟩)
                                        · skip
                                          refine box_step ?hg (N := 7) ?hd (cs := #[.int .i64 0, .int .i64 0, .slice none 0 0, .slice none 0 0]) (t := 25) ?hr ?_; (case hd => rfl); (case hg => rfl); (case hr => first | (go_simp; done) | (go_simp; rfl))
                                          intro gb177 hg w33 hbox hb
                                          have n0_ := Aside0.mk (Kd.R_below (kR_ HO173.out) hb)
                                          have n1_ := Aside0.mk (blk_below (g := gb158) (o := .cells #[.int .i64 a0_0, .int .i64 a0_1, .slice A0_2 l0_2.length c0_2, .slice A0_3 l0_3.length c0_3] 25 (0, 0)) (kb_ BK158.out) hb)
                                          have n2_ := Aside0.mk (blk_below (g := gb159) (o := .cells #[.int .i64 0, .int .i64 0, .slice none 0 0, .slice none 0 0] 25 (0, 0)) (kb_ BK159.out) hb)
                                          have n3_ := Aside0.mk (below_step (hb2_ HB.out GE158.out GE159.out) hb)
                                          have n4_ := Aside0.mk (hbox)
                                          have n5_ := Aside0.mk ((by rw [hg]; exact (below_size (hb2_ HB.out GE158.out GE159.out)) : w.heap.size ≤ gb177))
                                          have n6_ := Aside0.mk ((by rw [hg]; exact (below_size (hb2_ HB.out GE158.out GE159.out)) : w.heap.size ≤ gb177))
                                          have n7_ := Aside0.mk ((by rw [hg]; exact Nat.ne_of_lt (blk_lt (g := gb158) (o := .cells #[.int .i64 a0_0, .int .i64 a0_1, .slice A0_2 l0_2.length c0_2, .slice A0_3 l0_3.length c0_3] 25 (0, 0)) (kb_ BK158.out)) : gb158 ≠ gb177))
                                          have n8_ := Aside0.mk ((by rw [hg]; exact Nat.ne_of_gt (blk_lt (g := gb158) (o := .cells #[.int .i64 a0_0, .int .i64 a0_1, .slice A0_2 l0_2.length c0_2, .slice A0_3 l0_3.length c0_3] 25 (0, 0)) (kb_ BK158.out)) : gb177 ≠ gb158))
                                          have n9_ := Aside0.mk ((by rw [hg]; exact Nat.ne_of_lt (blk_lt (g := gb159) (o := .cells #[.int .i64 0, .int .i64 0, .slice none 0 0, .slice none 0 0] 25 (0, 0)) (kb_ BK159.out)) : gb159 ≠ gb177))
                                          have n10_ := Aside0.mk ((by rw [hg]; exact Nat.ne_of_gt (blk_lt (g := gb159) (o := .cells #[.int .i64 0, .int .i64 0, .slice none 0 0, .slice none 0 0] 25 (0, 0)) (kb_ BK159.out)) : gb177 ≠ gb159))
                                          clear HO173
                                          clear BK158
                                          clear BK159
                                          clear HB
                                          have HO173 := n0_
                                          have BK158 := n1_
                                          have BK159 := n2_
                                          have HB := n3_
                                          have BK177 := n4_
                                          have GW177 := n5_
                                          have GE177 := n6_
                                          have NB158_177 := n7_
                                          have NB177_158 := n8_
                                          have NB159_177 := n9_
                                          have NB177_159 := n10_
                                          clear n0_ n1_ n2_ n3_ n4_ n5_ n6_ n7_ n8_ n9_ n10_
                                          clear hb hbox hg
                                          refine hK.out _ _ ⟨(blk_cell BK158.out 0).trans rfl, (blk_cell BK158.out 1).trans rfl, (blk_cell BK158.out 2).trans rfl, (blk_cell BK158.out 3).trans rfl⟩ (fun hHeld => ?_)
                                          clear hK K
                                          refine nm_ 7 ?_
                                          exact norm_ (by first | (simp only [putAll, Act.put, List.setIfInBounds_toArray, List.set_cons_zero, List.set_cons_succ]; done) | (simp only [putAll, Act.put, List.setIfInBounds_toArray, List.set_cons_zero, List.set_cons_succ]; rfl)) (hJ10_15 (v172, gb177) _ ⟨hHeld, (kR_ HO173.out), (kb_ BK158.out), (kb_ BK159.out), (kb_ BK177.out), GW177.out, GE177.out, NB158_177.out, NB177_158.out, NB159_177.out, NB177_159.out, (hb3_ HB.out GE158.out GE159.out GE177.out)⟩)
                                    · skip
                                      rintro v165 w32 ⟨hS_, h0_, h1_, h2_, h3_⟩
                                      have n0_ : Aside0 (Kd.R (Kd.int .u8) 5 w32 w.heap.size (fun _ => True) v165 y164) := ⟨h0_⟩
                                      have n1_ : Aside0 (w32.heap[gb158]? = some (.cells #[.int .i64 a0_0, .int .i64 a0_1, .slice A0_2 l0_2.length c0_2, .slice A0_3 l0_3.length c0_3] 25 (0, 0))) := ⟨h1_⟩
                                      have n2_ : Aside0 (w32.heap[gb159]? = some (.cells #[.int .i64 0, .int .i64 0, .slice none 0 0, .slice none 0 0] 25 (0, 0))) := ⟨h2_⟩
                                      have n3_ : Aside0 (Below w.heap.size w w32) := ⟨h3_⟩
                                      clear BK158
                                      clear BK159
                                      clear HB
                                      clear h0_ h1_ h2_ h3_
                                      have HO166 := n0_
                                      have BK158 := n1_
                                      have BK159 := n2_
                                      have HB := n3_
                                      clear n0_ n1_ n2_ n3_
                                      have hHeld : w32.cell? ⟨gb158, 0, none⟩ = some (.int .i64 a0_0) ∧ w32.cell? ⟨gb158, 1, none⟩ = some (.int .i64 a0_1) ∧ w32.cell? ⟨gb158, 2, none⟩ = some (.slice A0_2 l0_2.length c0_2) ∧ w32.cell? ⟨gb158, 3, none⟩ = some (.slice A0_3 l0_3.length c0_3) := hS_
                                      refine norm_ (a' := ?_) ?_ ?_
                                      rotate_left
                                      · simp only [putAll, Act.put, List.setIfInBounds_toArray, List.set_cons_zero, List.set_cons_succ]
                                        rfl
                                      refine three_ (i := 9) (j := 10) (k := 15) (Ni := some 31) (Nj := some 32) (Nk := some 7) #[true, true, true, true, true, true, true, true, true, true, false, true, true, false, false, false, false] #[true, true, true, true, true, true, true, true, true, false, true, true, true, false, false, false, false] #[true, true, true, true, true, true, true, true, true, false, false, true, true, false, false, true, false] rfl rfl rfl rfl rfl rfl (three_of HT_.out (by kernel_rfl)) (by decide) (by decide) (by decide) (fun K hK => ?_) (fun K hK => ?_) (fun K hK => ?_)
                                      · skip
                                        refine Kd.R_append_rows_step (Kd.int .u8) (w0 := w) w.heap.size (by rfl) (.tmp 26) (.tmp 30) 22 5 (.int .u8 0) 1 rfl Try.underlying22 info5 rfl (by decide) (by omega) v165 y164 (l0_2.drop ((ji14) : Int).toNat) _ _ _ (fun _ => True) (fun _ => False) rfl rfl ?aO ?aR (fun _ _ h => h) (fun _ h => h.elim) ?aF ?aB ?aS ?aL ?_
                                        (case aR => first | (refine len_ (show (l0_2.drop ((ji14) : Int).toNat).length = (l0_2.length - (ji14).toNat) from List.length_drop) ?_; repeat (first | exact (Kd.C_below HR167.out HB.out) | (with_reducible refine Kd.C_alloc ?_ _) | (with_reducible refine Kd.C_drewN ?_ _) | (with_reducible refine Kd.C_drew ?_)); done) | (repeat (first | exact (Kd.C_below HR167.out HB.out) | (with_reducible refine Kd.C_alloc ?_ _) | (with_reducible refine Kd.C_drewN ?_ _) | (with_reducible refine Kd.C_drew ?_))))
                                        (case aB => exact (hb2_ HB.out GE158.out GE159.out))
                                        (case aF => exact (fun _ _ => trivial))
                                        (case aO => exact (kR_ HO166.out))
                                        (case aS => exact (below_size (hb2_ HB.out GE158.out GE159.out)))
                                        (case aL => have := LMc17.out; have hlx_ := (show (l0_2.drop ((ji14) : Int).toNat).length = (l0_2.length - (ji14).toNat) from List.length_drop); omega)
                                        intro v169 w33 ho hb hg hat
                                        rw [← Ny168.out] at ho
                                        have n0_ := Aside0.mk (blk_grown (g := gb158) (o := .cells #[.int .i64 a0_0, .int .i64 a0_1, .slice A0_2 l0_2.length c0_2, .slice A0_3 l0_3.length c0_3] 25 (0, 0)) (kb_ BK158.out) hg (Kd.R_ne HO166.out BK158.out (by decide)))
                                        have n1_ := Aside0.mk (blk_grown (g := gb159) (o := .cells #[.int .i64 0, .int .i64 0, .slice none 0 0, .slice none 0 0] 25 (0, 0)) (kb_ BK159.out) hg (Kd.R_ne HO166.out BK159.out (by decide)))
                                        have n2_ := Aside0.mk (hb)
                                        have n3_ := Aside0.mk (ho)
                                        clear BK158
                                        clear BK159
                                        clear HB
                                        clear HO166
                                        have BK158 := n0_
                                        have BK159 := n1_
                                        have HB := n2_
                                        have HO170 := n3_
                                        clear n0_ n1_ n2_ n3_
                                        clear ho hb hg hat
                                        refine hK.out _ _ ⟨(blk_cell BK158.out 0).trans rfl, (blk_cell BK158.out 1).trans rfl, (blk_cell BK158.out 2).trans rfl, (blk_cell BK158.out 3).trans rfl⟩ (fun hHeld => ?_)
                                        clear hK K
                                        refine nm_ 31 ?_
                                        exact norm_ (by first | (simp only [putAll, Act.put, List.setIfInBounds_toArray, List.set_cons_zero, List.set_cons_succ]; done) | (simp only [putAll, Act.put, List.setIfInBounds_toArray, List.set_cons_zero, List.set_cons_succ]; rfl)) (hJ4_9 (v165, v169) _ ⟨hHeld, (kR_ HO170.out), (kb_ BK158.out), (kb_ BK159.out), (hb2_ HB.out GE158.out GE159.out)⟩)
                                      · skip
                                        refine Kd.R_lit_step k70 _ 70 ?hg (N := 32) ?hd (xs := ([] : List (S70))) (inner := []) (ok := fun _ => True) (okp := fun _ => True) ?hr ?hp (fun _ hk => hk) trivial (Below.refl _ _) (Nat.le_refl _) (by simp) ?_; (case hd => rfl); (case hg => rfl); (case hr => first | (go_simp; done) | (go_simp; rfl)); (case hp => exact (Reps.none _ _))
                                        intro v172 w33 ho34 hb hg_ hnew_
                                        clear hg_ hnew_
                                        (first | rw [← Ny171.out] at ho34 | (simp only [Int.reduceToNat] at ho34; rw [← Ny171.out] at ho34))
                                        have n0_ := Aside0.mk (Kd.R_below (kR_ HO166.out) hb)
                                        have n1_ := Aside0.mk (Kd.R_lower ho34 (below_size (hb2_ HB.out GE158.out GE159.out)))
                                        have n2_ := Aside0.mk (blk_below (g := gb158) (o := .cells #[.int .i64 a0_0, .int .i64 a0_1, .slice A0_2 l0_2.length c0_2, .slice A0_3 l0_3.length c0_3] 25 (0, 0)) (kb_ BK158.out) hb)
                                        have n3_ := Aside0.mk (blk_below (g := gb159) (o := .cells #[.int .i64 0, .int .i64 0, .slice none 0 0, .slice none 0 0] 25 (0, 0)) (kb_ BK159.out) hb)
                                        have n4_ := Aside0.mk (below_step (hb2_ HB.out GE158.out GE159.out) hb)
                                        clear HO166
                                        clear BK158
                                        clear BK159
                                        clear HB
                                        have HO166 := n0_
                                        have HO173 := n1_
                                        have BK158 := n2_
                                        have BK159 := n3_
                                        have HB := n4_
                                        clear n0_ n1_ n2_ n3_ n4_
                                        clear hb ho34
                                        refine hK.out _ _ ⟨(blk_cell BK158.out 0).trans rfl, (blk_cell BK158.out 1).trans rfl, (blk_cell BK158.out 2).trans rfl, (blk_cell BK158.out 3).trans rfl⟩ (fun hHeld => ?_)
                                        clear hK K
                                        refine nm_ 32 ?_
                                        exact norm_ (by first | (simp only [putAll, Act.put, List.setIfInBounds_toArray, List.set_cons_zero, List.set_cons_succ]; done) | (simp only [putAll, Act.put, List.setIfInBounds_toArray, List.set_cons_zero, List.set_cons_succ]; rfl)) (hJ4_10 (v165, v172) _ ⟨hHeld, (kR_ HO166.out), (kR_ HO173.out), (kb_ BK158.out), (kb_ BK159.out), (hb2_ HB.out GE158.out GE159.out)⟩)
                                      · skip
                                        refine box_step ?hg (N := 7) ?hd (cs := #[.int .i64 0, .int .i64 0, .slice none 0 0, .slice none 0 0]) (t := 25) ?hr ?_; (case hd => rfl); (case hg => rfl); (case hr => first | (go_simp; done) | (go_simp; rfl))
                                        intro gb177 hg w33 hbox hb
                                        have n0_ := Aside0.mk (Kd.R_below (kR_ HO166.out) hb)
                                        have n1_ := Aside0.mk (blk_below (g := gb158) (o := .cells #[.int .i64 a0_0, .int .i64 a0_1, .slice A0_2 l0_2.length c0_2, .slice A0_3 l0_3.length c0_3] 25 (0, 0)) (kb_ BK158.out) hb)
                                        have n2_ := Aside0.mk (blk_below (g := gb159) (o := .cells #[.int .i64 0, .int .i64 0, .slice none 0 0, .slice none 0 0] 25 (0, 0)) (kb_ BK159.out) hb)
                                        have n3_ := Aside0.mk (below_step (hb2_ HB.out GE158.out GE159.out) hb)
                                        have n4_ := Aside0.mk (hbox)
                                        have n5_ := Aside0.mk ((by rw [hg]; exact (below_size (hb2_ HB.out GE158.out GE159.out)) : w.heap.size ≤ gb177))
                                        have n6_ := Aside0.mk ((by rw [hg]; exact (below_size (hb2_ HB.out GE158.out GE159.out)) : w.heap.size ≤ gb177))
                                        have n7_ := Aside0.mk ((by rw [hg]; exact Nat.ne_of_lt (blk_lt (g := gb158) (o := .cells #[.int .i64 a0_0, .int .i64 a0_1, .slice A0_2 l0_2.length c0_2, .slice A0_3 l0_3.length c0_3] 25 (0, 0)) (kb_ BK158.out)) : gb158 ≠ gb177))
                                        have n8_ := Aside0.mk ((by rw [hg]; exact Nat.ne_of_gt (blk_lt (g := gb158) (o := .cells #[.int .i64 a0_0, .int .i64 a0_1, .slice A0_2 l0_2.length c0_2, .slice A0_3 l0_3.length c0_3] 25 (0, 0)) (kb_ BK158.out)) : gb177 ≠ gb158))
                                        have n9_ := Aside0.mk ((by rw [hg]; exact Nat.ne_of_lt (blk_lt (g := gb159) (o := .cells #[.int .i64 0, .int .i64 0, .slice none 0 0, .slice none 0 0] 25 (0, 0)) (kb_ BK159.out)) : gb159 ≠ gb177))
                                        have n10_ := Aside0.mk ((by rw [hg]; exact Nat.ne_of_gt (blk_lt (g := gb159) (o := .cells #[.int .i64 0, .int .i64 0, .slice none 0 0, .slice none 0 0] 25 (0, 0)) (kb_ BK159.out)) : gb177 ≠ gb159))
                                        clear HO166
                                        clear BK158
                                        clear BK159
                                        clear HB
                                        have HO166 := n0_
                                        have BK158 := n1_
                                        have BK159 := n2_
                                        have HB := n3_
                                        have BK177 := n4_
                                        have GW177 := n5_
                                        have GE177 := n6_
                                        have NB158_177 := n7_
                                        have NB177_158 := n8_
                                        have NB159_177 := n9_
                                        have NB177_159 := n10_
                                        clear n0_ n1_ n2_ n3_ n4_ n5_ n6_ n7_ n8_ n9_ n10_
                                        clear hb hbox hg
                                        refine hK.out _ _ ⟨(blk_cell BK158.out 0).trans rfl, (blk_cell BK158.out 1).trans rfl, (blk_cell BK158.out 2).trans rfl, (blk_cell BK158.out 3).trans rfl⟩ (fun hHeld => ?_)
                                        clear hK K
                                        refine nm_ 7 ?_
                                        exact norm_ (by first | (simp only [putAll, Act.put, List.setIfInBounds_toArray, List.set_cons_zero, List.set_cons_succ]; done) | (simp only [putAll, Act.put, List.setIfInBounds_toArray, List.set_cons_zero, List.set_cons_succ]; rfl)) (hJ4_15 (v165, gb177) _ ⟨hHeld, (kR_ HO166.out), (kb_ BK158.out), (kb_ BK159.out), (kb_ BK177.out), GW177.out, GE177.out, NB158_177.out, NB177_158.out, NB159_177.out, NB177_159.out, (hb3_ HB.out GE158.out GE159.out GE177.out)⟩)
                                  · skip
                                    rintro ⟨v172, gb177⟩ w33 ⟨hS_, h0_, h1_, h2_, h3_, h4_, h5_, h6_, h7_, h8_, h9_, h10_⟩
                                    have n0_ : Aside0 (Kd.R k70 70 w33 w.heap.size (fun _ => True) v172 y171) := ⟨h0_⟩
                                    have n1_ : Aside0 (w33.heap[gb158]? = some (.cells #[.int .i64 a0_0, .int .i64 a0_1, .slice A0_2 l0_2.length c0_2, .slice A0_3 l0_3.length c0_3] 25 (0, 0))) := ⟨h1_⟩
                                    have n2_ : Aside0 (w33.heap[gb159]? = some (.cells #[.int .i64 0, .int .i64 0, .slice none 0 0, .slice none 0 0] 25 (0, 0))) := ⟨h2_⟩
                                    have n3_ : Aside0 (w33.heap[gb177]? = some (.cells #[.int .i64 0, .int .i64 0, .slice none 0 0, .slice none 0 0] 25 (0, 0))) := ⟨h3_⟩
                                    have n4_ : Aside0 (w.heap.size ≤ gb177) := ⟨h4_⟩
                                    have n5_ : Aside0 (w.heap.size ≤ gb177) := ⟨h5_⟩
                                    have n6_ : Aside0 (gb158 ≠ gb177) := ⟨h6_⟩
                                    have n7_ : Aside0 (gb177 ≠ gb158) := ⟨h7_⟩
                                    have n8_ : Aside0 (gb159 ≠ gb177) := ⟨h8_⟩
                                    have n9_ : Aside0 (gb177 ≠ gb159) := ⟨h9_⟩
                                    have n10_ : Aside0 (Below w.heap.size w w33) := ⟨h10_⟩
                                    clear BK158
                                    clear BK159
                                    clear HB
                                    clear h0_ h1_ h2_ h3_ h4_ h5_ h6_ h7_ h8_ h9_ h10_
                                    have HO173 := n0_
                                    have BK158 := n1_
                                    have BK159 := n2_
                                    have BK177 := n3_
                                    have GW177 := n4_
                                    have GE177 := n5_
                                    have NB158_177 := n6_
                                    have NB177_158 := n7_
                                    have NB159_177 := n8_
                                    have NB177_159 := n9_
                                    have HB := n10_
                                    clear n0_ n1_ n2_ n3_ n4_ n5_ n6_ n7_ n8_ n9_ n10_
                                    have hHeld : w33.cell? ⟨gb158, 0, none⟩ = some (.int .i64 a0_0) ∧ w33.cell? ⟨gb158, 1, none⟩ = some (.int .i64 a0_1) ∧ w33.cell? ⟨gb158, 2, none⟩ = some (.slice A0_2 l0_2.length c0_2) ∧ w33.cell? ⟨gb158, 3, none⟩ = some (.slice A0_3 l0_3.length c0_3) := hS_
                                    refine norm_ (a' := ?_) ?_ ?_
                                    rotate_left
                                    · simp only [putAll, Act.put, List.setIfInBounds_toArray, List.set_cons_zero, List.set_cons_succ]
                                      rfl
                                    refine on_ (i := 4) (N := some 26) HT_ (fun K hK => ?_)
                                    refine Kd.R_lit_step (Kd.int .u8) _ 5 ?hg (N := 26) ?hd (xs := ([] : List Int)) (inner := []) (ok := fun _ => True) (okp := fun _ => True) ?hr ?hp (fun _ hk => hk) trivial (Below.refl _ _) (Nat.le_refl _) (by simp) ?_; (case hd => rfl); (case hg => rfl); (case hr => first | (go_simp; done) | (go_simp; rfl)); (case hp => exact (Reps.none _ _))
                                    intro v165 w34 ho35 hb hg_ hnew_
                                    clear hg_ hnew_
                                    (first | rw [← Ny164.out] at ho35 | (simp only [Int.reduceToNat] at ho35; rw [← Ny164.out] at ho35))
                                    have n0_ := Aside0.mk (Kd.R_below (kR_ HO173.out) hb)
                                    have n1_ := Aside0.mk (Kd.R_lower ho35 (below_size (hb3_ HB.out GE158.out GE159.out GE177.out)))
                                    have n2_ := Aside0.mk (blk_below (g := gb158) (o := .cells #[.int .i64 a0_0, .int .i64 a0_1, .slice A0_2 l0_2.length c0_2, .slice A0_3 l0_3.length c0_3] 25 (0, 0)) (kb_ BK158.out) hb)
                                    have n3_ := Aside0.mk (blk_below (g := gb159) (o := .cells #[.int .i64 0, .int .i64 0, .slice none 0 0, .slice none 0 0] 25 (0, 0)) (kb_ BK159.out) hb)
                                    have n4_ := Aside0.mk (blk_below (g := gb177) (o := .cells #[.int .i64 0, .int .i64 0, .slice none 0 0, .slice none 0 0] 25 (0, 0)) (kb_ BK177.out) hb)
                                    have n5_ := Aside0.mk (below_step (hb3_ HB.out GE158.out GE159.out GE177.out) hb)
                                    clear HO173
                                    clear BK158
                                    clear BK159
                                    clear BK177
                                    clear HB
                                    have HO173 := n0_
                                    have HO166 := n1_
                                    have BK158 := n2_
                                    have BK159 := n3_
                                    have BK177 := n4_
                                    have HB := n5_
                                    clear n0_ n1_ n2_ n3_ n4_ n5_
                                    clear hb ho35
                                    refine hK.out _ _ ⟨(blk_cell BK158.out 0).trans rfl, (blk_cell BK158.out 1).trans rfl, (blk_cell BK158.out 2).trans rfl, (blk_cell BK158.out 3).trans rfl⟩ (fun hHeld => ?_)
                                    clear hK K
                                    refine nm_ 26 ?_
                                    exact norm_ (by first | (simp only [putAll, Act.put, List.setIfInBounds_toArray, List.set_cons_zero, List.set_cons_succ]; done) | (simp only [putAll, Act.put, List.setIfInBounds_toArray, List.set_cons_zero, List.set_cons_succ]; rfl)) (hJ4_10_15 (v165, v172, gb177) _ ⟨hHeld, (kR_ HO166.out), (kR_ HO173.out), (kb_ BK158.out), (kb_ BK159.out), (kb_ BK177.out), GW177.out, GE177.out, NB158_177.out, NB177_158.out, NB159_177.out, NB177_159.out, (hb3_ HB.out GE158.out GE159.out GE177.out)⟩)
                                · skip
                                  rintro ⟨v165, gb177⟩ w33 ⟨hS_, h0_, h1_, h2_, h3_, h4_, h5_, h6_, h7_, h8_, h9_, h10_⟩
                                  have n0_ : Aside0 (Kd.R (Kd.int .u8) 5 w33 w.heap.size (fun _ => True) v165 y164) := ⟨h0_⟩
                                  have n1_ : Aside0 (w33.heap[gb158]? = some (.cells #[.int .i64 a0_0, .int .i64 a0_1, .slice A0_2 l0_2.length c0_2, .slice A0_3 l0_3.length c0_3] 25 (0, 0))) := ⟨h1_⟩
                                  have n2_ : Aside0 (w33.heap[gb159]? = some (.cells #[.int .i64 0, .int .i64 0, .slice none 0 0, .slice none 0 0] 25 (0, 0))) := ⟨h2_⟩
                                  have n3_ : Aside0 (w33.heap[gb177]? = some (.cells #[.int .i64 0, .int .i64 0, .slice none 0 0, .slice none 0 0] 25 (0, 0))) := ⟨h3_⟩
                                  have n4_ : Aside0 (w.heap.size ≤ gb177) := ⟨h4_⟩
                                  have n5_ : Aside0 (w.heap.size ≤ gb177) := ⟨h5_⟩
                                  have n6_ : Aside0 (gb158 ≠ gb177) := ⟨h6_⟩
                                  have n7_ : Aside0 (gb177 ≠ gb158) := ⟨h7_⟩
                                  have n8_ : Aside0 (gb159 ≠ gb177) := ⟨h8_⟩
                                  have n9_ : Aside0 (gb177 ≠ gb159) := ⟨h9_⟩
                                  have n10_ : Aside0 (Below w.heap.size w w33) := ⟨h10_⟩
                                  clear BK158
                                  clear BK159
                                  clear HB
                                  clear h0_ h1_ h2_ h3_ h4_ h5_ h6_ h7_ h8_ h9_ h10_
                                  have HO166 := n0_
                                  have BK158 := n1_
                                  have BK159 := n2_
                                  have BK177 := n3_
                                  have GW177 := n4_
                                  have GE177 := n5_
                                  have NB158_177 := n6_
                                  have NB177_158 := n7_
                                  have NB159_177 := n8_
                                  have NB177_159 := n9_
                                  have HB := n10_
                                  clear n0_ n1_ n2_ n3_ n4_ n5_ n6_ n7_ n8_ n9_ n10_
                                  have hHeld : w33.cell? ⟨gb158, 0, none⟩ = some (.int .i64 a0_0) ∧ w33.cell? ⟨gb158, 1, none⟩ = some (.int .i64 a0_1) ∧ w33.cell? ⟨gb158, 2, none⟩ = some (.slice A0_2 l0_2.length c0_2) ∧ w33.cell? ⟨gb158, 3, none⟩ = some (.slice A0_3 l0_3.length c0_3) := hS_
                                  refine norm_ (a' := ?_) ?_ ?_
                                  rotate_left
                                  · simp only [putAll, Act.put, List.setIfInBounds_toArray, List.set_cons_zero, List.set_cons_succ]
                                    rfl
                                  refine two_ (i := 9) (j := 10) (Ni := some 31) (Nj := some 32) #[true, true, true, true, true, true, true, true, true, true, false, true, true, false, false, true, false] #[true, true, true, true, true, true, true, true, true, false, true, true, true, false, false, true, false] rfl rfl rfl rfl (two_of HT_.out (by kernel_rfl)) (by decide) (by decide) (fun K hK => ?_) (fun K hK => ?_)
                                  · skip
                                    refine Kd.R_append_rows_step (Kd.int .u8) (w0 := w) w.heap.size (by rfl) (.tmp 26) (.tmp 30) 22 5 (.int .u8 0) 1 rfl Try.underlying22 info5 rfl (by decide) (by omega) v165 y164 (l0_2.drop ((ji14) : Int).toNat) _ _ _ (fun _ => True) (fun _ => False) rfl rfl ?aO ?aR (fun _ _ h => h) (fun _ h => h.elim) ?aF ?aB ?aS ?aL ?_
                                    (case aR => first | (refine len_ (show (l0_2.drop ((ji14) : Int).toNat).length = (l0_2.length - (ji14).toNat) from List.length_drop) ?_; repeat (first | exact (Kd.C_below HR167.out HB.out) | (with_reducible refine Kd.C_alloc ?_ _) | (with_reducible refine Kd.C_drewN ?_ _) | (with_reducible refine Kd.C_drew ?_)); done) | (repeat (first | exact (Kd.C_below HR167.out HB.out) | (with_reducible refine Kd.C_alloc ?_ _) | (with_reducible refine Kd.C_drewN ?_ _) | (with_reducible refine Kd.C_drew ?_))))
                                    (case aB => exact (hb3_ HB.out GE158.out GE159.out GE177.out))
                                    (case aF => exact (fun _ _ => trivial))
                                    (case aO => exact (kR_ HO166.out))
                                    (case aS => exact (below_size (hb3_ HB.out GE158.out GE159.out GE177.out)))
                                    (case aL => have := LMc17.out; have hlx_ := (show (l0_2.drop ((ji14) : Int).toNat).length = (l0_2.length - (ji14).toNat) from List.length_drop); omega)
                                    intro v169 w34 ho hb hg hat
                                    rw [← Ny168.out] at ho
                                    have n0_ := Aside0.mk (blk_grown (g := gb158) (o := .cells #[.int .i64 a0_0, .int .i64 a0_1, .slice A0_2 l0_2.length c0_2, .slice A0_3 l0_3.length c0_3] 25 (0, 0)) (kb_ BK158.out) hg (Kd.R_ne HO166.out BK158.out (by decide)))
                                    have n1_ := Aside0.mk (blk_grown (g := gb159) (o := .cells #[.int .i64 0, .int .i64 0, .slice none 0 0, .slice none 0 0] 25 (0, 0)) (kb_ BK159.out) hg (Kd.R_ne HO166.out BK159.out (by decide)))
                                    have n2_ := Aside0.mk (blk_grown (g := gb177) (o := .cells #[.int .i64 0, .int .i64 0, .slice none 0 0, .slice none 0 0] 25 (0, 0)) (kb_ BK177.out) hg (Kd.R_ne HO166.out BK177.out (by decide)))
                                    have n3_ := Aside0.mk (hb)
                                    have n4_ := Aside0.mk (ho)
                                    clear BK158
                                    clear BK159
                                    clear BK177
                                    clear HB
                                    clear HO166
                                    have BK158 := n0_
                                    have BK159 := n1_
                                    have BK177 := n2_
                                    have HB := n3_
                                    have HO170 := n4_
                                    clear n0_ n1_ n2_ n3_ n4_
                                    clear ho hb hg hat
                                    refine hK.out _ _ ⟨(blk_cell BK158.out 0).trans rfl, (blk_cell BK158.out 1).trans rfl, (blk_cell BK158.out 2).trans rfl, (blk_cell BK158.out 3).trans rfl⟩ (fun hHeld => ?_)
                                    clear hK K
                                    refine nm_ 31 ?_
                                    exact norm_ (by first | (simp only [putAll, Act.put, List.setIfInBounds_toArray, List.set_cons_zero, List.set_cons_succ]; done) | (simp only [putAll, Act.put, List.setIfInBounds_toArray, List.set_cons_zero, List.set_cons_succ]; rfl)) (hJ4_9_15 (v165, v169, gb177) _ ⟨hHeld, (kR_ HO170.out), (kb_ BK158.out), (kb_ BK159.out), (kb_ BK177.out), GW177.out, GE177.out, NB158_177.out, NB177_158.out, NB159_177.out, NB177_159.out, (hb3_ HB.out GE158.out GE159.out GE177.out)⟩)
                                  · skip
                                    refine Kd.R_lit_step k70 _ 70 ?hg (N := 32) ?hd (xs := ([] : List (S70))) (inner := []) (ok := fun _ => True) (okp := fun _ => True) ?hr ?hp (fun _ hk => hk) trivial (Below.refl _ _) (Nat.le_refl _) (by simp) ?_; (case hd => rfl); (case hg => rfl); (case hr => first | (go_simp; done) | (go_simp; rfl)); (case hp => exact (Reps.none _ _))
                                    intro v172 w34 ho35 hb hg_ hnew_
                                    clear hg_ hnew_
                                    (first | rw [← Ny171.out] at ho35 | (simp only [Int.reduceToNat] at ho35; rw [← Ny171.out] at ho35))
                                    have n0_ := Aside0.mk (Kd.R_below (kR_ HO166.out) hb)
                                    have n1_ := Aside0.mk (Kd.R_lower ho35 (below_size (hb3_ HB.out GE158.out GE159.out GE177.out)))
                                    have n2_ := Aside0.mk (blk_below (g := gb158) (o := .cells #[.int .i64 a0_0, .int .i64 a0_1, .slice A0_2 l0_2.length c0_2, .slice A0_3 l0_3.length c0_3] 25 (0, 0)) (kb_ BK158.out) hb)
                                    have n3_ := Aside0.mk (blk_below (g := gb159) (o := .cells #[.int .i64 0, .int .i64 0, .slice none 0 0, .slice none 0 0] 25 (0, 0)) (kb_ BK159.out) hb)
                                    have n4_ := Aside0.mk (blk_below (g := gb177) (o := .cells #[.int .i64 0, .int .i64 0, .slice none 0 0, .slice none 0 0] 25 (0, 0)) (kb_ BK177.out) hb)
                                    have n5_ := Aside0.mk (below_step (hb3_ HB.out GE158.out GE159.out GE177.out) hb)
                                    clear HO166
                                    clear BK158
                                    clear BK159
                                    clear BK177
                                    clear HB
                                    have HO166 := n0_
                                    have HO173 := n1_
                                    have BK158 := n2_
                                    have BK159 := n3_
                                    have BK177 := n4_
                                    have HB := n5_
                                    clear n0_ n1_ n2_ n3_ n4_ n5_
                                    clear hb ho35
                                    refine hK.out _ _ ⟨(blk_cell BK158.out 0).trans rfl, (blk_cell BK158.out 1).trans rfl, (blk_cell BK158.out 2).trans rfl, (blk_cell BK158.out 3).trans rfl⟩ (fun hHeld => ?_)
                                    clear hK K
                                    refine nm_ 32 ?_
                                    exact norm_ (by first | (simp only [putAll, Act.put, List.setIfInBounds_toArray, List.set_cons_zero, List.set_cons_succ]; done) | (simp only [putAll, Act.put, List.setIfInBounds_toArray, List.set_cons_zero, List.set_cons_succ]; rfl)) (hJ4_10_15 (v165, v172, gb177) _ ⟨hHeld, (kR_ HO166.out), (kR_ HO173.out), (kb_ BK158.out), (kb_ BK159.out), (kb_ BK177.out), GW177.out, GE177.out, NB158_177.out, NB177_158.out, NB159_177.out, NB177_159.out, (hb3_ HB.out GE158.out GE159.out GE177.out)⟩)
                              · skip
                                rintro ⟨v165, v172⟩ w34 ⟨hS_, h0_, h1_, h2_, h3_, h4_⟩
                                have n0_ : Aside0 (Kd.R (Kd.int .u8) 5 w34 w.heap.size (fun _ => True) v165 y164) := ⟨h0_⟩
                                have n1_ : Aside0 (Kd.R k70 70 w34 w.heap.size (fun _ => True) v172 y171) := ⟨h1_⟩
                                have n2_ : Aside0 (w34.heap[gb158]? = some (.cells #[.int .i64 a0_0, .int .i64 a0_1, .slice A0_2 l0_2.length c0_2, .slice A0_3 l0_3.length c0_3] 25 (0, 0))) := ⟨h2_⟩
                                have n3_ : Aside0 (w34.heap[gb159]? = some (.cells #[.int .i64 0, .int .i64 0, .slice none 0 0, .slice none 0 0] 25 (0, 0))) := ⟨h3_⟩
                                have n4_ : Aside0 (Below w.heap.size w w34) := ⟨h4_⟩
                                clear BK158
                                clear BK159
                                clear HB
                                clear h0_ h1_ h2_ h3_ h4_
                                have HO166 := n0_
                                have HO173 := n1_
                                have BK158 := n2_
                                have BK159 := n3_
                                have HB := n4_
                                clear n0_ n1_ n2_ n3_ n4_
                                have hHeld : w34.cell? ⟨gb158, 0, none⟩ = some (.int .i64 a0_0) ∧ w34.cell? ⟨gb158, 1, none⟩ = some (.int .i64 a0_1) ∧ w34.cell? ⟨gb158, 2, none⟩ = some (.slice A0_2 l0_2.length c0_2) ∧ w34.cell? ⟨gb158, 3, none⟩ = some (.slice A0_3 l0_3.length c0_3) := hS_
                                refine norm_ (a' := ?_) ?_ ?_
                                rotate_left
                                · simp only [putAll, Act.put, List.setIfInBounds_toArray, List.set_cons_zero, List.set_cons_succ]
                                  rfl
                                refine two_ (i := 9) (j := 15) (Ni := some 31) (Nj := some 7) #[true, true, true, true, true, true, true, true, true, true, true, true, true, false, false, false, false] #[true, true, true, true, true, true, true, true, true, false, true, true, true, false, false, true, false] rfl rfl rfl rfl (two_of HT_.out (by kernel_rfl)) (by decide) (by decide) (fun K hK => ?_) (fun K hK => ?_)
                                · skip
                                  refine Kd.R_append_rows_step (Kd.int .u8) (w0 := w) w.heap.size (by rfl) (.tmp 26) (.tmp 30) 22 5 (.int .u8 0) 1 rfl Try.underlying22 info5 rfl (by decide) (by omega) v165 y164 (l0_2.drop ((ji14) : Int).toNat) _ _ _ (fun _ => True) (fun _ => False) rfl rfl ?aO ?aR (fun _ _ h => h) (fun _ h => h.elim) ?aF ?aB ?aS ?aL ?_
                                  (case aR => first | (refine len_ (show (l0_2.drop ((ji14) : Int).toNat).length = (l0_2.length - (ji14).toNat) from List.length_drop) ?_; repeat (first | exact (Kd.C_below HR167.out HB.out) | (with_reducible refine Kd.C_alloc ?_ _) | (with_reducible refine Kd.C_drewN ?_ _) | (with_reducible refine Kd.C_drew ?_)); done) | (repeat (first | exact (Kd.C_below HR167.out HB.out) | (with_reducible refine Kd.C_alloc ?_ _) | (with_reducible refine Kd.C_drewN ?_ _) | (with_reducible refine Kd.C_drew ?_))))
                                  (case aB => exact (hb2_ HB.out GE158.out GE159.out))
                                  (case aF => exact (fun _ _ => trivial))
                                  (case aO => exact (kR_ HO166.out))
                                  (case aS => exact (below_size (hb2_ HB.out GE158.out GE159.out)))
                                  (case aL => have := LMc17.out; have hlx_ := (show (l0_2.drop ((ji14) : Int).toNat).length = (l0_2.length - (ji14).toNat) from List.length_drop); omega)
                                  intro v169 w35 ho hb hg hat
                                  rw [← Ny168.out] at ho
                                  have n0_ := Aside0.mk (blk_grown (g := gb158) (o := .cells #[.int .i64 a0_0, .int .i64 a0_1, .slice A0_2 l0_2.length c0_2, .slice A0_3 l0_3.length c0_3] 25 (0, 0)) (kb_ BK158.out) hg (Kd.R_ne HO166.out BK158.out (by decide)))
                                  have n1_ := Aside0.mk (blk_grown (g := gb159) (o := .cells #[.int .i64 0, .int .i64 0, .slice none 0 0, .slice none 0 0] 25 (0, 0)) (kb_ BK159.out) hg (Kd.R_ne HO166.out BK159.out (by decide)))
                                  have n2_ := Aside0.mk (Kd.R_over' (kR_ HO173.out) (Kd.R_typed (kR_ HO166.out)) (by decide) hg)
                                  have n3_ := Aside0.mk (hb)
                                  have n4_ := Aside0.mk (ho)
                                  clear BK158
                                  clear BK159
                                  clear HO173
                                  clear HB
                                  clear HO166
                                  have BK158 := n0_
                                  have BK159 := n1_
                                  have HO173 := n2_
                                  have HB := n3_
                                  have HO170 := n4_
                                  clear n0_ n1_ n2_ n3_ n4_
                                  clear ho hb hg hat
                                  refine hK.out _ _ ⟨(blk_cell BK158.out 0).trans rfl, (blk_cell BK158.out 1).trans rfl, (blk_cell BK158.out 2).trans rfl, (blk_cell BK158.out 3).trans rfl⟩ (fun hHeld => ?_)
                                  clear hK K
                                  refine nm_ 31 ?_
                                  exact norm_ (by first | (simp only [putAll, Act.put, List.setIfInBounds_toArray, List.set_cons_zero, List.set_cons_succ]; done) | (simp only [putAll, Act.put, List.setIfInBounds_toArray, List.set_cons_zero, List.set_cons_succ]; rfl)) (hJ4_9_10 (v165, v169, v172) _ ⟨hHeld, (kR_ HO170.out), (kR_ HO173.out), (kb_ BK158.out), (kb_ BK159.out), (hb2_ HB.out GE158.out GE159.out)⟩)
                                · skip
                                  refine box_step ?hg (N := 7) ?hd (cs := #[.int .i64 0, .int .i64 0, .slice none 0 0, .slice none 0 0]) (t := 25) ?hr ?_; (case hd => rfl); (case hg => rfl); (case hr => first | (go_simp; done) | (go_simp; rfl))
                                  intro gb177 hg w35 hbox hb
                                  have n0_ := Aside0.mk (Kd.R_below (kR_ HO166.out) hb)
                                  have n1_ := Aside0.mk (Kd.R_below (kR_ HO173.out) hb)
                                  have n2_ := Aside0.mk (blk_below (g := gb158) (o := .cells #[.int .i64 a0_0, .int .i64 a0_1, .slice A0_2 l0_2.length c0_2, .slice A0_3 l0_3.length c0_3] 25 (0, 0)) (kb_ BK158.out) hb)
                                  have n3_ := Aside0.mk (blk_below (g := gb159) (o := .cells #[.int .i64 0, .int .i64 0, .slice none 0 0, .slice none 0 0] 25 (0, 0)) (kb_ BK159.out) hb)
                                  have n4_ := Aside0.mk (below_step (hb2_ HB.out GE158.out GE159.out) hb)
                                  have n5_ := Aside0.mk (hbox)
                                  have n6_ := Aside0.mk ((by rw [hg]; exact (below_size (hb2_ HB.out GE158.out GE159.out)) : w.heap.size ≤ gb177))
                                  have n7_ := Aside0.mk ((by rw [hg]; exact (below_size (hb2_ HB.out GE158.out GE159.out)) : w.heap.size ≤ gb177))
                                  have n8_ := Aside0.mk ((by rw [hg]; exact Nat.ne_of_lt (blk_lt (g := gb158) (o := .cells #[.int .i64 a0_0, .int .i64 a0_1, .slice A0_2 l0_2.length c0_2, .slice A0_3 l0_3.length c0_3] 25 (0, 0)) (kb_ BK158.out)) : gb158 ≠ gb177))
                                  have n9_ := Aside0.mk ((by rw [hg]; exact Nat.ne_of_gt (blk_lt (g := gb158) (o := .cells #[.int .i64 a0_0, .int .i64 a0_1, .slice A0_2 l0_2.length c0_2, .slice A0_3 l0_3.length c0_3] 25 (0, 0)) (kb_ BK158.out)) : gb177 ≠ gb158))
                                  have n10_ := Aside0.mk ((by rw [hg]; exact Nat.ne_of_lt (blk_lt (g := gb159) (o := .cells #[.int .i64 0, .int .i64 0, .slice none 0 0, .slice none 0 0] 25 (0, 0)) (kb_ BK159.out)) : gb159 ≠ gb177))
                                  have n11_ := Aside0.mk ((by rw [hg]; exact Nat.ne_of_gt (blk_lt (g := gb159) (o := .cells #[.int .i64 0, .int .i64 0, .slice none 0 0, .slice none 0 0] 25 (0, 0)) (kb_ BK159.out)) : gb177 ≠ gb159))
                                  clear HO166
                                  clear HO173
                                  clear BK158
                                  clear BK159
                                  clear HB
                                  have HO166 := n0_
                                  have HO173 := n1_
                                  have BK158 := n2_
                                  have BK159 := n3_
                                  have HB := n4_
                                  have BK177 := n5_
                                  have GW177 := n6_
                                  have GE177 := n7_
                                  have NB158_177 := n8_
                                  have NB177_158 := n9_
                                  have NB159_177 := n10_
                                  have NB177_159 := n11_
                                  clear n0_ n1_ n2_ n3_ n4_ n5_ n6_ n7_ n8_ n9_ n10_ n11_
                                  clear hb hbox hg
                                  refine hK.out _ _ ⟨(blk_cell BK158.out 0).trans rfl, (blk_cell BK158.out 1).trans rfl, (blk_cell BK158.out 2).trans rfl, (blk_cell BK158.out 3).trans rfl⟩ (fun hHeld => ?_)
                                  clear hK K
                                  refine nm_ 7 ?_
                                  exact norm_ (by first | (simp only [putAll, Act.put, List.setIfInBounds_toArray, List.set_cons_zero, List.set_cons_succ]; done) | (simp only [putAll, Act.put, List.setIfInBounds_toArray, List.set_cons_zero, List.set_cons_succ]; rfl)) (hJ4_10_15 (v165, v172, gb177) _ ⟨hHeld, (kR_ HO166.out), (kR_ HO173.out), (kb_ BK158.out), (kb_ BK159.out), (kb_ BK177.out), GW177.out, GE177.out, NB158_177.out, NB177_158.out, NB159_177.out, NB177_159.out, (hb3_ HB.out GE158.out GE159.out GE177.out)⟩)
                            · skip
                              rintro ⟨v165, v169⟩ w33 ⟨hS_, h0_, h1_, h2_, h3_⟩
                              have n0_ : Aside0 (Kd.R (Kd.int .u8) 5 w33 w.heap.size (fun _ => True) v169 y168) := ⟨h0_⟩
                              have n1_ : Aside0 (w33.heap[gb158]? = some (.cells #[.int .i64 a0_0, .int .i64 a0_1, .slice A0_2 l0_2.length c0_2, .slice A0_3 l0_3.length c0_3] 25 (0, 0))) := ⟨h1_⟩
                              have n2_ : Aside0 (w33.heap[gb159]? = some (.cells #[.int .i64 0, .int .i64 0, .slice none 0 0, .slice none 0 0] 25 (0, 0))) := ⟨h2_⟩
                              have n3_ : Aside0 (Below w.heap.size w w33) := ⟨h3_⟩
                              clear BK158
                              clear BK159
                              clear HB
                              clear h0_ h1_ h2_ h3_
                              have HO170 := n0_
                              have BK158 := n1_
                              have BK159 := n2_
                              have HB := n3_
                              clear n0_ n1_ n2_ n3_
                              have hHeld : w33.cell? ⟨gb158, 0, none⟩ = some (.int .i64 a0_0) ∧ w33.cell? ⟨gb158, 1, none⟩ = some (.int .i64 a0_1) ∧ w33.cell? ⟨gb158, 2, none⟩ = some (.slice A0_2 l0_2.length c0_2) ∧ w33.cell? ⟨gb158, 3, none⟩ = some (.slice A0_3 l0_3.length c0_3) := hS_
                              refine norm_ (a' := ?_) ?_ ?_
                              rotate_left
                              · simp only [putAll, Act.put, List.setIfInBounds_toArray, List.set_cons_zero, List.set_cons_succ]
                                rfl
                              refine two_ (i := 10) (j := 15) (Ni := some 32) (Nj := some 7) #[true, true, true, true, true, true, true, true, true, true, true, true, true, false, false, false, false] #[true, true, true, true, true, true, true, true, true, true, false, true, true, false, false, true, false] rfl rfl rfl rfl (two_of HT_.out (by kernel_rfl)) (by decide) (by decide) (fun K hK => ?_) (fun K hK => ?_)
                              · skip
                                refine Kd.R_lit_step k70 _ 70 ?hg (N := 32) ?hd (xs := ([] : List (S70))) (inner := []) (ok := fun _ => True) (okp := fun _ => True) ?hr ?hp (fun _ hk => hk) trivial (Below.refl _ _) (Nat.le_refl _) (by simp) ?_; (case hd => rfl); (case hg => rfl); (case hr => first | (go_simp; done) | (go_simp; rfl)); (case hp => exact (Reps.none _ _))
                                intro v172 w34 ho35 hb hg_ hnew_
                                clear hg_ hnew_
                                (first | rw [← Ny171.out] at ho35 | (simp only [Int.reduceToNat] at ho35; rw [← Ny171.out] at ho35))
                                have n0_ := Aside0.mk (Kd.R_below (kR_ HO170.out) hb)
                                have n1_ := Aside0.mk (Kd.R_lower ho35 (below_size (hb2_ HB.out GE158.out GE159.out)))
                                have n2_ := Aside0.mk (blk_below (g := gb158) (o := .cells #[.int .i64 a0_0, .int .i64 a0_1, .slice A0_2 l0_2.length c0_2, .slice A0_3 l0_3.length c0_3] 25 (0, 0)) (kb_ BK158.out) hb)
                                have n3_ := Aside0.mk (blk_below (g := gb159) (o := .cells #[.int .i64 0, .int .i64 0, .slice none 0 0, .slice none 0 0] 25 (0, 0)) (kb_ BK159.out) hb)
                                have n4_ := Aside0.mk (below_step (hb2_ HB.out GE158.out GE159.out) hb)
                                clear HO170
                                clear BK158
                                clear BK159
                                clear HB
                                have HO170 := n0_
                                have HO173 := n1_
                                have BK158 := n2_
                                have BK159 := n3_
                                have HB := n4_
                                clear n0_ n1_ n2_ n3_ n4_
                                clear hb ho35
                                refine hK.out _ _ ⟨(blk_cell BK158.out 0).trans rfl, (blk_cell BK158.out 1).trans rfl, (blk_cell BK158.out 2).trans rfl, (blk_cell BK158.out 3).trans rfl⟩ (fun hHeld => ?_)
                                clear hK K
                                refine nm_ 32 ?_
                                exact norm_ (by first | (simp only [putAll, Act.put, List.setIfInBounds_toArray, List.set_cons_zero, List.set_cons_succ]; done) | (simp only [putAll, Act.put, List.setIfInBounds_toArray, List.set_cons_zero, List.set_cons_succ]; rfl)) (hJ4_9_10 (v165, v169, v172) _ ⟨hHeld, (kR_ HO170.out), (kR_ HO173.out), (kb_ BK158.out), (kb_ BK159.out), (hb2_ HB.out GE158.out GE159.out)⟩)
                              · skip
                                refine box_step ?hg (N := 7) ?hd (cs := #[.int .i64 0, .int .i64 0, .slice none 0 0, .slice none 0 0]) (t := 25) ?hr ?_; (case hd => rfl); (case hg => rfl); (case hr => first | (go_simp; done) | (go_simp; rfl))
                                intro gb177 hg w34 hbox hb
                                have n0_ := Aside0.mk (Kd.R_below (kR_ HO170.out) hb)
                                have n1_ := Aside0.mk (blk_below (g := gb158) (o := .cells #[.int .i64 a0_0, .int .i64 a0_1, .slice A0_2 l0_2.length c0_2, .slice A0_3 l0_3.length c0_3] 25 (0, 0)) (kb_ BK158.out) hb)
                                have n2_ := Aside0.mk (blk_below (g := gb159) (o := .cells #[.int .i64 0, .int .i64 0, .slice none 0 0, .slice none 0 0] 25 (0, 0)) (kb_ BK159.out) hb)
                                have n3_ := Aside0.mk (below_step (hb2_ HB.out GE158.out GE159.out) hb)
                                have n4_ := Aside0.mk (hbox)
                                have n5_ := Aside0.mk ((by rw [hg]; exact (below_size (hb2_ HB.out GE158.out GE159.out)) : w.heap.size ≤ gb177))
                                have n6_ := Aside0.mk ((by rw [hg]; exact (below_size (hb2_ HB.out GE158.out GE159.out)) : w.heap.size ≤ gb177))
                                have n7_ := Aside0.mk ((by rw [hg]; exact Nat.ne_of_lt (blk_lt (g := gb158) (o := .cells #[.int .i64 a0_0, .int .i64 a0_1, .slice A0_2 l0_2.length c0_2, .slice A0_3 l0_3.length c0_3] 25 (0, 0)) (kb_ BK158.out)) : gb158 ≠ gb177))
                                have n8_ := Aside0.mk ((by rw [hg]; exact Nat.ne_of_gt (blk_lt (g := gb158) (o := .cells #[.int .i64 a0_0, .int .i64 a0_1, .slice A0_2 l0_2.length c0_2, .slice A0_3 l0_3.length c0_3] 25 (0, 0)) (kb_ BK158.out)) : gb177 ≠ gb158))
                                have n9_ := Aside0.mk ((by rw [hg]; exact Nat.ne_of_lt (blk_lt (g := gb159) (o := .cells #[.int .i64 0, .int .i64 0, .slice none 0 0, .slice none 0 0] 25 (0, 0)) (kb_ BK159.out)) : gb159 ≠ gb177))
                                have n10_ := Aside0.mk ((by rw [hg]; exact Nat.ne_of_gt (blk_lt (g := gb159) (o := .cells #[.int .i64 0, .int .i64 0, .slice none 0 0, .slice none 0 0] 25 (0, 0)) (kb_ BK159.out)) : gb177 ≠ gb159))
                                clear HO170
                                clear BK158
                                clear BK159
                                clear HB
                                have HO170 := n0_
                                have BK158 := n1_
                                have BK159 := n2_
                                have HB := n3_
                                have BK177 := n4_
                                have GW177 := n5_
                                have GE177 := n6_
                                have NB158_177 := n7_
                                have NB177_158 := n8_
                                have NB159_177 := n9_
                                have NB177_159 := n10_
                                clear n0_ n1_ n2_ n3_ n4_ n5_ n6_ n7_ n8_ n9_ n10_
                                clear hb hbox hg
                                refine hK.out _ _ ⟨(blk_cell BK158.out 0).trans rfl, (blk_cell BK158.out 1).trans rfl, (blk_cell BK158.out 2).trans rfl, (blk_cell BK158.out 3).trans rfl⟩ (fun hHeld => ?_)
                                clear hK K
                                refine nm_ 7 ?_
                                exact norm_ (by first | (simp only [putAll, Act.put, List.setIfInBounds_toArray, List.set_cons_zero, List.set_cons_succ]; done) | (simp only [putAll, Act.put, List.setIfInBounds_toArray, List.set_cons_zero, List.set_cons_succ]; rfl)) (hJ4_9_15 (v165, v169, gb177) _ ⟨hHeld, (kR_ HO170.out), (kb_ BK158.out), (kb_ BK159.out), (kb_ BK177.out), GW177.out, GE177.out, NB158_177.out, NB177_158.out, NB159_177.out, NB177_159.out, (hb3_ HB.out GE158.out GE159.out GE177.out)⟩)
                          · skip
                            rintro ⟨v165, v172, gb177⟩ w35 ⟨hS_, h0_, h1_, h2_, h3_, h4_, h5_, h6_, h7_, h8_, h9_, h10_, h11_⟩
                            have n0_ : Aside0 (Kd.R (Kd.int .u8) 5 w35 w.heap.size (fun _ => True) v165 y164) := ⟨h0_⟩
                            have n1_ : Aside0 (Kd.R k70 70 w35 w.heap.size (fun _ => True) v172 y171) := ⟨h1_⟩
                            have n2_ : Aside0 (w35.heap[gb158]? = some (.cells #[.int .i64 a0_0, .int .i64 a0_1, .slice A0_2 l0_2.length c0_2, .slice A0_3 l0_3.length c0_3] 25 (0, 0))) := ⟨h2_⟩
                            have n3_ : Aside0 (w35.heap[gb159]? = some (.cells #[.int .i64 0, .int .i64 0, .slice none 0 0, .slice none 0 0] 25 (0, 0))) := ⟨h3_⟩
                            have n4_ : Aside0 (w35.heap[gb177]? = some (.cells #[.int .i64 0, .int .i64 0, .slice none 0 0, .slice none 0 0] 25 (0, 0))) := ⟨h4_⟩
                            have n5_ : Aside0 (w.heap.size ≤ gb177) := ⟨h5_⟩
                            have n6_ : Aside0 (w.heap.size ≤ gb177) := ⟨h6_⟩
                            have n7_ : Aside0 (gb158 ≠ gb177) := ⟨h7_⟩
                            have n8_ : Aside0 (gb177 ≠ gb158) := ⟨h8_⟩
                            have n9_ : Aside0 (gb159 ≠ gb177) := ⟨h9_⟩
                            have n10_ : Aside0 (gb177 ≠ gb159) := ⟨h10_⟩
                            have n11_ : Aside0 (Below w.heap.size w w35) := ⟨h11_⟩
                            clear BK158
                            clear BK159
                            clear HB
                            clear h0_ h1_ h2_ h3_ h4_ h5_ h6_ h7_ h8_ h9_ h10_ h11_
                            have HO166 := n0_
                            have HO173 := n1_
                            have BK158 := n2_
                            have BK159 := n3_
                            have BK177 := n4_
                            have GW177 := n5_
                            have GE177 := n6_
                            have NB158_177 := n7_
                            have NB177_158 := n8_
                            have NB159_177 := n9_
                            have NB177_159 := n10_
                            have HB := n11_
                            clear n0_ n1_ n2_ n3_ n4_ n5_ n6_ n7_ n8_ n9_ n10_ n11_
                            have hHeld : w35.cell? ⟨gb158, 0, none⟩ = some (.int .i64 a0_0) ∧ w35.cell? ⟨gb158, 1, none⟩ = some (.int .i64 a0_1) ∧ w35.cell? ⟨gb158, 2, none⟩ = some (.slice A0_2 l0_2.length c0_2) ∧ w35.cell? ⟨gb158, 3, none⟩ = some (.slice A0_3 l0_3.length c0_3) := hS_
                            refine norm_ (a' := ?_) ?_ ?_
                            rotate_left
                            · simp only [putAll, Act.put, List.setIfInBounds_toArray, List.set_cons_zero, List.set_cons_succ]
                              rfl
                            refine on_ (i := 9) (N := some 31) HT_ (fun K hK => ?_)
                            refine Kd.R_append_rows_step (Kd.int .u8) (w0 := w) w.heap.size (by rfl) (.tmp 26) (.tmp 30) 22 5 (.int .u8 0) 1 rfl Try.underlying22 info5 rfl (by decide) (by omega) v165 y164 (l0_2.drop ((ji14) : Int).toNat) _ _ _ (fun _ => True) (fun _ => False) rfl rfl ?aO ?aR (fun _ _ h => h) (fun _ h => h.elim) ?aF ?aB ?aS ?aL ?_
                            (case aR => first | (refine len_ (show (l0_2.drop ((ji14) : Int).toNat).length = (l0_2.length - (ji14).toNat) from List.length_drop) ?_; repeat (first | exact (Kd.C_below HR167.out HB.out) | (with_reducible refine Kd.C_alloc ?_ _) | (with_reducible refine Kd.C_drewN ?_ _) | (with_reducible refine Kd.C_drew ?_)); done) | (repeat (first | exact (Kd.C_below HR167.out HB.out) | (with_reducible refine Kd.C_alloc ?_ _) | (with_reducible refine Kd.C_drewN ?_ _) | (with_reducible refine Kd.C_drew ?_))))
                            (case aB => exact (hb3_ HB.out GE158.out GE159.out GE177.out))
                            (case aF => exact (fun _ _ => trivial))
                            (case aO => exact (kR_ HO166.out))
                            (case aS => exact (below_size (hb3_ HB.out GE158.out GE159.out GE177.out)))
                            (case aL => have := LMc17.out; have hlx_ := (show (l0_2.drop ((ji14) : Int).toNat).length = (l0_2.length - (ji14).toNat) from List.length_drop); omega)
                            intro v169 w36 ho hb hg hat
                            rw [← Ny168.out] at ho
                            have n0_ := Aside0.mk (blk_grown (g := gb158) (o := .cells #[.int .i64 a0_0, .int .i64 a0_1, .slice A0_2 l0_2.length c0_2, .slice A0_3 l0_3.length c0_3] 25 (0, 0)) (kb_ BK158.out) hg (Kd.R_ne HO166.out BK158.out (by decide)))
                            have n1_ := Aside0.mk (blk_grown (g := gb159) (o := .cells #[.int .i64 0, .int .i64 0, .slice none 0 0, .slice none 0 0] 25 (0, 0)) (kb_ BK159.out) hg (Kd.R_ne HO166.out BK159.out (by decide)))
                            have n2_ := Aside0.mk (Kd.R_over' (kR_ HO173.out) (Kd.R_typed (kR_ HO166.out)) (by decide) hg)
                            have n3_ := Aside0.mk (blk_grown (g := gb177) (o := .cells #[.int .i64 0, .int .i64 0, .slice none 0 0, .slice none 0 0] 25 (0, 0)) (kb_ BK177.out) hg (Kd.R_ne HO166.out BK177.out (by decide)))
                            have n4_ := Aside0.mk (hb)
                            have n5_ := Aside0.mk (ho)
                            clear BK158
                            clear BK159
                            clear HO173
                            clear BK177
                            clear HB
                            clear HO166
                            have BK158 := n0_
                            have BK159 := n1_
                            have HO173 := n2_
                            have BK177 := n3_
                            have HB := n4_
                            have HO170 := n5_
                            clear n0_ n1_ n2_ n3_ n4_ n5_
                            clear ho hb hg hat
                            refine hK.out _ _ ⟨(blk_cell BK158.out 0).trans rfl, (blk_cell BK158.out 1).trans rfl, (blk_cell BK158.out 2).trans rfl, (blk_cell BK158.out 3).trans rfl⟩ (fun hHeld => ?_)
                            clear hK K
                            refine nm_ 31 ?_
                            exact norm_ (by first | (simp only [putAll, Act.put, List.setIfInBounds_toArray, List.set_cons_zero, List.set_cons_succ]; done) | (simp only [putAll, Act.put, List.setIfInBounds_toArray, List.set_cons_zero, List.set_cons_succ]; rfl)) (hJ4_9_10_15 (v165, v169, v172, gb177) _ ⟨hHeld, (kR_ HO170.out), (kR_ HO173.out), (kb_ BK158.out), (kb_ BK159.out), (kb_ BK177.out), GW177.out, GE177.out, NB158_177.out, NB177_158.out, NB159_177.out, NB177_159.out, (hb3_ HB.out GE158.out GE159.out GE177.out)⟩)
                        · skip
                          rintro ⟨v165, v169, gb177⟩ w34 ⟨hS_, h0_, h1_, h2_, h3_, h4_, h5_, h6_, h7_, h8_, h9_, h10_⟩
                          have n0_ : Aside0 (Kd.R (Kd.int .u8) 5 w34 w.heap.size (fun _ => True) v169 y168) := ⟨h0_⟩
                          have n1_ : Aside0 (w34.heap[gb158]? = some (.cells #[.int .i64 a0_0, .int .i64 a0_1, .slice A0_2 l0_2.length c0_2, .slice A0_3 l0_3.length c0_3] 25 (0, 0))) := ⟨h1_⟩
                          have n2_ : Aside0 (w34.heap[gb159]? = some (.cells #[.int .i64 0, .int .i64 0, .slice none 0 0, .slice none 0 0] 25 (0, 0))) := ⟨h2_⟩
                          have n3_ : Aside0 (w34.heap[gb177]? = some (.cells #[.int .i64 0, .int .i64 0, .slice none 0 0, .slice none 0 0] 25 (0, 0))) := ⟨h3_⟩
                          have n4_ : Aside0 (w.heap.size ≤ gb177) := ⟨h4_⟩
                          have n5_ : Aside0 (w.heap.size ≤ gb177) := ⟨h5_⟩
                          have n6_ : Aside0 (gb158 ≠ gb177) := ⟨h6_⟩
                          have n7_ : Aside0 (gb177 ≠ gb158) := ⟨h7_⟩
                          have n8_ : Aside0 (gb159 ≠ gb177) := ⟨h8_⟩
                          have n9_ : Aside0 (gb177 ≠ gb159) := ⟨h9_⟩
                          have n10_ : Aside0 (Below w.heap.size w w34) := ⟨h10_⟩
                          clear BK158
                          clear BK159
                          clear HB
                          clear h0_ h1_ h2_ h3_ h4_ h5_ h6_ h7_ h8_ h9_ h10_
                          have HO170 := n0_
                          have BK158 := n1_
                          have BK159 := n2_
                          have BK177 := n3_
                          have GW177 := n4_
                          have GE177 := n5_
                          have NB158_177 := n6_
                          have NB177_158 := n7_
                          have NB159_177 := n8_
                          have NB177_159 := n9_
                          have HB := n10_
                          clear n0_ n1_ n2_ n3_ n4_ n5_ n6_ n7_ n8_ n9_ n10_
                          have hHeld : w34.cell? ⟨gb158, 0, none⟩ = some (.int .i64 a0_0) ∧ w34.cell? ⟨gb158, 1, none⟩ = some (.int .i64 a0_1) ∧ w34.cell? ⟨gb158, 2, none⟩ = some (.slice A0_2 l0_2.length c0_2) ∧ w34.cell? ⟨gb158, 3, none⟩ = some (.slice A0_3 l0_3.length c0_3) := hS_
                          refine norm_ (a' := ?_) ?_ ?_
                          rotate_left
                          · simp only [putAll, Act.put, List.setIfInBounds_toArray, List.set_cons_zero, List.set_cons_succ]
                            rfl
                          refine on_ (i := 10) (N := some 32) HT_ (fun K hK => ?_)
                          refine Kd.R_lit_step k70 _ 70 ?hg (N := 32) ?hd (xs := ([] : List (S70))) (inner := []) (ok := fun _ => True) (okp := fun _ => True) ?hr ?hp (fun _ hk => hk) trivial (Below.refl _ _) (Nat.le_refl _) (by simp) ?_; (case hd => rfl); (case hg => rfl); (case hr => first | (go_simp; done) | (go_simp; rfl)); (case hp => exact (Reps.none _ _))
                          intro v172 w35 ho36 hb hg_ hnew_
                          clear hg_ hnew_
                          (first | rw [← Ny171.out] at ho36 | (simp only [Int.reduceToNat] at ho36; rw [← Ny171.out] at ho36))
                          have n0_ := Aside0.mk (Kd.R_below (kR_ HO170.out) hb)
                          have n1_ := Aside0.mk (Kd.R_lower ho36 (below_size (hb3_ HB.out GE158.out GE159.out GE177.out)))
                          have n2_ := Aside0.mk (blk_below (g := gb158) (o := .cells #[.int .i64 a0_0, .int .i64 a0_1, .slice A0_2 l0_2.length c0_2, .slice A0_3 l0_3.length c0_3] 25 (0, 0)) (kb_ BK158.out) hb)
                          have n3_ := Aside0.mk (blk_below (g := gb159) (o := .cells #[.int .i64 0, .int .i64 0, .slice none 0 0, .slice none 0 0] 25 (0, 0)) (kb_ BK159.out) hb)
                          have n4_ := Aside0.mk (blk_below (g := gb177) (o := .cells #[.int .i64 0, .int .i64 0, .slice none 0 0, .slice none 0 0] 25 (0, 0)) (kb_ BK177.out) hb)
                          have n5_ := Aside0.mk (below_step (hb3_ HB.out GE158.out GE159.out GE177.out) hb)
                          clear HO170
                          clear BK158
                          clear BK159
                          clear BK177
                          clear HB
                          have HO170 := n0_
                          have HO173 := n1_
                          have BK158 := n2_
                          have BK159 := n3_
                          have BK177 := n4_
                          have HB := n5_
                          clear n0_ n1_ n2_ n3_ n4_ n5_
                          clear hb ho36
                          refine hK.out _ _ ⟨(blk_cell BK158.out 0).trans rfl, (blk_cell BK158.out 1).trans rfl, (blk_cell BK158.out 2).trans rfl, (blk_cell BK158.out 3).trans rfl⟩ (fun hHeld => ?_)
                          clear hK K
                          refine nm_ 32 ?_
                          exact norm_ (by first | (simp only [putAll, Act.put, List.setIfInBounds_toArray, List.set_cons_zero, List.set_cons_succ]; done) | (simp only [putAll, Act.put, List.setIfInBounds_toArray, List.set_cons_zero, List.set_cons_succ]; rfl)) (hJ4_9_10_15 (v165, v169, v172, gb177) _ ⟨hHeld, (kR_ HO170.out), (kR_ HO173.out), (kb_ BK158.out), (kb_ BK159.out), (kb_ BK177.out), GW177.out, GE177.out, NB158_177.out, NB177_158.out, NB159_177.out, NB177_159.out, (hb3_ HB.out GE158.out GE159.out GE177.out)⟩)
                      · skip
                        rintro ⟨v165, v169, v172⟩ w35 ⟨hS_, h0_, h1_, h2_, h3_, h4_⟩
                        have n0_ : Aside0 (Kd.R (Kd.int .u8) 5 w35 w.heap.size (fun _ => True) v169 y168) := ⟨h0_⟩
                        have n1_ : Aside0 (Kd.R k70 70 w35 w.heap.size (fun _ => True) v172 y171) := ⟨h1_⟩
                        have n2_ : Aside0 (w35.heap[gb158]? = some (.cells #[.int .i64 a0_0, .int .i64 a0_1, .slice A0_2 l0_2.length c0_2, .slice A0_3 l0_3.length c0_3] 25 (0, 0))) := ⟨h2_⟩
                        have n3_ : Aside0 (w35.heap[gb159]? = some (.cells #[.int .i64 0, .int .i64 0, .slice none 0 0, .slice none 0 0] 25 (0, 0))) := ⟨h3_⟩
                        have n4_ : Aside0 (Below w.heap.size w w35) := ⟨h4_⟩
                        clear BK158
                        clear BK159
                        clear HB
                        clear h0_ h1_ h2_ h3_ h4_
                        have HO170 := n0_
                        have HO173 := n1_
                        have BK158 := n2_
                        have BK159 := n3_
                        have HB := n4_
                        clear n0_ n1_ n2_ n3_ n4_
                        have hHeld : w35.cell? ⟨gb158, 0, none⟩ = some (.int .i64 a0_0) ∧ w35.cell? ⟨gb158, 1, none⟩ = some (.int .i64 a0_1) ∧ w35.cell? ⟨gb158, 2, none⟩ = some (.slice A0_2 l0_2.length c0_2) ∧ w35.cell? ⟨gb158, 3, none⟩ = some (.slice A0_3 l0_3.length c0_3) := hS_
                        refine norm_ (a' := ?_) ?_ ?_
                        rotate_left
                        · simp only [putAll, Act.put, List.setIfInBounds_toArray, List.set_cons_zero, List.set_cons_succ]
                          rfl
                        refine two_ (i := 13) (j := 15) (Ni := some 35) (Nj := some 7) #[true, true, true, true, true, true, true, true, true, true, true, true, true, true, false, false, false] #[true, true, true, true, true, true, true, true, true, true, true, true, true, false, false, true, false] rfl rfl rfl rfl (two_of HT_.out (by kernel_rfl)) (by decide) (by decide) (fun K hK => ?_) (fun K hK => ?_)
                        · skip
                          refine Kd.R_append_rows_step k70 (w0 := w) w.heap.size (by rfl) (.tmp 32) (.tmp 34) 23 70 (.agg #[(.int .i64 0), (.int .u8 0)]) 16 rfl Try.underlying23 info70 rfl (by decide) (by omega) v172 y171 l0_3 _ _ _ (fun _ => True) (fun _ => False) rfl rfl ?aO ?aR (fun _ _ h => h) (fun _ h => h.elim) ?aF ?aB ?aS ?aL ?_
                          (case aR => exact kC_ (Kd.C_below HR0_3.out HB.out))
                          (case aB => exact (hb2_ HB.out GE158.out GE159.out))
                          (case aF => exact (fun _ _ => trivial))
                          (case aO => exact (kR_ HO173.out))
                          (case aS => exact (below_size (hb2_ HB.out GE158.out GE159.out)))
                          (case aL => have := LMc18.out; omega)
                          intro v175 w36 ho hb hg hat
                          rw [← Ny174.out] at ho
                          have n0_ := Aside0.mk (blk_grown (g := gb158) (o := .cells #[.int .i64 a0_0, .int .i64 a0_1, .slice A0_2 l0_2.length c0_2, .slice A0_3 l0_3.length c0_3] 25 (0, 0)) (kb_ BK158.out) hg (Kd.R_ne HO173.out BK158.out (by decide)))
                          have n1_ := Aside0.mk (blk_grown (g := gb159) (o := .cells #[.int .i64 0, .int .i64 0, .slice none 0 0, .slice none 0 0] 25 (0, 0)) (kb_ BK159.out) hg (Kd.R_ne HO173.out BK159.out (by decide)))
                          have n2_ := Aside0.mk (Kd.R_over' (kR_ HO170.out) (Kd.R_typed (kR_ HO173.out)) (by decide) hg)
                          have n3_ := Aside0.mk (hb)
                          have n4_ := Aside0.mk (ho)
                          clear BK158
                          clear BK159
                          clear HO170
                          clear HB
                          clear HO173
                          have BK158 := n0_
                          have BK159 := n1_
                          have HO170 := n2_
                          have HB := n3_
                          have HO176 := n4_
                          clear n0_ n1_ n2_ n3_ n4_
                          clear ho hb hg hat
                          obtain ⟨Ao37, co37, eo37⟩ := Kd.R_slice HO176.out
                          (first | subst eo37 | (injection eo37 with f1_ f2_ f3_; have f4_ := f1_.symm; have f5_ := f3_.symm; clear f1_ f2_ f3_; subst f4_; subst f5_))
                          obtain ⟨Ao38, co38, eo38⟩ := Kd.R_slice HO170.out
                          (first | subst eo38 | (injection eo38 with f1_ f2_ f3_; have f4_ := f1_.symm; have f5_ := f3_.symm; clear f1_ f2_ f3_; subst f4_; subst f5_))
                          refine hK.out _ _ ⟨(blk_cell BK158.out 0).trans rfl, (blk_cell BK158.out 1).trans rfl, (blk_cell BK158.out 2).trans rfl, (blk_cell BK158.out 3).trans rfl⟩ (fun hHeld => ?_)
                          clear hK K
                          refine nm_ 35 ?_
                          refine pu_ (i := 14) (N := some 36) HT_ ?_
                          exact norm_ (by first | (simp only [putAll, Act.put, List.setIfInBounds_toArray, List.set_cons_zero, List.set_cons_succ]; done) | (simp only [putAll, Act.put, List.setIfInBounds_toArray, List.set_cons_zero, List.set_cons_succ]; rfl)) (hJ4_9_10_13 (v165, .slice Ao38 y168.length co38, v172, .slice Ao37 y174.length co37) _ ⟨hHeld, (kR_ HO170.out), (kR_ HO176.out), (kb_ BK158.out), (kb_ BK159.out), (hb2_ HB.out GE158.out GE159.out)⟩)
                        · skip
                          refine box_step ?hg (N := 7) ?hd (cs := #[.int .i64 0, .int .i64 0, .slice none 0 0, .slice none 0 0]) (t := 25) ?hr ?_; (case hd => rfl); (case hg => rfl); (case hr => first | (go_simp; done) | (go_simp; rfl))
                          intro gb177 hg w36 hbox hb
                          have n0_ := Aside0.mk (Kd.R_below (kR_ HO170.out) hb)
                          have n1_ := Aside0.mk (Kd.R_below (kR_ HO173.out) hb)
                          have n2_ := Aside0.mk (blk_below (g := gb158) (o := .cells #[.int .i64 a0_0, .int .i64 a0_1, .slice A0_2 l0_2.length c0_2, .slice A0_3 l0_3.length c0_3] 25 (0, 0)) (kb_ BK158.out) hb)
                          have n3_ := Aside0.mk (blk_below (g := gb159) (o := .cells #[.int .i64 0, .int .i64 0, .slice none 0 0, .slice none 0 0] 25 (0, 0)) (kb_ BK159.out) hb)
                          have n4_ := Aside0.mk (below_step (hb2_ HB.out GE158.out GE159.out) hb)
                          have n5_ := Aside0.mk (hbox)
                          have n6_ := Aside0.mk ((by rw [hg]; exact (below_size (hb2_ HB.out GE158.out GE159.out)) : w.heap.size ≤ gb177))
                          have n7_ := Aside0.mk ((by rw [hg]; exact (below_size (hb2_ HB.out GE158.out GE159.out)) : w.heap.size ≤ gb177))
                          have n8_ := Aside0.mk ((by rw [hg]; exact Nat.ne_of_lt (blk_lt (g := gb158) (o := .cells #[.int .i64 a0_0, .int .i64 a0_1, .slice A0_2 l0_2.length c0_2, .slice A0_3 l0_3.length c0_3] 25 (0, 0)) (kb_ BK158.out)) : gb158 ≠ gb177))
                          have n9_ := Aside0.mk ((by rw [hg]; exact Nat.ne_of_gt (blk_lt (g := gb158) (o := .cells #[.int .i64 a0_0, .int .i64 a0_1, .slice A0_2 l0_2.length c0_2, .slice A0_3 l0_3.length c0_3] 25 (0, 0)) (kb_ BK158.out)) : gb177 ≠ gb158))
                          have n10_ := Aside0.mk ((by rw [hg]; exact Nat.ne_of_lt (blk_lt (g := gb159) (o := .cells #[.int .i64 0, .int .i64 0, .slice none 0 0, .slice none 0 0] 25 (0, 0)) (kb_ BK159.out)) : gb159 ≠ gb177))
                          have n11_ := Aside0.mk ((by rw [hg]; exact Nat.ne_of_gt (blk_lt (g := gb159) (o := .cells #[.int .i64 0, .int .i64 0, .slice none 0 0, .slice none 0 0] 25 (0, 0)) (kb_ BK159.out)) : gb177 ≠ gb159))
                          clear HO170
                          clear HO173
                          clear BK158
                          clear BK159
                          clear HB
                          have HO170 := n0_
                          have HO173 := n1_
                          have BK158 := n2_
                          have BK159 := n3_
                          have HB := n4_
                          have BK177 := n5_
                          have GW177 := n6_
                          have GE177 := n7_
                          have NB158_177 := n8_
                          have NB177_158 := n9_
                          have NB159_177 := n10_
                          have NB177_159 := n11_
                          clear n0_ n1_ n2_ n3_ n4_ n5_ n6_ n7_ n8_ n9_ n10_ n11_
                          clear hb hbox hg
                          refine hK.out _ _ ⟨(blk_cell BK158.out 0).trans rfl, (blk_cell BK158.out 1).trans rfl, (blk_cell BK158.out 2).trans rfl, (blk_cell BK158.out 3).trans rfl⟩ (fun hHeld => ?_)
                          clear hK K
                          refine nm_ 7 ?_
                          exact norm_ (by first | (simp only [putAll, Act.put, List.setIfInBounds_toArray, List.set_cons_zero, List.set_cons_succ]; done) | (simp only [putAll, Act.put, List.setIfInBounds_toArray, List.set_cons_zero, List.set_cons_succ]; rfl)) (hJ4_9_10_15 (v165, v169, v172, gb177) _ ⟨hHeld, (kR_ HO170.out), (kR_ HO173.out), (kb_ BK158.out), (kb_ BK159.out), (kb_ BK177.out), GW177.out, GE177.out, NB158_177.out, NB177_158.out, NB159_177.out, NB177_159.out, (hb3_ HB.out GE158.out GE159.out GE177.out)⟩)
                    · skip
                      rintro ⟨v165, v169, v172, gb177⟩ w36 ⟨hS_, h0_, h1_, h2_, h3_, h4_, h5_, h6_, h7_, h8_, h9_, h10_, h11_⟩
                      have n0_ : Aside0 (Kd.R (Kd.int .u8) 5 w36 w.heap.size (fun _ => True) v169 y168) := ⟨h0_⟩
                      have n1_ : Aside0 (Kd.R k70 70 w36 w.heap.size (fun _ => True) v172 y171) := ⟨h1_⟩
                      have n2_ : Aside0 (w36.heap[gb158]? = some (.cells #[.int .i64 a0_0, .int .i64 a0_1, .slice A0_2 l0_2.length c0_2, .slice A0_3 l0_3.length c0_3] 25 (0, 0))) := ⟨h2_⟩
                      have n3_ : Aside0 (w36.heap[gb159]? = some (.cells #[.int .i64 0, .int .i64 0, .slice none 0 0, .slice none 0 0] 25 (0, 0))) := ⟨h3_⟩
                      have n4_ : Aside0 (w36.heap[gb177]? = some (.cells #[.int .i64 0, .int .i64 0, .slice none 0 0, .slice none 0 0] 25 (0, 0))) := ⟨h4_⟩
                      have n5_ : Aside0 (w.heap.size ≤ gb177) := ⟨h5_⟩
                      have n6_ : Aside0 (w.heap.size ≤ gb177) := ⟨h6_⟩
                      have n7_ : Aside0 (gb158 ≠ gb177) := ⟨h7_⟩
                      have n8_ : Aside0 (gb177 ≠ gb158) := ⟨h8_⟩
                      have n9_ : Aside0 (gb159 ≠ gb177) := ⟨h9_⟩
                      have n10_ : Aside0 (gb177 ≠ gb159) := ⟨h10_⟩
                      have n11_ : Aside0 (Below w.heap.size w w36) := ⟨h11_⟩
                      clear BK158
                      clear BK159
                      clear HB
                      clear h0_ h1_ h2_ h3_ h4_ h5_ h6_ h7_ h8_ h9_ h10_ h11_
                      have HO170 := n0_
                      have HO173 := n1_
                      have BK158 := n2_
                      have BK159 := n3_
                      have BK177 := n4_
                      have GW177 := n5_
                      have GE177 := n6_
                      have NB158_177 := n7_
                      have NB177_158 := n8_
                      have NB159_177 := n9_
                      have NB177_159 := n10_
                      have HB := n11_
                      clear n0_ n1_ n2_ n3_ n4_ n5_ n6_ n7_ n8_ n9_ n10_ n11_
                      have hHeld : w36.cell? ⟨gb158, 0, none⟩ = some (.int .i64 a0_0) ∧ w36.cell? ⟨gb158, 1, none⟩ = some (.int .i64 a0_1) ∧ w36.cell? ⟨gb158, 2, none⟩ = some (.slice A0_2 l0_2.length c0_2) ∧ w36.cell? ⟨gb158, 3, none⟩ = some (.slice A0_3 l0_3.length c0_3) := hS_
                      refine norm_ (a' := ?_) ?_ ?_
                      rotate_left
                      · simp only [putAll, Act.put, List.setIfInBounds_toArray, List.set_cons_zero, List.set_cons_succ]
                        rfl
                      refine on_ (i := 13) (N := some 35) HT_ (fun K hK => ?_)
                      refine Kd.R_append_rows_step k70 (w0 := w) w.heap.size (by rfl) (.tmp 32) (.tmp 34) 23 70 (.agg #[(.int .i64 0), (.int .u8 0)]) 16 rfl Try.underlying23 info70 rfl (by decide) (by omega) v172 y171 l0_3 _ _ _ (fun _ => True) (fun _ => False) rfl rfl ?aO ?aR (fun _ _ h => h) (fun _ h => h.elim) ?aF ?aB ?aS ?aL ?_
                      (case aR => exact kC_ (Kd.C_below HR0_3.out HB.out))
                      (case aB => exact (hb3_ HB.out GE158.out GE159.out GE177.out))
                      (case aF => exact (fun _ _ => trivial))
                      (case aO => exact (kR_ HO173.out))
                      (case aS => exact (below_size (hb3_ HB.out GE158.out GE159.out GE177.out)))
                      (case aL => have := LMc18.out; omega)
                      intro v175 w37 ho hb hg hat
                      rw [← Ny174.out] at ho
                      have n0_ := Aside0.mk (blk_grown (g := gb158) (o := .cells #[.int .i64 a0_0, .int .i64 a0_1, .slice A0_2 l0_2.length c0_2, .slice A0_3 l0_3.length c0_3] 25 (0, 0)) (kb_ BK158.out) hg (Kd.R_ne HO173.out BK158.out (by decide)))
                      have n1_ := Aside0.mk (blk_grown (g := gb159) (o := .cells #[.int .i64 0, .int .i64 0, .slice none 0 0, .slice none 0 0] 25 (0, 0)) (kb_ BK159.out) hg (Kd.R_ne HO173.out BK159.out (by decide)))
                      have n2_ := Aside0.mk (Kd.R_over' (kR_ HO170.out) (Kd.R_typed (kR_ HO173.out)) (by decide) hg)
                      have n3_ := Aside0.mk (blk_grown (g := gb177) (o := .cells #[.int .i64 0, .int .i64 0, .slice none 0 0, .slice none 0 0] 25 (0, 0)) (kb_ BK177.out) hg (Kd.R_ne HO173.out BK177.out (by decide)))
                      have n4_ := Aside0.mk (hb)
                      have n5_ := Aside0.mk (ho)
                      clear BK158
                      clear BK159
                      clear HO170
                      clear BK177
                      clear HB
                      clear HO173
                      have BK158 := n0_
                      have BK159 := n1_
                      have HO170 := n2_
                      have BK177 := n3_
                      have HB := n4_
                      have HO176 := n5_
                      clear n0_ n1_ n2_ n3_ n4_ n5_
                      clear ho hb hg hat
                      obtain ⟨Ao38, co38, eo38⟩ := Kd.R_slice HO176.out
                      (first | subst eo38 | (injection eo38 with f1_ f2_ f3_; have f4_ := f1_.symm; have f5_ := f3_.symm; clear f1_ f2_ f3_; subst f4_; subst f5_))
                      obtain ⟨Ao39, co39, eo39⟩ := Kd.R_slice HO170.out
                      (first | subst eo39 | (injection eo39 with f1_ f2_ f3_; have f4_ := f1_.symm; have f5_ := f3_.symm; clear f1_ f2_ f3_; subst f4_; subst f5_))
                      refine hK.out _ _ ⟨(blk_cell BK158.out 0).trans rfl, (blk_cell BK158.out 1).trans rfl, (blk_cell BK158.out 2).trans rfl, (blk_cell BK158.out 3).trans rfl⟩ (fun hHeld => ?_)
                      clear hK K
                      refine nm_ 35 ?_
                      refine pu_ (i := 14) (N := some 36) HT_ ?_
                      exact norm_ (by first | (simp only [putAll, Act.put, List.setIfInBounds_toArray, List.set_cons_zero, List.set_cons_succ]; done) | (simp only [putAll, Act.put, List.setIfInBounds_toArray, List.set_cons_zero, List.set_cons_succ]; rfl)) (hJ4_9_10_13_15 (v165, .slice Ao39 y168.length co39, v172, .slice Ao38 y174.length co38, gb177) _ ⟨hHeld, (kR_ HO170.out), (kR_ HO176.out), (kb_ BK158.out), (kb_ BK159.out), (kb_ BK177.out), GW177.out, GE177.out, NB158_177.out, NB177_158.out, NB159_177.out, NB177_159.out, (hb3_ HB.out GE158.out GE159.out GE177.out)⟩)
                  · skip
                    rintro ⟨v165, v169, v172, v175⟩ w38 ⟨hS_, h0_, h1_, h2_, h3_, h4_⟩
                    have n0_ : Aside0 (Kd.R (Kd.int .u8) 5 w38 w.heap.size (fun _ => True) v169 y168) := ⟨h0_⟩
                    have n1_ : Aside0 (Kd.R k70 70 w38 w.heap.size (fun _ => True) v175 y174) := ⟨h1_⟩
                    have n2_ : Aside0 (w38.heap[gb158]? = some (.cells #[.int .i64 a0_0, .int .i64 a0_1, .slice A0_2 l0_2.length c0_2, .slice A0_3 l0_3.length c0_3] 25 (0, 0))) := ⟨h2_⟩
                    have n3_ : Aside0 (w38.heap[gb159]? = some (.cells #[.int .i64 0, .int .i64 0, .slice none 0 0, .slice none 0 0] 25 (0, 0))) := ⟨h3_⟩
                    have n4_ : Aside0 (Below w.heap.size w w38) := ⟨h4_⟩
                    clear BK158
                    clear BK159
                    clear HB
                    clear h0_ h1_ h2_ h3_ h4_
                    have HO170 := n0_
                    have HO176 := n1_
                    have BK158 := n2_
                    have BK159 := n3_
                    have HB := n4_
                    clear n0_ n1_ n2_ n3_ n4_
                    have hHeld : w38.cell? ⟨gb158, 0, none⟩ = some (.int .i64 a0_0) ∧ w38.cell? ⟨gb158, 1, none⟩ = some (.int .i64 a0_1) ∧ w38.cell? ⟨gb158, 2, none⟩ = some (.slice A0_2 l0_2.length c0_2) ∧ w38.cell? ⟨gb158, 3, none⟩ = some (.slice A0_3 l0_3.length c0_3) := hS_
                    obtain ⟨Ao39, co39, eo39⟩ := Kd.R_slice HO176.out
                    (first | subst eo39 | (injection eo39 with f1_ f2_ f3_; have f4_ := f1_.symm; have f5_ := f3_.symm; clear f1_ f2_ f3_; subst f4_; subst f5_))
                    obtain ⟨Ao40, co40, eo40⟩ := Kd.R_slice HO170.out
                    (first | subst eo40 | (injection eo40 with f1_ f2_ f3_; have f4_ := f1_.symm; have f5_ := f3_.symm; clear f1_ f2_ f3_; subst f4_; subst f5_))
                    refine norm_ (a' := ?_) ?_ ?_
                    rotate_left
                    · simp only [putAll, Act.put, List.setIfInBounds_toArray, List.set_cons_zero, List.set_cons_succ]
                      rfl
                    refine on_ (i := 15) (N := some 7) HT_ (fun K hK => ?_)
                    refine box_step ?hg (N := 7) ?hd (cs := #[.int .i64 0, .int .i64 0, .slice none 0 0, .slice none 0 0]) (t := 25) ?hr ?_; (case hd => rfl); (case hg => rfl); (case hr => first | (go_simp; done) | (go_simp; rfl))
                    intro gb177 hg w41 hbox hb
                    have n0_ := Aside0.mk (Kd.R_below (kR_ HO170.out) hb)
                    have n1_ := Aside0.mk (Kd.R_below (kR_ HO176.out) hb)
                    have n2_ := Aside0.mk (blk_below (g := gb158) (o := .cells #[.int .i64 a0_0, .int .i64 a0_1, .slice A0_2 l0_2.length c0_2, .slice A0_3 l0_3.length c0_3] 25 (0, 0)) (kb_ BK158.out) hb)
                    have n3_ := Aside0.mk (blk_below (g := gb159) (o := .cells #[.int .i64 0, .int .i64 0, .slice none 0 0, .slice none 0 0] 25 (0, 0)) (kb_ BK159.out) hb)
                    have n4_ := Aside0.mk (below_step (hb2_ HB.out GE158.out GE159.out) hb)
                    have n5_ := Aside0.mk (hbox)
                    have n6_ := Aside0.mk ((by rw [hg]; exact (below_size (hb2_ HB.out GE158.out GE159.out)) : w.heap.size ≤ gb177))
                    have n7_ := Aside0.mk ((by rw [hg]; exact (below_size (hb2_ HB.out GE158.out GE159.out)) : w.heap.size ≤ gb177))
                    have n8_ := Aside0.mk ((by rw [hg]; exact Nat.ne_of_lt (blk_lt (g := gb158) (o := .cells #[.int .i64 a0_0, .int .i64 a0_1, .slice A0_2 l0_2.length c0_2, .slice A0_3 l0_3.length c0_3] 25 (0, 0)) (kb_ BK158.out)) : gb158 ≠ gb177))
                    have n9_ := Aside0.mk ((by rw [hg]; exact Nat.ne_of_gt (blk_lt (g := gb158) (o := .cells #[.int .i64 a0_0, .int .i64 a0_1, .slice A0_2 l0_2.length c0_2, .slice A0_3 l0_3.length c0_3] 25 (0, 0)) (kb_ BK158.out)) : gb177 ≠ gb158))
                    have n10_ := Aside0.mk ((by rw [hg]; exact Nat.ne_of_lt (blk_lt (g := gb159) (o := .cells #[.int .i64 0, .int .i64 0, .slice none 0 0, .slice none 0 0] 25 (0, 0)) (kb_ BK159.out)) : gb159 ≠ gb177))
                    have n11_ := Aside0.mk ((by rw [hg]; exact Nat.ne_of_gt (blk_lt (g := gb159) (o := .cells #[.int .i64 0, .int .i64 0, .slice none 0 0, .slice none 0 0] 25 (0, 0)) (kb_ BK159.out)) : gb177 ≠ gb159))
                    clear HO170
                    clear HO176
                    clear BK158
                    clear BK159
                    clear HB
                    have HO170 := n0_
                    have HO176 := n1_
                    have BK158 := n2_
                    have BK159 := n3_
                    have HB := n4_
                    have BK177 := n5_
                    have GW177 := n6_
                    have GE177 := n7_
                    have NB158_177 := n8_
                    have NB177_158 := n9_
                    have NB159_177 := n10_
                    have NB177_159 := n11_
                    clear n0_ n1_ n2_ n3_ n4_ n5_ n6_ n7_ n8_ n9_ n10_ n11_
                    clear hb hbox hg
                    refine hK.out _ _ ⟨(blk_cell BK158.out 0).trans rfl, (blk_cell BK158.out 1).trans rfl, (blk_cell BK158.out 2).trans rfl, (blk_cell BK158.out 3).trans rfl⟩ (fun hHeld => ?_)
                    clear hK K
                    refine nm_ 7 ?_
                    exact norm_ (by first | (simp only [putAll, Act.put, List.setIfInBounds_toArray, List.set_cons_zero, List.set_cons_succ]; done) | (simp only [putAll, Act.put, List.setIfInBounds_toArray, List.set_cons_zero, List.set_cons_succ]; rfl)) (hJ4_9_10_13_15 (v165, .slice Ao40 y168.length co40, v172, .slice Ao39 y174.length co39, gb177) _ ⟨hHeld, (kR_ HO170.out), (kR_ HO176.out), (kb_ BK158.out), (kb_ BK159.out), (kb_ BK177.out), GW177.out, GE177.out, NB158_177.out, NB177_158.out, NB159_177.out, NB177_159.out, (hb3_ HB.out GE158.out GE159.out GE177.out)⟩)
                rintro ⟨v165, v169, v172, v175, gb177⟩ w39 ⟨hS_, h0_, h1_, h2_, h3_, h4_, h5_, h6_, h7_, h8_, h9_, h10_, h11_⟩
                have n0_ : Aside0 (Kd.R (Kd.int .u8) 5 w39 w.heap.size (fun _ => True) v169 y168) := ⟨h0_⟩
                have n1_ : Aside0 (Kd.R k70 70 w39 w.heap.size (fun _ => True) v175 y174) := ⟨h1_⟩
                have n2_ : Aside0 (w39.heap[gb158]? = some (.cells #[.int .i64 a0_0, .int .i64 a0_1, .slice A0_2 l0_2.length c0_2, .slice A0_3 l0_3.length c0_3] 25 (0, 0))) := ⟨h2_⟩
                have n3_ : Aside0 (w39.heap[gb159]? = some (.cells #[.int .i64 0, .int .i64 0, .slice none 0 0, .slice none 0 0] 25 (0, 0))) := ⟨h3_⟩
                have n4_ : Aside0 (w39.heap[gb177]? = some (.cells #[.int .i64 0, .int .i64 0, .slice none 0 0, .slice none 0 0] 25 (0, 0))) := ⟨h4_⟩
                have n5_ : Aside0 (w.heap.size ≤ gb177) := ⟨h5_⟩
                have n6_ : Aside0 (w.heap.size ≤ gb177) := ⟨h6_⟩
                have n7_ : Aside0 (gb158 ≠ gb177) := ⟨h7_⟩
                have n8_ : Aside0 (gb177 ≠ gb158) := ⟨h8_⟩
                have n9_ : Aside0 (gb159 ≠ gb177) := ⟨h9_⟩
                have n10_ : Aside0 (gb177 ≠ gb159) := ⟨h10_⟩
                have n11_ : Aside0 (Below w.heap.size w w39) := ⟨h11_⟩
                clear BK158
                clear BK159
                clear HB
                clear h0_ h1_ h2_ h3_ h4_ h5_ h6_ h7_ h8_ h9_ h10_ h11_
                have HO170 := n0_
                have HO176 := n1_
                have BK158 := n2_
                have BK159 := n3_
                have BK177 := n4_
                have GW177 := n5_
                have GE177 := n6_
                have NB158_177 := n7_
                have NB177_158 := n8_
                have NB159_177 := n9_
                have NB177_159 := n10_
                have HB := n11_
                clear n0_ n1_ n2_ n3_ n4_ n5_ n6_ n7_ n8_ n9_ n10_ n11_
                have hHeld : w39.cell? ⟨gb158, 0, none⟩ = some (.int .i64 a0_0) ∧ w39.cell? ⟨gb158, 1, none⟩ = some (.int .i64 a0_1) ∧ w39.cell? ⟨gb158, 2, none⟩ = some (.slice A0_2 l0_2.length c0_2) ∧ w39.cell? ⟨gb158, 3, none⟩ = some (.slice A0_3 l0_3.length c0_3) := hS_
                obtain ⟨Ao40, co40, eo40⟩ := Kd.R_slice HO176.out
                (first | subst eo40 | (injection eo40 with f1_ f2_ f3_; have f4_ := f1_.symm; have f5_ := f3_.symm; clear f1_ f2_ f3_; subst f4_; subst f5_))
                obtain ⟨Ao41, co41, eo41⟩ := Kd.R_slice HO170.out
                (first | subst eo41 | (injection eo41 with f1_ f2_ f3_; have f4_ := f1_.symm; have f5_ := f3_.symm; clear f1_ f2_ f3_; subst f4_; subst f5_))
                refine norm_ (a' := ?_) ?_ ?_
                rotate_left
                · simp only [putAll, Act.put, List.setIfInBounds_toArray, List.set_cons_zero, List.set_cons_succ]
                  rfl
                refine on_ (i := 16) (N := none) HT_ (fun K hK => ?_)
                have hs42 : w39.cell? ⟨gb177, 0, none⟩ = some (.int .i64 0) := (blk_cell BK177.out 0).trans rfl
                have hfs42 := blk_frozen BK177.out 0
                have hns42_0 := NB158_177.out
                have hns42_1 := NB159_177.out
                have hms42_0 := NB177_158.out
                have hms42_1 := NB177_159.out
                have hs43 : w39.cell? ⟨gb177, 1, none⟩ = some (.int .i64 0) := (blk_cell BK177.out 1).trans rfl
                have hfs43 := blk_frozen BK177.out 1
                have hns43_0 := NB158_177.out
                have hns43_1 := NB159_177.out
                have hms43_0 := NB177_158.out
                have hms43_1 := NB177_159.out
                have hs44 : w39.cell? ⟨gb177, 2, none⟩ = some (.slice none 0 0) := (blk_cell BK177.out 2).trans rfl
                have hfs44 := blk_frozen BK177.out 2
                have hns44_0 := NB158_177.out
                have hns44_1 := NB159_177.out
                have hms44_0 := NB177_158.out
                have hms44_1 := NB177_159.out
                have hs45 : w39.cell? ⟨gb177, 3, none⟩ = some (.slice none 0 0) := (blk_cell BK177.out 3).trans rfl
                have hfs45 := blk_frozen BK177.out 3
                have hns45_0 := NB158_177.out
                have hns45_1 := NB159_177.out
                have hms45_0 := NB177_158.out
                have hms45_1 := NB177_159.out
                refine skip_ (w1 := ?_) (by rfl) rfl ?_ ?_
                rotate_left
                · go_simp
                  rfl
                refine hK.out _ _ ⟨((cell_far (p := ⟨gb177, _, none⟩) NB158_177.out _).trans (((cell_far (p := ⟨gb177, _, none⟩) NB158_177.out _).trans (((cell_far (p := ⟨gb177, _, none⟩) NB158_177.out _).trans (((cell_far (p := ⟨gb177, _, none⟩) NB158_177.out _).trans (hHeld.1)))))))), ((cell_far (p := ⟨gb177, _, none⟩) NB158_177.out _).trans (((cell_far (p := ⟨gb177, _, none⟩) NB158_177.out _).trans (((cell_far (p := ⟨gb177, _, none⟩) NB158_177.out _).trans (((cell_far (p := ⟨gb177, _, none⟩) NB158_177.out _).trans (hHeld.2.1)))))))), ((cell_far (p := ⟨gb177, _, none⟩) NB158_177.out _).trans (((cell_far (p := ⟨gb177, _, none⟩) NB158_177.out _).trans (((cell_far (p := ⟨gb177, _, none⟩) NB158_177.out _).trans (((cell_far (p := ⟨gb177, _, none⟩) NB158_177.out _).trans (hHeld.2.2.1)))))))), ((cell_far (p := ⟨gb177, _, none⟩) NB158_177.out _).trans (((cell_far (p := ⟨gb177, _, none⟩) NB158_177.out _).trans (((cell_far (p := ⟨gb177, _, none⟩) NB158_177.out _).trans (((cell_far (p := ⟨gb177, _, none⟩) NB158_177.out _).trans (hHeld.2.2.2))))))))⟩ (fun hHeld => ?_)
                clear hK K
                refine done_ (done_of HT_.out (by kernel_rfl)) ?_
                try go_wp2
                have n0_ : Aside0 (Kd.R (Kd.int .u8) 5 ((((w39.setCell ⟨gb177, 0, none⟩ (.int .i64 a0_0)).setCell ⟨gb177, 1, none⟩ (.int .i64 a0_1)).setCell ⟨gb177, 2, none⟩ (.slice Ao41 y168.length co41)).setCell ⟨gb177, 3, none⟩ (.slice Ao40 y174.length co40)) w.heap.size (fun _ => True) (.slice Ao41 y168.length co41) y168) := ⟨by refine kR_ ?_; exact Kd.R_mono (Kd.R_f gb177 3 (.slice Ao40 y174.length co40) (Kd.R_f gb177 2 (.slice Ao41 y168.length co41) (Kd.R_f gb177 1 (.int .i64 a0_1) (Kd.R_f gb177 0 (.int .i64 a0_0) (Kd.R_types HO170.out BK177.out (by decide)))))) (fun _ hk => trivial)⟩
                have n1_ : Aside0 (Kd.R k70 70 ((((w39.setCell ⟨gb177, 0, none⟩ (.int .i64 a0_0)).setCell ⟨gb177, 1, none⟩ (.int .i64 a0_1)).setCell ⟨gb177, 2, none⟩ (.slice Ao41 y168.length co41)).setCell ⟨gb177, 3, none⟩ (.slice Ao40 y174.length co40)) w.heap.size (fun _ => True) (.slice Ao40 y174.length co40) y174) := ⟨by refine kR_ ?_; exact Kd.R_mono (Kd.R_f gb177 3 (.slice Ao40 y174.length co40) (Kd.R_f gb177 2 (.slice Ao41 y168.length co41) (Kd.R_f gb177 1 (.int .i64 a0_1) (Kd.R_f gb177 0 (.int .i64 a0_0) (Kd.R_types HO176.out BK177.out (by decide)))))) (fun _ hk => trivial)⟩
                have n2_ : Aside0 (((((w39.setCell ⟨gb177, 0, none⟩ (.int .i64 a0_0)).setCell ⟨gb177, 1, none⟩ (.int .i64 a0_1)).setCell ⟨gb177, 2, none⟩ (.slice Ao41 y168.length co41)).setCell ⟨gb177, 3, none⟩ (.slice Ao40 y174.length co40)).heap[gb158]? = some (.cells #[.int .i64 a0_0, .int .i64 a0_1, .slice A0_2 l0_2.length c0_2, .slice A0_3 l0_3.length c0_3] 25 (0, 0))) := ⟨by refine kb_ ?_; refine blk_far ?_ NB158_177.out _; refine kb_ ?_; refine blk_far ?_ NB158_177.out _; refine kb_ ?_; refine blk_far ?_ NB158_177.out _; refine kb_ ?_; refine blk_far ?_ NB158_177.out _; refine kb_ ?_; exact BK158.out⟩
                have n3_ : Aside0 (((((w39.setCell ⟨gb177, 0, none⟩ (.int .i64 a0_0)).setCell ⟨gb177, 1, none⟩ (.int .i64 a0_1)).setCell ⟨gb177, 2, none⟩ (.slice Ao41 y168.length co41)).setCell ⟨gb177, 3, none⟩ (.slice Ao40 y174.length co40)).heap[gb159]? = some (.cells #[.int .i64 0, .int .i64 0, .slice none 0 0, .slice none 0 0] 25 (0, 0))) := ⟨by refine kb_ ?_; refine blk_far ?_ NB159_177.out _; refine kb_ ?_; refine blk_far ?_ NB159_177.out _; refine kb_ ?_; refine blk_far ?_ NB159_177.out _; refine kb_ ?_; refine blk_far ?_ NB159_177.out _; refine kb_ ?_; exact BK159.out⟩
                have n4_ : Aside0 (((((w39.setCell ⟨gb177, 0, none⟩ (.int .i64 a0_0)).setCell ⟨gb177, 1, none⟩ (.int .i64 a0_1)).setCell ⟨gb177, 2, none⟩ (.slice Ao41 y168.length co41)).setCell ⟨gb177, 3, none⟩ (.slice Ao40 y174.length co40)).heap[gb177]? = some (.cells #[.int .i64 a0_0, .int .i64 a0_1, .slice Ao41 y168.length co41, .slice Ao40 y174.length co40] 25 (0, 0))) := ⟨by refine kb_ ?_; refine blk_put (cs := #[.int .i64 a0_0, .int .i64 a0_1, .slice Ao41 y168.length co41, .slice none 0 0]) ?_ 3 _ rfl; refine kb_ ?_; refine blk_put (cs := #[.int .i64 a0_0, .int .i64 a0_1, .slice none 0 0, .slice none 0 0]) ?_ 2 _ rfl; refine kb_ ?_; refine blk_put (cs := #[.int .i64 a0_0, .int .i64 0, .slice none 0 0, .slice none 0 0]) ?_ 1 _ rfl; refine kb_ ?_; refine blk_put (cs := #[.int .i64 0, .int .i64 0, .slice none 0 0, .slice none 0 0]) ?_ 0 _ rfl; refine kb_ ?_; exact BK177.out⟩
                have n5_ : Aside0 (Below w.heap.size w ((((w39.setCell ⟨gb177, 0, none⟩ (.int .i64 a0_0)).setCell ⟨gb177, 1, none⟩ (.int .i64 a0_1)).setCell ⟨gb177, 2, none⟩ (.slice Ao41 y168.length co41)).setCell ⟨gb177, 3, none⟩ (.slice Ao40 y174.length co40))) := ⟨by repeat (first | (with_reducible first | exact HB.out | apply below_alloc | apply pw_below_drewN | apply below_drew1 | refine below_set ?_ GE158.out | refine below_set ?_ GE159.out | refine below_set ?_ GE177.out) | exact HB.out)⟩
                (try clear HO170)
                (try clear HO176)
                (try clear BK158)
                (try clear BK159)
                (try clear BK177)
                (try clear HB)
                generalize ((((w39.setCell ⟨gb177, 0, none⟩ (.int .i64 a0_0)).setCell ⟨gb177, 1, none⟩ (.int .i64 a0_1)).setCell ⟨gb177, 2, none⟩ (.slice Ao41 y168.length co41)).setCell ⟨gb177, 3, none⟩ (.slice Ao40 y174.length co40)) = w46 at n0_ n1_ n2_ n3_ n4_ n5_ ⊢
                have HO170 := n0_
                have HO176 := n1_
                have BK158 := n2_
                have BK159 := n3_
                have BK177 := n4_
                have HB := n5_
                clear n0_ n1_ n2_ n3_ n4_ n5_
                have n0_ := Aside0.mk (Kd.R_drew HO170.out)
                have n1_ := Aside0.mk (Kd.R_drew HO176.out)
                have n2_ := Aside0.mk (blk_drew BK158.out)
                have n3_ := Aside0.mk (blk_drew BK159.out)
                have n4_ := Aside0.mk (blk_drew BK177.out)
                have n5_ := Aside0.mk (below_drew1 HB.out)
                clear HO170
                clear HO176
                clear BK158
                clear BK159
                clear BK177
                clear HB
                have HO170 := n0_
                have HO176 := n1_
                have BK158 := n2_
                have BK159 := n3_
                have BK177 := n4_
                have HB := n5_
                clear n0_ n1_ n2_ n3_ n4_ n5_
                obtain ⟨i048, hi048, _, hsz48, _⟩ := info_parts info5
                obtain ⟨hcut48, hA48, hC48⟩ := print_take_of (P := Try.prog) (Value.int .u8) 0 22 5 .i64 Try.underlying22 hi048 hsz48 A0_2 c0_2 l0_2 (ji14) (of_decide_eq_true (by first | (with_reducible assumption) | assumption)) (of_decide_eq_true (by first | (with_reducible assumption) | assumption)) HC0_2.out
                have HR181 := Aside0.mk (Kd.C_of_reads (h1 := fun _ => rfl) (hA48 _ (Kd.reads_of_C HR0_2.out)))
                have HC181 := Aside0.mk hC48
                clear hA48 hC48 hi048 hsz48
                refine start_ (n := 9) (S := fun w' => w'.cell? ⟨gb177, 0, none⟩ = some (.int .i64 a0_0) ∧ w'.cell? ⟨gb177, 1, none⟩ = some (.int .i64 a0_1) ∧ w'.cell? ⟨gb177, 2, none⟩ = some (.slice Ao41 y168.length co41) ∧ w'.cell? ⟨gb177, 3, none⟩ = some (.slice Ao40 y174.length co40) ∧ w'.cell? ⟨gb158, 0, none⟩ = some (.int .i64 a0_0) ∧ w'.cell? ⟨gb158, 1, none⟩ = some (.int .i64 a0_1) ∧ w'.cell? ⟨gb158, 2, none⟩ = some (.slice A0_2 l0_2.length c0_2) ∧ w'.cell? ⟨gb158, 3, none⟩ = some (.slice A0_3 l0_3.length c0_3)) (ds := []) #[false, false, false, false, false, false, false, false, false] (by kernel_rfl) rfl rfl ⟨(blk_cell BK177.out 0).trans rfl, (blk_cell BK177.out 1).trans rfl, (blk_cell BK177.out 2).trans rfl, (blk_cell BK177.out 3).trans rfl, (blk_cell BK158.out 0).trans rfl, (blk_cell BK158.out 1).trans rfl, (blk_cell BK158.out 2).trans rfl, (blk_cell BK158.out 3).trans rfl⟩ (fun hHeld => ?_); refine with_tabW spec_EarRead.tab5 spec_EarRead.bits5 (fun HT_ HW_ => ?_)
                generalize w46.drew = w47 at HO170 HO176 BK158 BK159 BK177 HB HR181 hHeld ⊢
                refine pu_ (i := 2) (N := some 39) HT_ ?_
                refine pu_ (i := 4) (N := some 41) HT_ ?_
                refine tk_ (i := 0) (N := some 37) HT_ HW_ hHeld ?_
                refine tk_ (i := 3) (N := some 40) HT_ HW_ hHeld ?_
                refine pu_ (i := 5) (N := some 42) HT_ ?_
                refine on_ (i := 1) (N := some 38) HT_ (fun K hK => ?_)
                refine Kd.R_lit_step (Kd.int .u8) _ 5 ?hg (N := 38) ?hd (xs := ([] : List Int)) (inner := []) (ok := fun _ => True) (okp := fun _ => True) ?hr ?hp (fun _ hk => hk) trivial (Below.refl _ _) (Nat.le_refl _) (by simp) ?_; (case hd => rfl); (case hg => rfl); (case hr => first | (go_simp; done) | (go_simp; rfl)); (case hp => exact (Reps.none _ _))
                intro v179 w49 ho50 hb hg_ hnew_
                clear hg_ hnew_
                (first | rw [← Ny178.out] at ho50 | (simp only [Int.reduceToNat] at ho50; rw [← Ny178.out] at ho50))
                have n0_ := Aside0.mk (Kd.R_elder' (kR_ HO170.out) (Kd.R_base ho50) hb)
                have n1_ := Aside0.mk (Kd.R_below (kR_ HO176.out) hb)
                have n2_ := Aside0.mk (Kd.R_lower (Kd.R_new' ho50 (Kd.R_lt (kR_ HO170.out))) (below_size (hb3_ HB.out GE158.out GE159.out GE177.out)))
                have n3_ := Aside0.mk (blk_below (g := gb158) (o := .cells #[.int .i64 a0_0, .int .i64 a0_1, .slice A0_2 l0_2.length c0_2, .slice A0_3 l0_3.length c0_3] 25 (0, 0)) (kb_ BK158.out) hb)
                have n4_ := Aside0.mk (blk_below (g := gb159) (o := .cells #[.int .i64 0, .int .i64 0, .slice none 0 0, .slice none 0 0] 25 (0, 0)) (kb_ BK159.out) hb)
                have n5_ := Aside0.mk (blk_below (g := gb177) (o := .cells #[.int .i64 a0_0, .int .i64 a0_1, .slice Ao41 y168.length co41, .slice Ao40 y174.length co40] 25 (0, 0)) (kb_ BK177.out) hb)
                have n6_ := Aside0.mk (below_step (hb3_ HB.out GE158.out GE159.out GE177.out) hb)
                clear HO170
                clear HO176
                clear BK158
                clear BK159
                clear BK177
                clear HB
                have HO170 := n0_
                have HO176 := n1_
                have HO180 := n2_
                have BK158 := n3_
                have BK159 := n4_
                have BK177 := n5_
                have HB := n6_
                clear n0_ n1_ n2_ n3_ n4_ n5_ n6_
                clear hb ho50
                refine hK.out _ _ ⟨(blk_cell BK177.out 0).trans rfl, (blk_cell BK177.out 1).trans rfl, (blk_cell BK177.out 2).trans rfl, (blk_cell BK177.out 3).trans rfl, (blk_cell BK158.out 0).trans rfl, (blk_cell BK158.out 1).trans rfl, (blk_cell BK158.out 2).trans rfl, (blk_cell BK158.out 3).trans rfl⟩ (fun hHeld => ?_)
                clear hK K
                refine nm_ 38 ?_
                refine on_ (i := 6) (N := some 43) HT_ (fun K hK => ?_)
                refine Kd.R_append_rows_step (Kd.int .u8) (w0 := w) w.heap.size (by rfl) (.tmp 38) (.tmp 42) 22 5 (.int .u8 0) 1 rfl Try.underlying22 info5 rfl (by decide) (by omega) v179 y178 (l0_2.take ((ji14) : Int).toNat) _ _ _ (fun k_ => some k_ ≠ (.slice Ao41 y168.length co41 : Value).ownBlock) (fun _ => False) rfl rfl ?aO ?aR (fun _ _ h => h) (fun _ h => h.elim) ?aF ?aB ?aS ?aL ?_
                (case aR => first | (refine len_ (show (l0_2.take ((ji14) : Int).toNat).length = (ji14).toNat from (by rw [List.length_take]; have h_ : ((ji14) : Int) ≤ (l0_2.length : Int) := of_decide_eq_true (by first | (with_reducible assumption) | assumption); omega)) ?_; repeat (first | exact (Kd.C_below HR181.out HB.out) | (with_reducible refine Kd.C_alloc ?_ _) | (with_reducible refine Kd.C_drewN ?_ _) | (with_reducible refine Kd.C_drew ?_)); done) | (repeat (first | exact (Kd.C_below HR181.out HB.out) | (with_reducible refine Kd.C_alloc ?_ _) | (with_reducible refine Kd.C_drewN ?_ _) | (with_reducible refine Kd.C_drew ?_))))
                (case aB => exact (hb3_ HB.out GE158.out GE159.out GE177.out))
                (case aF => exact (fun k_ hk => Kd.fresh' (Kd.R_lt (kR_ HO170.out)) k_ hk))
                (case aO => exact (by refine kR_ ?_; first | exact Kd.R_mono HO180.out (fun _ hk => hk.2) | exact Kd.R_mono HO180.out (fun _ _ => trivial)))
                (case aS => exact (below_size (hb3_ HB.out GE158.out GE159.out GE177.out)))
                (case aL => have := LMc21.out; have hlx_ := (show (l0_2.take ((ji14) : Int).toNat).length = (ji14).toNat from (by rw [List.length_take]; have h_ : ((ji14) : Int) ≤ (l0_2.length : Int) := of_decide_eq_true (by first | (with_reducible assumption) | assumption); omega)); omega)
                intro v183 w51 ho hb hg hat
                rw [← Ny182.out] at ho
                have n0_ := Aside0.mk (blk_grown (g := gb158) (o := .cells #[.int .i64 a0_0, .int .i64 a0_1, .slice A0_2 l0_2.length c0_2, .slice A0_3 l0_3.length c0_3] 25 (0, 0)) (kb_ BK158.out) hg (Kd.R_ne HO180.out BK158.out (by decide)))
                have n1_ := Aside0.mk (blk_grown (g := gb159) (o := .cells #[.int .i64 0, .int .i64 0, .slice none 0 0, .slice none 0 0] 25 (0, 0)) (kb_ BK159.out) hg (Kd.R_ne HO180.out BK159.out (by decide)))
                have n2_ := Aside0.mk (Kd.R_after (ok := (fun _ => True)) (kR_ HO170.out) hg hat)
                have n3_ := Aside0.mk (Kd.R_over' (kR_ HO176.out) (Kd.R_typed (kR_ HO180.out)) (by decide) hg)
                have n4_ := Aside0.mk (blk_grown (g := gb177) (o := .cells #[.int .i64 a0_0, .int .i64 a0_1, .slice Ao41 y168.length co41, .slice Ao40 y174.length co40] 25 (0, 0)) (kb_ BK177.out) hg (Kd.R_ne HO180.out BK177.out (by decide)))
                have n5_ := Aside0.mk (hb)
                have n6_ := Aside0.mk (ho)
                clear BK158
                clear BK159
                clear HO170
                clear HO176
                clear BK177
                clear HB
                clear HO180
                have BK158 := n0_
                have BK159 := n1_
                have HO170 := n2_
                have HO176 := n3_
                have BK177 := n4_
                have HB := n5_
                have HO184 := n6_
                clear n0_ n1_ n2_ n3_ n4_ n5_ n6_
                clear ho hb hg hat
                refine hK.out _ _ ⟨(blk_cell BK177.out 0).trans rfl, (blk_cell BK177.out 1).trans rfl, (blk_cell BK177.out 2).trans rfl, (blk_cell BK177.out 3).trans rfl, (blk_cell BK158.out 0).trans rfl, (blk_cell BK158.out 1).trans rfl, (blk_cell BK158.out 2).trans rfl, (blk_cell BK158.out 3).trans rfl⟩ (fun hHeld => ?_)
                clear hK K
                refine nm_ 43 ?_
                refine on_ (i := 7) (N := none) HT_ (fun K hK => ?_)
                have hs52 : w51.cell? ⟨gb159, 0, none⟩ = some (.int .i64 0) := (blk_cell BK159.out 0).trans rfl
                have hfs52 := blk_frozen BK159.out 0
                have hns52_0 := NB158_159.out
                have hns52_2 := NB177_159.out
                have hms52_0 := NB159_158.out
                have hms52_2 := NB159_177.out
                have hs53 : w51.cell? ⟨gb159, 1, none⟩ = some (.int .i64 0) := (blk_cell BK159.out 1).trans rfl
                have hfs53 := blk_frozen BK159.out 1
                have hns53_0 := NB158_159.out
                have hns53_2 := NB177_159.out
                have hms53_0 := NB159_158.out
                have hms53_2 := NB159_177.out
                have hs54 : w51.cell? ⟨gb159, 2, none⟩ = some (.slice none 0 0) := (blk_cell BK159.out 2).trans rfl
                have hfs54 := blk_frozen BK159.out 2
                have hns54_0 := NB158_159.out
                have hns54_2 := NB177_159.out
                have hms54_0 := NB159_158.out
                have hms54_2 := NB159_177.out
                have hs55 : w51.cell? ⟨gb159, 3, none⟩ = some (.slice none 0 0) := (blk_cell BK159.out 3).trans rfl
                have hfs55 := blk_frozen BK159.out 3
                have hns55_0 := NB158_159.out
                have hns55_2 := NB177_159.out
                have hms55_0 := NB159_158.out
                have hms55_2 := NB159_177.out
                refine skip_ (w1 := ?_) (by rfl) rfl ?_ ?_
                rotate_left
                · go_simp
                  rfl
                refine hK.out _ _ ⟨((cell_far (p := ⟨gb159, _, none⟩) NB177_159.out _).trans (((cell_far (p := ⟨gb159, _, none⟩) NB177_159.out _).trans (((cell_far (p := ⟨gb159, _, none⟩) NB177_159.out _).trans (((cell_far (p := ⟨gb159, _, none⟩) NB177_159.out _).trans (hHeld.1)))))))), ((cell_far (p := ⟨gb159, _, none⟩) NB177_159.out _).trans (((cell_far (p := ⟨gb159, _, none⟩) NB177_159.out _).trans (((cell_far (p := ⟨gb159, _, none⟩) NB177_159.out _).trans (((cell_far (p := ⟨gb159, _, none⟩) NB177_159.out _).trans (hHeld.2.1)))))))), ((cell_far (p := ⟨gb159, _, none⟩) NB177_159.out _).trans (((cell_far (p := ⟨gb159, _, none⟩) NB177_159.out _).trans (((cell_far (p := ⟨gb159, _, none⟩) NB177_159.out _).trans (((cell_far (p := ⟨gb159, _, none⟩) NB177_159.out _).trans (hHeld.2.2.1)))))))), ((cell_far (p := ⟨gb159, _, none⟩) NB177_159.out _).trans (((cell_far (p := ⟨gb159, _, none⟩) NB177_159.out _).trans (((cell_far (p := ⟨gb159, _, none⟩) NB177_159.out _).trans (((cell_far (p := ⟨gb159, _, none⟩) NB177_159.out _).trans (hHeld.2.2.2.1)))))))), ((cell_far (p := ⟨gb159, _, none⟩) NB158_159.out _).trans (((cell_far (p := ⟨gb159, _, none⟩) NB158_159.out _).trans (((cell_far (p := ⟨gb159, _, none⟩) NB158_159.out _).trans (((cell_far (p := ⟨gb159, _, none⟩) NB158_159.out _).trans (hHeld.2.2.2.2.1)))))))), ((cell_far (p := ⟨gb159, _, none⟩) NB158_159.out _).trans (((cell_far (p := ⟨gb159, _, none⟩) NB158_159.out _).trans (((cell_far (p := ⟨gb159, _, none⟩) NB158_159.out _).trans (((cell_far (p := ⟨gb159, _, none⟩) NB158_159.out _).trans (hHeld.2.2.2.2.2.1)))))))), ((cell_far (p := ⟨gb159, _, none⟩) NB158_159.out _).trans (((cell_far (p := ⟨gb159, _, none⟩) NB158_159.out _).trans (((cell_far (p := ⟨gb159, _, none⟩) NB158_159.out _).trans (((cell_far (p := ⟨gb159, _, none⟩) NB158_159.out _).trans (hHeld.2.2.2.2.2.2.1)))))))), ((cell_far (p := ⟨gb159, _, none⟩) NB158_159.out _).trans (((cell_far (p := ⟨gb159, _, none⟩) NB158_159.out _).trans (((cell_far (p := ⟨gb159, _, none⟩) NB158_159.out _).trans (((cell_far (p := ⟨gb159, _, none⟩) NB158_159.out _).trans (hHeld.2.2.2.2.2.2.2))))))))⟩ (fun hHeld => ?_)
                clear hK K
                refine pu_ (i := 8) (N := some 5) HT_ ?_
                refine done_ (done_of HT_.out (by kernel_rfl)) ?_
                try go_wp2
                refine bodyPost_ret (results_ct rfl _ _ gb159 25 #[.int .i64 a0_0, .int .i64 a0_1, .slice Ao41 y168.length co41, .slice Ao40 y174.length co40] (0, 0) _ rfl (by refine kb_ ?_; refine blk_put (cs := #[.int .i64 a0_0, .int .i64 a0_1, .slice Ao41 y168.length co41, .slice none 0 0]) ?_ 3 _ rfl; refine kb_ ?_; refine blk_put (cs := #[.int .i64 a0_0, .int .i64 a0_1, .slice none 0 0, .slice none 0 0]) ?_ 2 _ rfl; refine kb_ ?_; refine blk_put (cs := #[.int .i64 a0_0, .int .i64 0, .slice none 0 0, .slice none 0 0]) ?_ 1 _ rfl; refine kb_ ?_; refine blk_put (cs := #[.int .i64 0, .int .i64 0, .slice none 0 0, .slice none 0 0]) ?_ 0 _ rfl; refine kb_ ?_; exact BK159.out) Try.underlying25 rfl (by kernel_rfl)) rfl ?_
                exact ⟨_, _, _, by first | rfl | (simp [errW_none, errW_some] <;> rfl) | (simp only [← hji14]; first | rfl | (simp [errW_none, errW_some] <;> rfl)) | (simp [*, errW_none, errW_some] <;> rfl), by refine kR_ ?_; exact Kd.R_mono (Kd.R_f gb159 3 (.slice Ao40 y174.length co40) (Kd.R_f gb159 2 (.slice Ao41 y168.length co41) (Kd.R_f gb159 1 (.int .i64 a0_1) (Kd.R_f gb159 0 (.int .i64 a0_0) (Kd.R_types HO170.out BK159.out (by decide)))))) (fun _ hk => hk.1.2), by refine kR_ ?_; exact Kd.R_mono (Kd.R_f gb159 3 (.slice Ao40 y174.length co40) (Kd.R_f gb159 2 (.slice Ao41 y168.length co41) (Kd.R_f gb159 1 (.int .i64 a0_1) (Kd.R_f gb159 0 (.int .i64 a0_0) (Kd.R_types HO176.out BK159.out (by decide)))))) (fun _ hk => trivial), by refine kR_ ?_; exact Kd.R_mono (Kd.R_f gb159 3 (.slice Ao40 y174.length co40) (Kd.R_f gb159 2 (.slice Ao41 y168.length co41) (Kd.R_f gb159 1 (.int .i64 a0_1) (Kd.R_f gb159 0 (.int .i64 a0_0) (Kd.R_types HO184.out BK159.out (by decide)))))) (fun _ hk => hk.1), by repeat (first | (with_reducible first | exact HB.out | apply below_alloc | apply pw_below_drewN | apply below_drew1 | refine below_set ?_ GE158.out | refine below_set ?_ GE159.out | refine below_set ?_ GE177.out) | exact HB.out)⟩
              · rw [if_neg c21] at H
                exact absurd H (by simp)
            · rw [if_neg c18] at H
              exact absurd H (by simp)
          · rw [if_neg c17] at H
            exact absurd H (by simp)
        · rw [if_neg c16] at H
          exact absurd H (by simp)
      · rw [if_neg c15] at H
        exact absurd H (by simp)
  · replace c4 := Bool.eq_false_iff.mpr c4
    subst c4
    have H1 : (some (0, 0, ([] : List Int), ([] : List (S70)), (([] : List Int)))) = some (r1, r2, r3, r4, r5) := by rw [if_neg (show ¬ (false = true) by decide)] at H; exact H
    clear H
    have H := H1
    clear H1
    obtain ⟨y185, hy185⟩ : ∃ y_ : List Int, y_ = (([] : List Int)) := ⟨_, rfl⟩
    replace H : (some (0, 0, ([] : List Int), ([] : List (S70)), y185)) = some (r1, r2, r3, r4, r5) := by first | (rw [hy185]; with_reducible exact H) | (have H2_ := (Option.bind_some _ _).symm.trans H; rw [hy185]; with_reducible exact H2_) | (have H2_ := (Option.bind_some _ _).symm.trans H; with_reducible exact H2_) | with_reducible exact H | (rw [hy185]; exact H) | exact H
    have Ny185 := Aside0.mk hy185
    clear hy185
    simp only [Option.some.injEq, Prod.mk.injEq] at H
    obtain ⟨rfl, rfl, rfl, rfl, rfl⟩ := H
    go_enter Try.func16, Try.ntmps16
    go_wp2_with (first | ((with_reducible refine gate_dst (N := 2) rfl ?_); refine box_event ?hg (N := 2) ?hd (cs := #[.int .i64 a0_0, .int .i64 a0_1, .slice A0_2 l0_2.length c0_2, .slice A0_3 l0_3.length c0_3]) (t := 25) ?hr ?_; (case hd => rfl); (case hg => rfl); (case hr => first | (go_simp; done) | (go_simp; rfl)); intro gb158 hg w56 hbox hb; have n0_ := Aside0.mk (below_step (hb0_ HB.out) hb); have n1_ := Aside0.mk (hbox); have n2_ := Aside0.mk ((by rw [hg]; exact (below_size (hb0_ HB.out)) : w.heap.size ≤ gb158)); have n3_ := Aside0.mk ((by rw [hg]; exact (below_size (hb0_ HB.out)) : w.heap.size ≤ gb158)); clear HB; have HB := n0_; have BK158 := n1_; have GW158 := n2_; have GE158 := n3_; clear n0_ n1_ n2_ n3_; clear hb hbox hg) | ((with_reducible refine gate_dst (N := 4) rfl ?_); refine box_event ?hg (N := 4) ?hd (cs := #[.int .i64 0, .int .i64 0, .slice none 0 0, .slice none 0 0]) (t := 25) ?hr ?_; (case hd => rfl); (case hg => rfl); (case hr => first | (go_simp; done) | (go_simp; rfl)); intro gb159 hg w57 hbox hb; have n0_ := Aside0.mk (blk_below (g := gb158) (o := .cells #[.int .i64 a0_0, .int .i64 a0_1, .slice A0_2 l0_2.length c0_2, .slice A0_3 l0_3.length c0_3] 25 (0, 0)) (kb_ BK158.out) hb); have n1_ := Aside0.mk (below_step (hb1_ HB.out GE158.out) hb); have n2_ := Aside0.mk (hbox); have n3_ := Aside0.mk ((by rw [hg]; exact (below_size (hb1_ HB.out GE158.out)) : w.heap.size ≤ gb159)); have n4_ := Aside0.mk ((by rw [hg]; exact (below_size (hb1_ HB.out GE158.out)) : w.heap.size ≤ gb159)); have n5_ := Aside0.mk ((by rw [hg]; exact Nat.ne_of_lt (blk_lt (g := gb158) (o := .cells #[.int .i64 a0_0, .int .i64 a0_1, .slice A0_2 l0_2.length c0_2, .slice A0_3 l0_3.length c0_3] 25 (0, 0)) (kb_ BK158.out)) : gb158 ≠ gb159)); have n6_ := Aside0.mk ((by rw [hg]; exact Nat.ne_of_gt (blk_lt (g := gb158) (o := .cells #[.int .i64 a0_0, .int .i64 a0_1, .slice A0_2 l0_2.length c0_2, .slice A0_3 l0_3.length c0_3] 25 (0, 0)) (kb_ BK158.out)) : gb159 ≠ gb158)); clear BK158; clear HB; have BK158 := n0_; have HB := n1_; have BK159 := n2_; have GW159 := n3_; have GE159 := n4_; have NB158_159 := n5_; have NB159_158 := n6_; clear n0_ n1_ n2_ n3_ n4_ n5_ n6_; clear hb hbox hg; have hnb58 := NB158_159.out; have hnc58 := NB159_158.out; have hcz59_0 : w57.cell? ⟨gb158, 0, none⟩ = some (.int .i64 a0_0) := (blk_cell BK158.out 0).trans rfl; have hcz59_1 : w57.cell? ⟨gb158, 1, none⟩ = some (.int .i64 a0_1) := (blk_cell BK158.out 1).trans rfl; have hcz59_2 : w57.cell? ⟨gb158, 2, none⟩ = some (.slice A0_2 l0_2.length c0_2) := (blk_cell BK158.out 2).trans rfl; have hcz59_3 : w57.cell? ⟨gb158, 3, none⟩ = some (.slice A0_3 l0_3.length c0_3) := (blk_cell BK158.out 3).trans rfl; have hfz59_0 := blk_frozen BK158.out 0; have hfz59_1 := blk_frozen BK158.out 1; have hfz59_2 := blk_frozen BK158.out 2; have hfz59_3 := blk_frozen BK158.out 3) | ((with_reducible refine gate_callee (f := 43) rfl ?_); refine goesL_ (some 9) rfl rfl Try.func43 (by kernel_rfl) rfl #[.agg #[.int .i64 a0_0, .int .i64 a0_1, .slice A0_2 l0_2.length c0_2, .slice A0_3 l0_3.length c0_3]] rfl ar_ ?_; (with_reducible refine (spec_EarOk.calls k a0_0 a0_1 _ _ l0_2 _ _ l0_3 false _ ?side1 ?side2 ?side3 ?side4 A3.out).mono ?_); (case side1 => exact kC_ (Kd.C_below HR0_2.out HB.out)); (case side2 => exact HC0_2.out); (case side3 => exact kC_ (Kd.C_below HR0_3.out HB.out)); (case side4 => exact HC0_3.out); rintro e w60 ⟨rfl, hb⟩; refine ⟨_, rfl, ?_⟩; have n0_ := Aside0.mk (blk_below (g := gb158) (o := .cells #[.int .i64 a0_0, .int .i64 a0_1, .slice A0_2 l0_2.length c0_2, .slice A0_3 l0_3.length c0_3] 25 (0, 0)) (kb_ BK158.out) hb); have n1_ := Aside0.mk (blk_below (g := gb159) (o := .cells #[.int .i64 0, .int .i64 0, .slice none 0 0, .slice none 0 0] 25 (0, 0)) (kb_ BK159.out) hb); have n2_ := Aside0.mk (below_step (hb2_ HB.out GE158.out GE159.out) hb); clear BK158; clear BK159; clear HB; have BK158 := n0_; have BK159 := n1_; have HB := n2_; clear n0_ n1_ n2_; (try clear hb); (try clear hb2); (try clear hk); (try clear hi)) | ((with_reducible refine gate_dst (N := 16) rfl ?_); refine Kd.R_lit (Kd.int .u8) _ 5 ?hg (N := 16) ?hd (xs := ([] : List Int)) (inner := []) (ok := fun _ => True) (okp := fun _ => True) ?hr ?hp (fun _ hk => hk) trivial (Below.refl _ _) (Nat.le_refl _) (by simp) ?_; (case hd => rfl); (case hg => rfl); (case hr => first | (go_simp; done) | (go_simp; rfl)); (case hp => exact (Reps.none _ _)); intro v186 w61 ho62 hb hg_ hnew_; clear hg_ hnew_; (first | rw [← Ny185.out] at ho62 | (simp only [Int.reduceToNat] at ho62; rw [← Ny185.out] at ho62)); have n0_ := Aside0.mk (Kd.R_lower ho62 (below_size (hb2_ HB.out GE158.out GE159.out))); have n1_ := Aside0.mk (blk_below (g := gb158) (o := .cells #[.int .i64 a0_0, .int .i64 a0_1, .slice A0_2 l0_2.length c0_2, .slice A0_3 l0_3.length c0_3] 25 (0, 0)) (kb_ BK158.out) hb); have n2_ := Aside0.mk (blk_below (g := gb159) (o := .cells #[.int .i64 0, .int .i64 0, .slice none 0 0, .slice none 0 0] 25 (0, 0)) (kb_ BK159.out) hb); have n3_ := Aside0.mk (below_step (hb2_ HB.out GE158.out GE159.out) hb); clear BK158; clear BK159; clear HB; have HO187 := n0_; have BK158 := n1_; have BK159 := n2_; have HB := n3_; clear n0_ n1_ n2_ n3_; clear hb ho62; have hcz63_0 : w61.cell? ⟨gb159, 0, none⟩ = some (.int .i64 0) := (blk_cell BK159.out 0).trans rfl; have hcz63_1 : w61.cell? ⟨gb159, 1, none⟩ = some (.int .i64 0) := (blk_cell BK159.out 1).trans rfl; have hcz63_2 : w61.cell? ⟨gb159, 2, none⟩ = some (.slice none 0 0) := (blk_cell BK159.out 2).trans rfl; have hcz63_3 : w61.cell? ⟨gb159, 3, none⟩ = some (.slice none 0 0) := (blk_cell BK159.out 3).trans rfl; have hfz63_0 := blk_frozen BK159.out 0; have hfz63_1 := blk_frozen BK159.out 1; have hfz63_2 := blk_frozen BK159.out 2; have hfz63_3 := blk_frozen BK159.out 3))
    refine bodyPost_ret (results_ct rfl _ _ gb159 25 #[.int .i64 0, .int .i64 0, .slice none 0 0, .slice none 0 0] (0, 0) _ rfl (by refine kb_ ?_; refine blk_put (cs := #[.int .i64 0, .int .i64 0, .slice none 0 0, .slice none 0 0]) ?_ 3 _ rfl; refine kb_ ?_; refine blk_put (cs := #[.int .i64 0, .int .i64 0, .slice none 0 0, .slice none 0 0]) ?_ 2 _ rfl; refine kb_ ?_; refine blk_put (cs := #[.int .i64 0, .int .i64 0, .slice none 0 0, .slice none 0 0]) ?_ 1 _ rfl; refine kb_ ?_; refine blk_put (cs := #[.int .i64 0, .int .i64 0, .slice none 0 0, .slice none 0 0]) ?_ 0 _ rfl; refine kb_ ?_; exact BK159.out) Try.underlying25 rfl (by kernel_rfl)) rfl ?_
    exact ⟨_, _, _, by first | rfl | (simp [errW_none, errW_some] <;> rfl) | (simp [*, errW_none, errW_some] <;> rfl), by first | exact Kd.R_nil _ _ _ _ _ | exact Kd.N_nil _ _ _ _ _ | exact Kd.V_nil _ _ _ _ _ | exact Kd.Q_nil _ _ _ _ _ | exact Kd.S_nil _ _ _ _ _, by first | exact Kd.R_nil _ _ _ _ _ | exact Kd.N_nil _ _ _ _ _ | exact Kd.V_nil _ _ _ _ _ | exact Kd.Q_nil _ _ _ _ _ | exact Kd.S_nil _ _ _ _ _, by refine kR_ ?_; exact Kd.R_mono (Kd.R_f gb159 3 (.slice none 0 0) (Kd.R_f gb159 2 (.slice none 0 0) (Kd.R_f gb159 1 (.int .i64 0) (Kd.R_f gb159 0 (.int .i64 0) (Kd.R_types HO187.out BK159.out (by decide)))))) (fun _ hk => (by simp [Value.ownBlock])), by repeat (first | (with_reducible first | exact HB.out | apply below_alloc | apply pw_below_drewN | apply below_drew1 | refine below_set ?_ GE158.out | refine below_set ?_ GE159.out) | exact HB.out)⟩

end Go.Proofs.Ytjiodkbbmhhccaa.PFnEarRead
