/- Printed by wip/xp/xprint.sh out of the translation, for this claim: what each function answers, as a plain function, and that the machine does just that. No condition. -/
import Derived.Test.YtjiodkbbmhhccabPFnMouthWritex0
import Derived.Test.YtjiodkbbmhhccabPFnMouthWritex2
import Derived.Test.YtjiodkbbmhhccabPFnMouthWritex3
import Derived.Test.YtjiodkbbmhhccabPFnMouthWritex4
import Derived.Test.YtjiodkbbmhhccabPFnMouthWritex6
namespace Go.Proofs.Ytjiodkbbmhhccab.PFnMouthWrite
open Go.RowKit Go.Proofs.YtjiodkbbmhhccabW.PrintWords Go.Proofs.YtjiodkbbmhhccabW.PrintLast Go.Proofs.YtjiodkbbmhhccabW.PrintMore
attribute [local go_sem] max2_int min2_int max_two min_two max_three min_three max_four min_four   -- for this text's walks alone
set_option linter.unusedVariables false
set_option linter.unusedSimpArgs false

/-! ### spec_MouthNext: function 47 -/
def spec_MouthNext.j0 : Nat → Int → Bool → Int → List Int → Int → Int → List (S60) → Option (Int × List Int × Int × Int × (List (S60)) × Int × List Int)
  | 0, _, _, _, _, _, _, _ => none
  | k + 1, x1, x16, x184000, x184001, x184002, x184003, x184004 => if x16 = true then (some (0, ([] : List Int), 0, 0, ([] : List (S60)), 0, (([] : List Int)))) else ((spec_l13Copy.f x184000 x184001 x184002 x184003 x184004).bind fun bt190 => (if (mn (mn (x184001.length : Int) x184003) (wrap64 (x184002 + x1))) ≤ x184002 then (some (bt190.1, bt190.2.1, bt190.2.2.1, bt190.2.2.2.1, bt190.2.2.2.2, wrap64 (x184000 + x184002), (([] : List Int)))) else ((some (([] : List Int) : List Int)).bind fun y203 => (if 0 ≤ x184002 then (if x184002 ≤ (mn (mn (x184001.length : Int) x184003) (wrap64 (x184002 + x1))) then (if (mn (mn (x184001.length : Int) x184003) (wrap64 (x184002 + x1))) ≤ (x184001.length : Int) then (if y203.length + ((x184001.take ((mn (mn (x184001.length : Int) x184003) (wrap64 (x184002 + x1))) : Int).toNat).drop (x184002 : Int).toNat).length < 140737488355328 then (some (bt190.1, bt190.2.1, mn (mn (x184001.length : Int) x184003) (wrap64 (x184002 + x1)), bt190.2.2.2.1, bt190.2.2.2.2, wrap64 (x184000 + x184002), (y203 ++ ((x184001.take ((mn (mn (x184001.length : Int) x184003) (wrap64 (x184002 + x1))) : Int).toNat).drop (x184002 : Int).toNat)))) else (none)) else (none)) else (none)) else (none)))))
def spec_MouthNext.f (k : Nat) (a0_0 : Int) (l0_1 : List Int) (a0_2 : Int) (a0_3 : Int) (l0_4 : List (S60)) (a1 : Int) : Option (Int × List Int × Int × Int × (List (S60)) × Int × List Int) := (spec_MouthOk.f k a0_0 l0_1 a0_2 a0_3 l0_4).bind fun t185 => (if t185 = true then ((spec_l1In.f a1 1 12).bind fun t186 => (spec_MouthNext.j0 k a1 (!t186) a0_0 l0_1 a0_2 a0_3 l0_4)) else (spec_MouthNext.j0 k a1 true a0_0 l0_1 a0_2 a0_3 l0_4))
theorem spec_MouthNext.mono_l : ∀ k, (∀ y0 y1 y2 y3 y4 y5 y6, LeO (spec_MouthNext.j0 k y0 y1 y2 y3 y4 y5 y6) (spec_MouthNext.j0 (k + 1) y0 y1 y2 y3 y4 y5 y6))
  | 0 => fun _ _ _ _ _ _ _ r h => by simp [spec_MouthNext.j0] at h
  | k + 1 => by
    have ih0 := spec_MouthNext.mono_l k
    · intro y0 y1 y2 y3 y4 y5 y6
      unfold spec_MouthNext.j0
      repeat' first
      | (with_reducible exact ih0 _ _ _ _ _ _ _)
      | (with_reducible exact spec_MouthOk.mono _ _ _ _ _ _)
      | (with_reducible exact LeO.refl _)
      | (with_reducible exact LeO.none _)
      | (with_reducible refine LeO.ite ?_ ?_)
      | (with_reducible refine LeO.bind ?_ (fun _ => ?_))
      | exact ih0 _ _ _ _ _ _ _
      | exact spec_MouthOk.mono _ _ _ _ _ _
      | exact LeO.none _
      | refine LeO.ite ?_ ?_
      | refine LeO.bind ?_ (fun _ => ?_)
theorem spec_MouthNext.mono : ∀ a0 a1 a2 a3 a4 a5 k, LeO (spec_MouthNext.f k a0 a1 a2 a3 a4 a5) (spec_MouthNext.f (k + 1) a0 a1 a2 a3 a4 a5) := by
  intro a0 a1 a2 a3 a4 a5 k
  have ih0 := spec_MouthNext.mono_l k
  unfold spec_MouthNext.f
  repeat' first
      | (with_reducible exact ih0 _ _ _ _ _ _ _)
      | (with_reducible exact spec_MouthOk.mono _ _ _ _ _ _)
      | (with_reducible exact LeO.refl _)
      | (with_reducible exact LeO.none _)
      | (with_reducible refine LeO.ite ?_ ?_)
      | (with_reducible refine LeO.bind ?_ (fun _ => ?_))
      | exact ih0 _ _ _ _ _ _ _
      | exact spec_MouthOk.mono _ _ _ _ _ _
      | exact LeO.none _
      | refine LeO.ite ?_ ?_
      | refine LeO.bind ?_ (fun _ => ?_)
def spec_MouthNext.T6 : Bool × List (List Nat × List Nat) := (true, [([], []), ([], []), ([1], [1]), ([], []), ([3], [3]), ([2, 4], [2, 4]), ([], []), ([0, 0], [0]), ([5, 7, 0, 1, 2, 3, 4, 5, 7], [5]), ([6, 8, 0, 1, 2, 3, 4, 5, 6, 7, 8], [6])])
def spec_MouthNext.B6 : List Nat := [0, 0, 2, 0, 8, 30, 0, 1, 191, 511]
theorem spec_MouthNext.tab6 : rtab .any (opsOf Try.f47 6) = spec_MouthNext.T6 := by kernel_rfl
theorem spec_MouthNext.bits6 : waitsOk spec_MouthNext.T6.2 spec_MouthNext.B6 = true := by kernel_rfl
def spec_MouthNext.T8 : Bool × List (List Nat × List Nat) := (true, [([], []), ([], []), ([1], [1]), ([], []), ([3], [3]), ([2, 4], [2, 4]), ([], []), ([], []), ([7], [7]), ([], []), ([9], [9]), ([], []), ([8, 10, 11], [8, 10, 11]), ([6, 12], [6, 12]), ([0, 13, 0], [0]), ([5, 14, 0, 1, 2, 3, 4, 5, 14], [5]), ([13, 15, 0, 1, 2, 3, 4, 5, 6, 7, 8, 9, 10, 11, 12, 13, 14, 15], [13])])
def spec_MouthNext.B8 : List Nat := [0, 0, 2, 0, 8, 30, 0, 0, 128, 0, 512, 0, 3968, 8128, 16321, 32767, 65535]
theorem spec_MouthNext.tab8 : rtab .any (opsOf Try.f47 8) = spec_MouthNext.T8 := by kernel_rfl
theorem spec_MouthNext.bits8 : waitsOk spec_MouthNext.T8.2 spec_MouthNext.B8 = true := by kernel_rfl
set_option maxHeartbeats 8000000 in
set_option maxRecDepth 100000 in
theorem spec_MouthNext.calls (k : Nat) (a0_0 : Int) (A0_1 : Option Addr) (c0_1 : Nat) (l0_1 : List Int) (a0_2 : Int) (a0_3 : Int) (A0_4 : Option Addr) (c0_4 : Nat) (l0_4 : List (S60)) (a1 : Int) (r1 : Int) (r2 : List Int) (r3 : Int) (r4 : Int) (r5 : List (S60)) (r6 : Int) (r7 : List Int) (w : World) (hr0_1 : Kd.C (Kd.int .u8) w A0_1 l0_1.length l0_1) (hc0_1 : l0_1.length ≤ c0_1) (hr0_4 : Kd.C k60 w A0_4 l0_4.length l0_4) (hc0_4 : l0_4.length ≤ c0_4) (h : spec_MouthNext.f k a0_0 l0_1 a0_2 a0_3 l0_4 a1 = some (r1, r2, r3, r4, r5, r6, r7)) :
    Calls Try.prog 47 #[.agg #[.int .i64 a0_0, .slice A0_1 l0_1.length c0_1, .int .i64 a0_2, .int .i64 a0_3, .slice A0_4 l0_4.length c0_4], .int .i64 a1] w fun e w' => ∃ v1_ v4_ v6_ : Value, e = .returned (.tuple #[.agg #[.int .i64 r1, v1_, .int .i64 r3, .int .i64 r4, v4_], .int .i64 r6, v6_]) ∧ Kd.R (Kd.int .u8) 5 w' w.heap.size (fun k_ => some k_ ≠ (v6_ : Value).ownBlock) v1_ r2 ∧ Kd.R k60 60 w' w.heap.size (fun _ => True) v4_ r5 ∧ Kd.R (Kd.int .u8) 5 w' w.heap.size (fun k_ => some k_ ≠ (v1_ : Value).ownBlock) v6_ r7 ∧ Below w.heap.size w w' := by
  have hu25 := Try.underlying25
  have HR0_1 := Aside0.mk hr0_1
  have HC0_1 := Aside0.mk hc0_1
  clear hr0_1 hc0_1
  have HR0_4 := Aside0.mk hr0_4
  have HC0_4 := Aside0.mk hc0_4
  clear hr0_4 hc0_4
  have HB := Aside0.mk (Below.refl w.heap.size w)
  have H : ((spec_MouthOk.f k a0_0 l0_1 a0_2 a0_3 l0_4).bind fun t185 => (if t185 = true then ((spec_l1In.f a1 1 12).bind fun t186 => (spec_MouthNext.j0 k a1 (!t186) a0_0 l0_1 a0_2 a0_3 l0_4)) else (spec_MouthNext.j0 k a1 true a0_0 l0_1 a0_2 a0_3 l0_4))) = some (r1, r2, r3, r4, r5, r6, r7) := h
  clear h
  have HC3 := Aside0.mk H
  clear H
  go_enter Try.func47, Try.ntmps47
  go_upto_region 1 with (first | ((with_reducible refine gate_dst (N := 2) rfl ?_); refine box_event ?hg (N := 2) ?hd (cs := #[.int .i64 a0_0, .slice A0_1 l0_1.length c0_1, .int .i64 a0_2, .int .i64 a0_3, .slice A0_4 l0_4.length c0_4]) (t := 25) ?hr ?_; (case hd => rfl); (case hg => rfl); (case hr => first | (go_simp; done) | (go_simp; rfl)); intro gb183 hg w4 hbox hb; have n0_ := Aside0.mk (below_step (hb0_ HB.out) hb); have n1_ := Aside0.mk (hbox); have n2_ := Aside0.mk ((by rw [hg]; exact (below_size (hb0_ HB.out)) : w.heap.size ≤ gb183)); have n3_ := Aside0.mk ((by rw [hg]; exact (below_size (hb0_ HB.out)) : w.heap.size ≤ gb183)); clear HB; have HB := n0_; have BK183 := n1_; have GW183 := n2_; have GE183 := n3_; clear n0_ n1_ n2_ n3_; clear hb hbox hg) | ((with_reducible refine gate_dst (N := 4) rfl ?_); refine box_event ?hg (N := 4) ?hd (cs := #[.int .i64 0, .slice none 0 0, .int .i64 0, .int .i64 0, .slice none 0 0]) (t := 25) ?hr ?_; (case hd => rfl); (case hg => rfl); (case hr => first | (go_simp; done) | (go_simp; rfl)); intro gb184 hg w5 hbox hb; have n0_ := Aside0.mk (blk_below (g := gb183) (o := .cells #[.int .i64 a0_0, .slice A0_1 l0_1.length c0_1, .int .i64 a0_2, .int .i64 a0_3, .slice A0_4 l0_4.length c0_4] 25 (0, 0)) (kb_ BK183.out) hb); have n1_ := Aside0.mk (below_step (hb1_ HB.out GE183.out) hb); have n2_ := Aside0.mk (hbox); have n3_ := Aside0.mk ((by rw [hg]; exact (below_size (hb1_ HB.out GE183.out)) : w.heap.size ≤ gb184)); have n4_ := Aside0.mk ((by rw [hg]; exact (below_size (hb1_ HB.out GE183.out)) : w.heap.size ≤ gb184)); have n5_ := Aside0.mk ((by rw [hg]; exact Nat.ne_of_lt (blk_lt (g := gb183) (o := .cells #[.int .i64 a0_0, .slice A0_1 l0_1.length c0_1, .int .i64 a0_2, .int .i64 a0_3, .slice A0_4 l0_4.length c0_4] 25 (0, 0)) (kb_ BK183.out)) : gb183 ≠ gb184)); have n6_ := Aside0.mk ((by rw [hg]; exact Nat.ne_of_gt (blk_lt (g := gb183) (o := .cells #[.int .i64 a0_0, .slice A0_1 l0_1.length c0_1, .int .i64 a0_2, .int .i64 a0_3, .slice A0_4 l0_4.length c0_4] 25 (0, 0)) (kb_ BK183.out)) : gb184 ≠ gb183)); clear BK183; clear HB; have BK183 := n0_; have HB := n1_; have BK184 := n2_; have GW184 := n3_; have GE184 := n4_; have NB183_184 := n5_; have NB184_183 := n6_; clear n0_ n1_ n2_ n3_ n4_ n5_ n6_; clear hb hbox hg))
  (try simp only [Act.put, List.setIfInBounds_toArray, List.set_cons_zero, List.set_cons_succ])
  go_cut [16] (fun v16 wc => ∃ (kq : Nat) (x16_2 : Bool), v16 = .bool x16_2 ∧ Aside0 (spec_MouthNext.j0 kq a1 x16_2 a0_0 l0_1 a0_2 a0_3 l0_4 = some (r1, r2, r3, r4, r5, r6, r7)) ∧ Aside0 (kq ≤ k) ∧ Aside0 (wc.heap[gb183]? = some (.cells #[.int .i64 a0_0, (.slice A0_1 l0_1.length c0_1), .int .i64 a0_2, .int .i64 a0_3, (.slice A0_4 l0_4.length c0_4)] 25 (0, 0))) ∧ Aside0 (wc.heap[gb184]? = some (.cells #[.int .i64 0, (.slice none 0 0), .int .i64 0, .int .i64 0, (.slice none 0 0)] 25 (0, 0))) ∧ Aside0 (Below w.heap.size w wc))
  case first =>
    have H := HC3.out
    clear HC3
    replace H := Option.bind_eq_some_iff.mp H
    obtain ⟨t185, A60, H⟩ := H
    replace H : (if t185 = true then ((spec_l1In.f a1 1 12).bind fun t186 => (spec_MouthNext.j0 k a1 (!t186) a0_0 l0_1 a0_2 a0_3 l0_4)) else (spec_MouthNext.j0 k a1 true a0_0 l0_1 a0_2 a0_3 l0_4)) = some (r1, r2, r3, r4, r5, r6, r7) := H
    have A6 := Aside0.mk A60
    clear A60
    by_cases c7 : t185 = true
    · subst c7
      have H1 : ((spec_l1In.f a1 1 12).bind fun t186 => (spec_MouthNext.j0 k a1 (!t186) a0_0 l0_1 a0_2 a0_3 l0_4)) = some (r1, r2, r3, r4, r5, r6, r7) := by rw [if_pos rfl] at H; exact H
      clear H
      have H := H1
      clear H1
      replace H := Option.bind_eq_some_iff.mp H
      obtain ⟨t186, A80, H⟩ := H
      replace H : (spec_MouthNext.j0 k a1 (!t186) a0_0 l0_1 a0_2 a0_3 l0_4) = some (r1, r2, r3, r4, r5, r6, r7) := H
      have A8 := Aside0.mk A80
      clear A80
      have H' := Aside0.mk H
      clear H
      have hnb9 := NB183_184.out
      have hnc9 := NB184_183.out
      have hcz10_0 : w5.cell? ⟨gb183, 0, none⟩ = some (.int .i64 a0_0) := (blk_cell BK183.out 0).trans rfl
      have hcz10_1 : w5.cell? ⟨gb183, 1, none⟩ = some (.slice A0_1 l0_1.length c0_1) := (blk_cell BK183.out 1).trans rfl
      have hcz10_2 : w5.cell? ⟨gb183, 2, none⟩ = some (.int .i64 a0_2) := (blk_cell BK183.out 2).trans rfl
      have hcz10_3 : w5.cell? ⟨gb183, 3, none⟩ = some (.int .i64 a0_3) := (blk_cell BK183.out 3).trans rfl
      have hcz10_4 : w5.cell? ⟨gb183, 4, none⟩ = some (.slice A0_4 l0_4.length c0_4) := (blk_cell BK183.out 4).trans rfl
      have hfz10_0 := blk_frozen BK183.out 0
      have hfz10_1 := blk_frozen BK183.out 1
      have hfz10_2 := blk_frozen BK183.out 2
      have hfz10_3 := blk_frozen BK183.out 3
      have hfz10_4 := blk_frozen BK183.out 4
      go_wp2_with (first | ((with_reducible refine gate_callee (f := 33) rfl ?_); refine goesL_ (some 10) rfl rfl Try.func33 (by kernel_rfl) rfl #[.agg #[.int .i64 a0_0, .slice A0_1 l0_1.length c0_1, .int .i64 a0_2, .int .i64 a0_3, .slice A0_4 l0_4.length c0_4]] rfl ar_ ?_; (with_reducible refine (spec_MouthOk.calls k a0_0 _ _ l0_1 a0_2 a0_3 _ _ l0_4 true _ ?side1 ?side2 ?side3 ?side4 A6.out).mono ?_); (case side1 => exact kC_ (Kd.C_below HR0_1.out HB.out)); (case side2 => exact HC0_1.out); (case side3 => exact kC_ (Kd.C_below HR0_4.out HB.out)); (case side4 => exact HC0_4.out); rintro e w11 ⟨rfl, hb⟩; refine ⟨_, rfl, ?_⟩; have n0_ := Aside0.mk (blk_below (g := gb183) (o := .cells #[.int .i64 a0_0, .slice A0_1 l0_1.length c0_1, .int .i64 a0_2, .int .i64 a0_3, .slice A0_4 l0_4.length c0_4] 25 (0, 0)) (kb_ BK183.out) hb); have n1_ := Aside0.mk (blk_below (g := gb184) (o := .cells #[.int .i64 0, .slice none 0 0, .int .i64 0, .int .i64 0, .slice none 0 0] 25 (0, 0)) (kb_ BK184.out) hb); have n2_ := Aside0.mk (below_step (hb2_ HB.out GE183.out GE184.out) hb); clear BK183; clear BK184; clear HB; have BK183 := n0_; have BK184 := n1_; have HB := n2_; clear n0_ n1_ n2_; (try clear hb); (try clear hb2); (try clear hk); (try clear hi)) | (go_at_call 41; (with_reducible refine (spec_l1In.calls a1 1 12 t186 _ A8.out).mono ?_); rintro e w' ⟨rfl, ⟨nd, rfl⟩⟩))
      go_meet
      case rel => exact ⟨_, (!t186), (by first | rfl | (simp; done) | (simp [*]; done)), H', ⟨by first | omega | exact Nat.le_refl _⟩, ⟨by refine kb_ ?_; exact BK183.out⟩, ⟨by refine kb_ ?_; exact BK184.out⟩, ⟨by repeat (first | (with_reducible first | exact HB.out | apply below_alloc | apply pw_below_drewN | apply below_drew1 | refine below_set ?_ GE183.out | refine below_set ?_ GE184.out) | exact HB.out)⟩⟩
    · replace c7 := Bool.eq_false_iff.mpr c7
      subst c7
      have H1 : (spec_MouthNext.j0 k a1 true a0_0 l0_1 a0_2 a0_3 l0_4) = some (r1, r2, r3, r4, r5, r6, r7) := by rw [if_neg (show ¬ (false = true) by decide)] at H; exact H
      clear H
      have H := H1
      clear H1
      have H' := Aside0.mk H
      clear H
      have hnb12 := NB183_184.out
      have hnc12 := NB184_183.out
      have hcz13_0 : w5.cell? ⟨gb183, 0, none⟩ = some (.int .i64 a0_0) := (blk_cell BK183.out 0).trans rfl
      have hcz13_1 : w5.cell? ⟨gb183, 1, none⟩ = some (.slice A0_1 l0_1.length c0_1) := (blk_cell BK183.out 1).trans rfl
      have hcz13_2 : w5.cell? ⟨gb183, 2, none⟩ = some (.int .i64 a0_2) := (blk_cell BK183.out 2).trans rfl
      have hcz13_3 : w5.cell? ⟨gb183, 3, none⟩ = some (.int .i64 a0_3) := (blk_cell BK183.out 3).trans rfl
      have hcz13_4 : w5.cell? ⟨gb183, 4, none⟩ = some (.slice A0_4 l0_4.length c0_4) := (blk_cell BK183.out 4).trans rfl
      have hfz13_0 := blk_frozen BK183.out 0
      have hfz13_1 := blk_frozen BK183.out 1
      have hfz13_2 := blk_frozen BK183.out 2
      have hfz13_3 := blk_frozen BK183.out 3
      have hfz13_4 := blk_frozen BK183.out 4
      go_wp2_with (first | ((with_reducible refine gate_callee (f := 33) rfl ?_); refine goesL_ (some 10) rfl rfl Try.func33 (by kernel_rfl) rfl #[.agg #[.int .i64 a0_0, .slice A0_1 l0_1.length c0_1, .int .i64 a0_2, .int .i64 a0_3, .slice A0_4 l0_4.length c0_4]] rfl ar_ ?_; (with_reducible refine (spec_MouthOk.calls k a0_0 _ _ l0_1 a0_2 a0_3 _ _ l0_4 false _ ?side1 ?side2 ?side3 ?side4 A6.out).mono ?_); (case side1 => exact kC_ (Kd.C_below HR0_1.out HB.out)); (case side2 => exact HC0_1.out); (case side3 => exact kC_ (Kd.C_below HR0_4.out HB.out)); (case side4 => exact HC0_4.out); rintro e w14 ⟨rfl, hb⟩; refine ⟨_, rfl, ?_⟩; have n0_ := Aside0.mk (blk_below (g := gb183) (o := .cells #[.int .i64 a0_0, .slice A0_1 l0_1.length c0_1, .int .i64 a0_2, .int .i64 a0_3, .slice A0_4 l0_4.length c0_4] 25 (0, 0)) (kb_ BK183.out) hb); have n1_ := Aside0.mk (blk_below (g := gb184) (o := .cells #[.int .i64 0, .slice none 0 0, .int .i64 0, .int .i64 0, .slice none 0 0] 25 (0, 0)) (kb_ BK184.out) hb); have n2_ := Aside0.mk (below_step (hb2_ HB.out GE183.out GE184.out) hb); clear BK183; clear BK184; clear HB; have BK183 := n0_; have BK184 := n1_; have HB := n2_; clear n0_ n1_ n2_; (try clear hb); (try clear hb2); (try clear hk); (try clear hi)))
      go_meet
      case rel => exact ⟨_, (true), (by first | rfl | (simp; done) | (simp [*]; done)), H', ⟨by first | omega | exact Nat.le_refl _⟩, ⟨by refine kb_ ?_; exact BK183.out⟩, ⟨by refine kb_ ?_; exact BK184.out⟩, ⟨by repeat (first | (with_reducible first | exact HB.out | apply below_alloc | apply pw_below_drewN | apply below_drew1 | refine below_set ?_ GE183.out | refine below_set ?_ GE184.out) | exact HB.out)⟩⟩
  case rest =>
    clear HC3
    try clear c1
    try clear p2
    try clear c3
    try clear c4
    try clear c7
    try clear c9
    try clear c12
    try clear hcz10_0
    try clear hcz10_1
    try clear hcz10_2
    try clear hcz10_3
    try clear hcz10_4
    try clear hcz13_0
    try clear hcz13_1
    try clear hcz13_2
    try clear hcz13_3
    try clear hcz13_4
    try clear hfz10_0
    try clear hfz10_1
    try clear hfz10_2
    try clear hfz10_3
    try clear hfz10_4
    try clear hfz13_0
    try clear hfz13_1
    try clear hfz13_2
    try clear hfz13_3
    try clear hfz13_4
    obtain ⟨kq, x16_2, rfl, HA, HJ2, BK183, BK184, HB⟩ := hcut
    cases kq with
    | zero => exact absurd HA.out (by simp [spec_MouthNext.j0])
    | succ kj2 =>
      have H := HA.out
      clear HA
      simp only [spec_MouthNext.j0] at H
      by_cases c15 : x16_2 = true
      · subst c15
        have H1 : (some (0, ([] : List Int), 0, 0, ([] : List (S60)), 0, (([] : List Int)))) = some (r1, r2, r3, r4, r5, r6, r7) := by rw [if_pos rfl] at H; exact H
        clear H
        have H := H1
        clear H1
        obtain ⟨y187, hy187⟩ : ∃ y_ : List Int, y_ = (([] : List Int)) := ⟨_, rfl⟩
        replace H : (some (0, ([] : List Int), 0, 0, ([] : List (S60)), 0, y187)) = some (r1, r2, r3, r4, r5, r6, r7) := by first | (rw [hy187]; with_reducible exact H) | (have H2_ := (Option.bind_some _ _).symm.trans H; rw [hy187]; with_reducible exact H2_) | (have H2_ := (Option.bind_some _ _).symm.trans H; with_reducible exact H2_) | with_reducible exact H | (rw [hy187]; exact H) | exact H
        have Ny187 := Aside0.mk hy187
        clear hy187
        simp only [Option.some.injEq, Prod.mk.injEq] at H
        obtain ⟨rfl, rfl, rfl, rfl, rfl, rfl, rfl⟩ := H
        go_wp2_with (first | ((with_reducible refine gate_dst (N := 18) rfl ?_); refine Kd.R_lit (Kd.int .u8) _ 5 ?hg (N := 18) ?hd (xs := ([] : List Int)) (inner := []) (ok := fun _ => True) (okp := fun _ => True) ?hr ?hp (fun _ hk => hk) trivial (Below.refl _ _) (Nat.le_refl _) (by simp) ?_; (case hd => rfl); (case hg => rfl); (case hr => first | (go_simp; done) | (go_simp; rfl)); (case hp => exact (Reps.none _ _)); intro v188 w16 ho17 hb hg_ hnew_; clear hg_ hnew_; (first | rw [← Ny187.out] at ho17 | (simp only [Int.reduceToNat] at ho17; rw [← Ny187.out] at ho17)); have n0_ := Aside0.mk (Kd.R_lower ho17 (below_size (hb2_ HB.out GE183.out GE184.out))); have n1_ := Aside0.mk (blk_below (g := gb183) (o := .cells #[.int .i64 a0_0, .slice A0_1 l0_1.length c0_1, .int .i64 a0_2, .int .i64 a0_3, .slice A0_4 l0_4.length c0_4] 25 (0, 0)) (kb_ BK183.out) hb); have n2_ := Aside0.mk (blk_below (g := gb184) (o := .cells #[.int .i64 0, .slice none 0 0, .int .i64 0, .int .i64 0, .slice none 0 0] 25 (0, 0)) (kb_ BK184.out) hb); have n3_ := Aside0.mk (below_step (hb2_ HB.out GE183.out GE184.out) hb); clear BK183; clear BK184; clear HB; have HO189 := n0_; have BK183 := n1_; have BK184 := n2_; have HB := n3_; clear n0_ n1_ n2_ n3_; clear hb ho17; have hnb18 := NB184_183.out; have hnc18 := NB183_184.out; have hcz19_0 : w16.cell? ⟨gb184, 0, none⟩ = some (.int .i64 0) := (blk_cell BK184.out 0).trans rfl; have hcz19_1 : w16.cell? ⟨gb184, 1, none⟩ = some (.slice none 0 0) := (blk_cell BK184.out 1).trans rfl; have hcz19_2 : w16.cell? ⟨gb184, 2, none⟩ = some (.int .i64 0) := (blk_cell BK184.out 2).trans rfl; have hcz19_3 : w16.cell? ⟨gb184, 3, none⟩ = some (.int .i64 0) := (blk_cell BK184.out 3).trans rfl; have hcz19_4 : w16.cell? ⟨gb184, 4, none⟩ = some (.slice none 0 0) := (blk_cell BK184.out 4).trans rfl; have hfz19_0 := blk_frozen BK184.out 0; have hfz19_1 := blk_frozen BK184.out 1; have hfz19_2 := blk_frozen BK184.out 2; have hfz19_3 := blk_frozen BK184.out 3; have hfz19_4 := blk_frozen BK184.out 4))
        refine bodyPost_ret (results_ctt rfl _ _ gb184 25 #[.int .i64 0, .slice none 0 0, .int .i64 0, .int .i64 0, .slice none 0 0] (0, 0) _ rfl (by refine kb_ ?_; refine blk_put (cs := #[.int .i64 0, .slice none 0 0, .int .i64 0, .int .i64 0, .slice none 0 0]) ?_ 4 _ rfl; refine kb_ ?_; refine blk_put (cs := #[.int .i64 0, .slice none 0 0, .int .i64 0, .int .i64 0, .slice none 0 0]) ?_ 3 _ rfl; refine kb_ ?_; refine blk_put (cs := #[.int .i64 0, .slice none 0 0, .int .i64 0, .int .i64 0, .slice none 0 0]) ?_ 2 _ rfl; refine kb_ ?_; refine blk_put (cs := #[.int .i64 0, .slice none 0 0, .int .i64 0, .int .i64 0, .slice none 0 0]) ?_ 1 _ rfl; refine kb_ ?_; refine blk_put (cs := #[.int .i64 0, .slice none 0 0, .int .i64 0, .int .i64 0, .slice none 0 0]) ?_ 0 _ rfl; refine kb_ ?_; exact BK184.out) Try.underlying25 rfl (by kernel_rfl)) rfl ?_
        exact ⟨_, _, _, by first | rfl | (simp [errW_none, errW_some] <;> rfl) | (simp [*, errW_none, errW_some] <;> rfl), by first | exact Kd.R_nil _ _ _ _ _ | exact Kd.N_nil _ _ _ _ _ | exact Kd.V_nil _ _ _ _ _ | exact Kd.Q_nil _ _ _ _ _ | exact Kd.S_nil _ _ _ _ _, by first | exact Kd.R_nil _ _ _ _ _ | exact Kd.N_nil _ _ _ _ _ | exact Kd.V_nil _ _ _ _ _ | exact Kd.Q_nil _ _ _ _ _ | exact Kd.S_nil _ _ _ _ _, by refine kR_ ?_; exact Kd.R_mono (Kd.R_f gb184 4 (.slice none 0 0) (Kd.R_f gb184 3 (.int .i64 0) (Kd.R_f gb184 2 (.int .i64 0) (Kd.R_f gb184 1 (.slice none 0 0) (Kd.R_f gb184 0 (.int .i64 0) (Kd.R_types HO189.out BK184.out (by decide))))))) (fun _ hk => (by simp [Value.ownBlock])), by repeat (first | (with_reducible first | exact HB.out | apply below_alloc | apply pw_below_drewN | apply below_drew1 | refine below_set ?_ GE183.out | refine below_set ?_ GE184.out) | exact HB.out)⟩
      · replace c15 := Bool.eq_false_iff.mpr c15
        subst c15
        have H1 : ((spec_l13Copy.f a0_0 l0_1 a0_2 a0_3 l0_4).bind fun bt190 => (if (mn (mn (l0_1.length : Int) a0_3) (wrap64 (a0_2 + a1))) ≤ a0_2 then (some (bt190.1, bt190.2.1, bt190.2.2.1, bt190.2.2.2.1, bt190.2.2.2.2, wrap64 (a0_0 + a0_2), (([] : List Int)))) else ((some (([] : List Int) : List Int)).bind fun y203 => (if 0 ≤ a0_2 then (if a0_2 ≤ (mn (mn (l0_1.length : Int) a0_3) (wrap64 (a0_2 + a1))) then (if (mn (mn (l0_1.length : Int) a0_3) (wrap64 (a0_2 + a1))) ≤ (l0_1.length : Int) then (if y203.length + ((l0_1.take ((mn (mn (l0_1.length : Int) a0_3) (wrap64 (a0_2 + a1))) : Int).toNat).drop (a0_2 : Int).toNat).length < 140737488355328 then (some (bt190.1, bt190.2.1, mn (mn (l0_1.length : Int) a0_3) (wrap64 (a0_2 + a1)), bt190.2.2.2.1, bt190.2.2.2.2, wrap64 (a0_0 + a0_2), (y203 ++ ((l0_1.take ((mn (mn (l0_1.length : Int) a0_3) (wrap64 (a0_2 + a1))) : Int).toNat).drop (a0_2 : Int).toNat)))) else (none)) else (none)) else (none)) else (none))))) = some (r1, r2, r3, r4, r5, r6, r7) := by rw [if_neg (show ¬ (false = true) by decide)] at H; exact H
        clear H
        have H := H1
        clear H1
        replace H := Option.bind_eq_some_iff.mp H
        obtain ⟨⟨t190, t191, t194, t195, t196⟩, A200, H⟩ := H
        replace H : (if (mn (mn (l0_1.length : Int) a0_3) (wrap64 (a0_2 + a1))) ≤ a0_2 then (some (t190, t191, t194, t195, t196, wrap64 (a0_0 + a0_2), (([] : List Int)))) else ((some (([] : List Int) : List Int)).bind fun y203 => (if 0 ≤ a0_2 then (if a0_2 ≤ (mn (mn (l0_1.length : Int) a0_3) (wrap64 (a0_2 + a1))) then (if (mn (mn (l0_1.length : Int) a0_3) (wrap64 (a0_2 + a1))) ≤ (l0_1.length : Int) then (if y203.length + ((l0_1.take ((mn (mn (l0_1.length : Int) a0_3) (wrap64 (a0_2 + a1))) : Int).toNat).drop (a0_2 : Int).toNat).length < 140737488355328 then (some (t190, t191, mn (mn (l0_1.length : Int) a0_3) (wrap64 (a0_2 + a1)), t195, t196, wrap64 (a0_0 + a0_2), (y203 ++ ((l0_1.take ((mn (mn (l0_1.length : Int) a0_3) (wrap64 (a0_2 + a1))) : Int).toNat).drop (a0_2 : Int).toNat)))) else (none)) else (none)) else (none)) else (none)))) = some (r1, r2, r3, r4, r5, r6, r7) := H
        have A20 := Aside0.mk A200
        clear A200
        obtain ⟨ji21, hji21⟩ : ∃ j_ : Int, (mn (l0_1.length : Int) a0_3) = j_ := ⟨_, rfl⟩
        replace H : (if (mn (ji21) (wrap64 (a0_2 + a1))) ≤ a0_2 then (some (t190, t191, t194, t195, t196, wrap64 (a0_0 + a0_2), (([] : List Int)))) else ((some (([] : List Int) : List Int)).bind fun y203 => (if 0 ≤ a0_2 then (if a0_2 ≤ (mn (ji21) (wrap64 (a0_2 + a1))) then (if (mn (ji21) (wrap64 (a0_2 + a1))) ≤ (l0_1.length : Int) then (if y203.length + ((l0_1.take ((mn (ji21) (wrap64 (a0_2 + a1))) : Int).toNat).drop (a0_2 : Int).toNat).length < 140737488355328 then (some (t190, t191, mn (ji21) (wrap64 (a0_2 + a1)), t195, t196, wrap64 (a0_0 + a0_2), (y203 ++ ((l0_1.take ((mn (ji21) (wrap64 (a0_2 + a1))) : Int).toNat).drop (a0_2 : Int).toNat)))) else (none)) else (none)) else (none)) else (none)))) = some (r1, r2, r3, r4, r5, r6, r7) := by first | (rw [hji21] at H; exact H) | (simp only [hji21] at H ⊢; exact H)
        (try rw [hji21] at A20)
        have hji21_ : (if a0_3 < (l0_1.length : Int) then a0_3 else (l0_1.length : Int)) = ji21 := hji21
        obtain ⟨ji22, hji22⟩ : ∃ j_ : Int, (mn (ji21) (wrap64 (a0_2 + a1))) = j_ := ⟨_, rfl⟩
        replace H : (if (ji22) ≤ a0_2 then (some (t190, t191, t194, t195, t196, wrap64 (a0_0 + a0_2), (([] : List Int)))) else ((some (([] : List Int) : List Int)).bind fun y203 => (if 0 ≤ a0_2 then (if a0_2 ≤ (ji22) then (if (ji22) ≤ (l0_1.length : Int) then (if y203.length + ((l0_1.take ((ji22) : Int).toNat).drop (a0_2 : Int).toNat).length < 140737488355328 then (some (t190, t191, ji22, t195, t196, wrap64 (a0_0 + a0_2), (y203 ++ ((l0_1.take ((ji22) : Int).toNat).drop (a0_2 : Int).toNat)))) else (none)) else (none)) else (none)) else (none)))) = some (r1, r2, r3, r4, r5, r6, r7) := by first | (rw [hji22] at H; exact H) | (simp only [hji22] at H ⊢; exact H)
        (try rw [hji22] at A20)
        have hji22_ : (if (wrap64 (a0_2 + a1)) < (ji21) then (wrap64 (a0_2 + a1)) else (ji21)) = ji22 := hji22
        by_cases c23 : (ji22) ≤ a0_2
        · rw [if_pos c23] at H
          have c23b0 : decide ((ji22) ≤ a0_2) = true := decide_eq_true c23
          clear c23
          obtain ⟨y200, hy200⟩ : ∃ y_ : List Int, y_ = (([] : List Int)) := ⟨_, rfl⟩
          replace H : (some (t190, t191, t194, t195, t196, wrap64 (a0_0 + a0_2), y200)) = some (r1, r2, r3, r4, r5, r6, r7) := by first | (rw [hy200]; with_reducible exact H) | (have H2_ := (Option.bind_some _ _).symm.trans H; rw [hy200]; with_reducible exact H2_) | (have H2_ := (Option.bind_some _ _).symm.trans H; with_reducible exact H2_) | with_reducible exact H | (rw [hy200]; exact H) | exact H
          have Ny200 := Aside0.mk hy200
          clear hy200
          simp only [Option.some.injEq, Prod.mk.injEq] at H
          obtain ⟨rfl, rfl, rfl, rfl, rfl, rfl, rfl⟩ := H
          have hnb24 := NB183_184.out
          have hnc24 := NB184_183.out
          have hcz25_0 : wc.cell? ⟨gb183, 0, none⟩ = some (.int .i64 a0_0) := (blk_cell BK183.out 0).trans rfl
          have hcz25_1 : wc.cell? ⟨gb183, 1, none⟩ = some (.slice A0_1 l0_1.length c0_1) := (blk_cell BK183.out 1).trans rfl
          have hcz25_2 : wc.cell? ⟨gb183, 2, none⟩ = some (.int .i64 a0_2) := (blk_cell BK183.out 2).trans rfl
          have hcz25_3 : wc.cell? ⟨gb183, 3, none⟩ = some (.int .i64 a0_3) := (blk_cell BK183.out 3).trans rfl
          have hcz25_4 : wc.cell? ⟨gb183, 4, none⟩ = some (.slice A0_4 l0_4.length c0_4) := (blk_cell BK183.out 4).trans rfl
          have hfz25_0 := blk_frozen BK183.out 0
          have hfz25_1 := blk_frozen BK183.out 1
          have hfz25_2 := blk_frozen BK183.out 2
          have hfz25_3 := blk_frozen BK183.out 3
          have hfz25_4 := blk_frozen BK183.out 4
          try go_wp2_with (first | ((with_reducible refine gate_callee (f := 34) rfl ?_); refine goesL_ (some 20) rfl rfl Try.func34 (by kernel_rfl) rfl #[.agg #[.int .i64 a0_0, .slice A0_1 l0_1.length c0_1, .int .i64 a0_2, .int .i64 a0_3, .slice A0_4 l0_4.length c0_4]] rfl ar_ ?_; (with_reducible refine (spec_l13Copy.calls a0_0 _ _ l0_1 a0_2 a0_3 _ _ l0_4 t190 t191 t194 t195 t196 _ ?side1 ?side2 ?side3 ?side4 A20.out).mono ?_); (case side1 => exact kC_ (Kd.C_below HR0_1.out HB.out)); (case side2 => exact HC0_1.out); (case side3 => exact kC_ (Kd.C_below HR0_4.out HB.out)); (case side4 => exact HC0_4.out); rintro e w26 ⟨v192, v197, rfl, ho0, ho1, hb⟩; refine ⟨_, rfl, ?_⟩; have n0_ := Aside0.mk (Kd.R_lower ho0 (below_size (hb2_ HB.out GE183.out GE184.out))); have n1_ := Aside0.mk (Kd.R_lower ho1 (below_size (hb2_ HB.out GE183.out GE184.out))); have n2_ := Aside0.mk (blk_below (g := gb183) (o := .cells #[.int .i64 a0_0, .slice A0_1 l0_1.length c0_1, .int .i64 a0_2, .int .i64 a0_3, .slice A0_4 l0_4.length c0_4] 25 (0, 0)) (kb_ BK183.out) hb); have n3_ := Aside0.mk (blk_below (g := gb184) (o := .cells #[.int .i64 0, .slice none 0 0, .int .i64 0, .int .i64 0, .slice none 0 0] 25 (0, 0)) (kb_ BK184.out) hb); have n4_ := Aside0.mk (below_step (hb2_ HB.out GE183.out GE184.out) hb); clear BK183; clear BK184; clear HB; have HO193 := n0_; have HO198 := n1_; have BK183 := n2_; have BK184 := n3_; have HB := n4_; clear n0_ n1_ n2_ n3_ n4_; (try clear hb); (try clear hb2); (try clear hk); (try clear hi); (try clear ho0); (try clear ho1)) | ((with_reducible refine gate_dst (N := 7) rfl ?_); refine box_event ?hg (N := 7) ?hd (cs := #[.int .i64 0, .slice none 0 0, .int .i64 0, .int .i64 0, .slice none 0 0]) (t := 25) ?hr ?_; (case hd => rfl); (case hg => rfl); (case hr => first | (go_simp; done) | (go_simp; rfl)); intro gb199 hg w27 hbox hb; have n0_ := Aside0.mk (Kd.R_below (kR_ HO193.out) hb); have n1_ := Aside0.mk (Kd.R_below (kR_ HO198.out) hb); have n2_ := Aside0.mk (blk_below (g := gb183) (o := .cells #[.int .i64 a0_0, .slice A0_1 l0_1.length c0_1, .int .i64 a0_2, .int .i64 a0_3, .slice A0_4 l0_4.length c0_4] 25 (0, 0)) (kb_ BK183.out) hb); have n3_ := Aside0.mk (blk_below (g := gb184) (o := .cells #[.int .i64 0, .slice none 0 0, .int .i64 0, .int .i64 0, .slice none 0 0] 25 (0, 0)) (kb_ BK184.out) hb); have n4_ := Aside0.mk (below_step (hb2_ HB.out GE183.out GE184.out) hb); have n5_ := Aside0.mk (hbox); have n6_ := Aside0.mk ((by rw [hg]; exact (below_size (hb2_ HB.out GE183.out GE184.out)) : w.heap.size ≤ gb199)); have n7_ := Aside0.mk ((by rw [hg]; exact (below_size (hb2_ HB.out GE183.out GE184.out)) : w.heap.size ≤ gb199)); have n8_ := Aside0.mk ((by rw [hg]; exact Nat.ne_of_lt (blk_lt (g := gb183) (o := .cells #[.int .i64 a0_0, .slice A0_1 l0_1.length c0_1, .int .i64 a0_2, .int .i64 a0_3, .slice A0_4 l0_4.length c0_4] 25 (0, 0)) (kb_ BK183.out)) : gb183 ≠ gb199)); have n9_ := Aside0.mk ((by rw [hg]; exact Nat.ne_of_gt (blk_lt (g := gb183) (o := .cells #[.int .i64 a0_0, .slice A0_1 l0_1.length c0_1, .int .i64 a0_2, .int .i64 a0_3, .slice A0_4 l0_4.length c0_4] 25 (0, 0)) (kb_ BK183.out)) : gb199 ≠ gb183)); have n10_ := Aside0.mk ((by rw [hg]; exact Nat.ne_of_lt (blk_lt (g := gb184) (o := .cells #[.int .i64 0, .slice none 0 0, .int .i64 0, .int .i64 0, .slice none 0 0] 25 (0, 0)) (kb_ BK184.out)) : gb184 ≠ gb199)); have n11_ := Aside0.mk ((by rw [hg]; exact Nat.ne_of_gt (blk_lt (g := gb184) (o := .cells #[.int .i64 0, .slice none 0 0, .int .i64 0, .int .i64 0, .slice none 0 0] 25 (0, 0)) (kb_ BK184.out)) : gb199 ≠ gb184)); clear HO193; clear HO198; clear BK183; clear BK184; clear HB; have HO193 := n0_; have HO198 := n1_; have BK183 := n2_; have BK184 := n3_; have HB := n4_; have BK199 := n5_; have GW199 := n6_; have GE199 := n7_; have NB183_199 := n8_; have NB199_183 := n9_; have NB184_199 := n10_; have NB199_184 := n11_; clear n0_ n1_ n2_ n3_ n4_ n5_ n6_ n7_ n8_ n9_ n10_ n11_; clear hb hbox hg; have hnb28 := NB199_183.out; have hnc28 := NB183_199.out; have hnb29 := NB199_184.out; have hnc29 := NB184_199.out; have hcz30_0 : w27.cell? ⟨gb199, 0, none⟩ = some (.int .i64 0) := (blk_cell BK199.out 0).trans rfl; have hcz30_1 : w27.cell? ⟨gb199, 1, none⟩ = some (.slice none 0 0) := (blk_cell BK199.out 1).trans rfl; have hcz30_2 : w27.cell? ⟨gb199, 2, none⟩ = some (.int .i64 0) := (blk_cell BK199.out 2).trans rfl; have hcz30_3 : w27.cell? ⟨gb199, 3, none⟩ = some (.int .i64 0) := (blk_cell BK199.out 3).trans rfl; have hcz30_4 : w27.cell? ⟨gb199, 4, none⟩ = some (.slice none 0 0) := (blk_cell BK199.out 4).trans rfl; have hfz30_0 := blk_frozen BK199.out 0; have hfz30_1 := blk_frozen BK199.out 1; have hfz30_2 := blk_frozen BK199.out 2; have hfz30_3 := blk_frozen BK199.out 3; have hfz30_4 := blk_frozen BK199.out 4; obtain ⟨Ao31, co31, eo31⟩ := Kd.R_slice HO193.out; subst eo31; obtain ⟨Ao32, co32, eo32⟩ := Kd.R_slice HO198.out; subst eo32; have hcz33_0 : w27.cell? ⟨gb183, 0, none⟩ = some (.int .i64 a0_0) := (blk_cell BK183.out 0).trans rfl; have hcz33_1 : w27.cell? ⟨gb183, 1, none⟩ = some (.slice A0_1 l0_1.length c0_1) := (blk_cell BK183.out 1).trans rfl; have hcz33_2 : w27.cell? ⟨gb183, 2, none⟩ = some (.int .i64 a0_2) := (blk_cell BK183.out 2).trans rfl; have hcz33_3 : w27.cell? ⟨gb183, 3, none⟩ = some (.int .i64 a0_3) := (blk_cell BK183.out 3).trans rfl; have hcz33_4 : w27.cell? ⟨gb183, 4, none⟩ = some (.slice A0_4 l0_4.length c0_4) := (blk_cell BK183.out 4).trans rfl; have hfz33_0 := blk_frozen BK183.out 0; have hfz33_1 := blk_frozen BK183.out 1; have hfz33_2 := blk_frozen BK183.out 2; have hfz33_3 := blk_frozen BK183.out 3; have hfz33_4 := blk_frozen BK183.out 4))
          have n0_ : Aside0 (Kd.R (Kd.int .u8) 5 (((((w27.setCell ⟨gb199, 0, none⟩ (.int .i64 t190)).setCell ⟨gb199, 1, none⟩ (.slice Ao31 t191.length co31)).setCell ⟨gb199, 2, none⟩ (.int .i64 t194)).setCell ⟨gb199, 3, none⟩ (.int .i64 t195)).setCell ⟨gb199, 4, none⟩ (.slice Ao32 t196.length co32)) w.heap.size (fun _ => True) (.slice Ao31 t191.length co31) t191) := ⟨by refine kR_ ?_; exact Kd.R_mono (Kd.R_f gb199 4 (.slice Ao32 t196.length co32) (Kd.R_f gb199 3 (.int .i64 t195) (Kd.R_f gb199 2 (.int .i64 t194) (Kd.R_f gb199 1 (.slice Ao31 t191.length co31) (Kd.R_f gb199 0 (.int .i64 t190) (Kd.R_types HO193.out BK199.out (by decide))))))) (fun _ hk => trivial)⟩
          have n1_ : Aside0 (Kd.R k60 60 (((((w27.setCell ⟨gb199, 0, none⟩ (.int .i64 t190)).setCell ⟨gb199, 1, none⟩ (.slice Ao31 t191.length co31)).setCell ⟨gb199, 2, none⟩ (.int .i64 t194)).setCell ⟨gb199, 3, none⟩ (.int .i64 t195)).setCell ⟨gb199, 4, none⟩ (.slice Ao32 t196.length co32)) w.heap.size (fun _ => True) (.slice Ao32 t196.length co32) t196) := ⟨by refine kR_ ?_; exact Kd.R_mono (Kd.R_f gb199 4 (.slice Ao32 t196.length co32) (Kd.R_f gb199 3 (.int .i64 t195) (Kd.R_f gb199 2 (.int .i64 t194) (Kd.R_f gb199 1 (.slice Ao31 t191.length co31) (Kd.R_f gb199 0 (.int .i64 t190) (Kd.R_types HO198.out BK199.out (by decide))))))) (fun _ hk => trivial)⟩
          have n2_ : Aside0 ((((((w27.setCell ⟨gb199, 0, none⟩ (.int .i64 t190)).setCell ⟨gb199, 1, none⟩ (.slice Ao31 t191.length co31)).setCell ⟨gb199, 2, none⟩ (.int .i64 t194)).setCell ⟨gb199, 3, none⟩ (.int .i64 t195)).setCell ⟨gb199, 4, none⟩ (.slice Ao32 t196.length co32)).heap[gb183]? = some (.cells #[.int .i64 a0_0, .slice A0_1 l0_1.length c0_1, .int .i64 a0_2, .int .i64 a0_3, .slice A0_4 l0_4.length c0_4] 25 (0, 0))) := ⟨by refine kb_ ?_; refine blk_far ?_ NB183_199.out _; refine kb_ ?_; refine blk_far ?_ NB183_199.out _; refine kb_ ?_; refine blk_far ?_ NB183_199.out _; refine kb_ ?_; refine blk_far ?_ NB183_199.out _; refine kb_ ?_; refine blk_far ?_ NB183_199.out _; refine kb_ ?_; exact BK183.out⟩
          have n3_ : Aside0 ((((((w27.setCell ⟨gb199, 0, none⟩ (.int .i64 t190)).setCell ⟨gb199, 1, none⟩ (.slice Ao31 t191.length co31)).setCell ⟨gb199, 2, none⟩ (.int .i64 t194)).setCell ⟨gb199, 3, none⟩ (.int .i64 t195)).setCell ⟨gb199, 4, none⟩ (.slice Ao32 t196.length co32)).heap[gb184]? = some (.cells #[.int .i64 0, .slice none 0 0, .int .i64 0, .int .i64 0, .slice none 0 0] 25 (0, 0))) := ⟨by refine kb_ ?_; refine blk_far ?_ NB184_199.out _; refine kb_ ?_; refine blk_far ?_ NB184_199.out _; refine kb_ ?_; refine blk_far ?_ NB184_199.out _; refine kb_ ?_; refine blk_far ?_ NB184_199.out _; refine kb_ ?_; refine blk_far ?_ NB184_199.out _; refine kb_ ?_; exact BK184.out⟩
          have n4_ : Aside0 ((((((w27.setCell ⟨gb199, 0, none⟩ (.int .i64 t190)).setCell ⟨gb199, 1, none⟩ (.slice Ao31 t191.length co31)).setCell ⟨gb199, 2, none⟩ (.int .i64 t194)).setCell ⟨gb199, 3, none⟩ (.int .i64 t195)).setCell ⟨gb199, 4, none⟩ (.slice Ao32 t196.length co32)).heap[gb199]? = some (.cells #[.int .i64 t190, .slice Ao31 t191.length co31, .int .i64 t194, .int .i64 t195, .slice Ao32 t196.length co32] 25 (0, 0))) := ⟨by refine kb_ ?_; refine blk_put (cs := #[.int .i64 t190, .slice Ao31 t191.length co31, .int .i64 t194, .int .i64 t195, .slice none 0 0]) ?_ 4 _ rfl; refine kb_ ?_; refine blk_put (cs := #[.int .i64 t190, .slice Ao31 t191.length co31, .int .i64 t194, .int .i64 0, .slice none 0 0]) ?_ 3 _ rfl; refine kb_ ?_; refine blk_put (cs := #[.int .i64 t190, .slice Ao31 t191.length co31, .int .i64 0, .int .i64 0, .slice none 0 0]) ?_ 2 _ rfl; refine kb_ ?_; refine blk_put (cs := #[.int .i64 t190, .slice none 0 0, .int .i64 0, .int .i64 0, .slice none 0 0]) ?_ 1 _ rfl; refine kb_ ?_; refine blk_put (cs := #[.int .i64 0, .slice none 0 0, .int .i64 0, .int .i64 0, .slice none 0 0]) ?_ 0 _ rfl; refine kb_ ?_; exact BK199.out⟩
          have n5_ : Aside0 (Below w.heap.size w (((((w27.setCell ⟨gb199, 0, none⟩ (.int .i64 t190)).setCell ⟨gb199, 1, none⟩ (.slice Ao31 t191.length co31)).setCell ⟨gb199, 2, none⟩ (.int .i64 t194)).setCell ⟨gb199, 3, none⟩ (.int .i64 t195)).setCell ⟨gb199, 4, none⟩ (.slice Ao32 t196.length co32))) := ⟨by repeat (first | (with_reducible first | exact HB.out | apply below_alloc | apply pw_below_drewN | apply below_drew1 | refine below_set ?_ GE183.out | refine below_set ?_ GE184.out | refine below_set ?_ GE199.out) | exact HB.out)⟩
          (try clear HO193)
          (try clear HO198)
          (try clear BK183)
          (try clear BK184)
          (try clear BK199)
          (try clear HB)
          generalize (((((w27.setCell ⟨gb199, 0, none⟩ (.int .i64 t190)).setCell ⟨gb199, 1, none⟩ (.slice Ao31 t191.length co31)).setCell ⟨gb199, 2, none⟩ (.int .i64 t194)).setCell ⟨gb199, 3, none⟩ (.int .i64 t195)).setCell ⟨gb199, 4, none⟩ (.slice Ao32 t196.length co32)) = w34 at n0_ n1_ n2_ n3_ n4_ n5_ ⊢
          have HO193 := n0_
          have HO198 := n1_
          have BK183 := n2_
          have BK184 := n3_
          have BK199 := n4_
          have HB := n5_
          clear n0_ n1_ n2_ n3_ n4_ n5_
          have n0_ := Aside0.mk (Kd.R_drew HO193.out)
          have n1_ := Aside0.mk (Kd.R_drew HO198.out)
          have n2_ := Aside0.mk (blk_drew BK183.out)
          have n3_ := Aside0.mk (blk_drew BK184.out)
          have n4_ := Aside0.mk (blk_drew BK199.out)
          have n5_ := Aside0.mk (below_drew1 HB.out)
          clear HO193
          clear HO198
          clear BK183
          clear BK184
          clear BK199
          clear HB
          have HO193 := n0_
          have HO198 := n1_
          have BK183 := n2_
          have BK184 := n3_
          have BK199 := n4_
          have HB := n5_
          clear n0_ n1_ n2_ n3_ n4_ n5_
          refine start_ (n := 10) (S := fun w' => True) (ds := []) #[false, false, false, false, false, false, false, false, false, false] (by kernel_rfl) rfl rfl trivial (fun hHeld => ?_); refine with_tabW spec_MouthNext.tab6 spec_MouthNext.bits6 (fun HT_ HW_ => ?_)
          generalize w34.drew = w35 at HO193 HO198 BK183 BK184 BK199 HB hHeld ⊢
          refine pu_ (i := 1) (N := some 36) HT_ ?_
          refine pu_ (i := 3) (N := some 38) HT_ ?_
          refine inv_at [0, 2, 4, 5, 6, 7, 8, 9] (fun a0_ b a w' => ∃ (v201 : Value) (m9_ : Value), a = putSel a0_ b [(0, 35, .agg #[.int .i64 t190, .slice Ao31 t191.length co31, .int .i64 t194, .int .i64 t195, .slice Ao32 t196.length co32]), (2, 37, .int .i64 a0_0), (4, 39, .int .i64 a0_2), (5, 40, .int .i64 (wrap64 (a0_0 + a0_2))), (6, 41, v201), (8, 5, .int .i64 (wrap64 (a0_0 + a0_2))), (9, 6, m9_)] ∧ (Kd.R (Kd.int .u8) 5 w' w.heap.size (fun _ => True) (.slice Ao31 t191.length co31) t191) ∧ (Kd.R k60 60 w' w.heap.size (fun _ => True) (.slice Ao32 t196.length co32) t196) ∧ (w'.heap[gb183]? = some (.cells #[.int .i64 a0_0, .slice A0_1 l0_1.length c0_1, .int .i64 a0_2, .int .i64 a0_3, .slice A0_4 l0_4.length c0_4] 25 (0, 0))) ∧ (b 7 = false → w'.heap[gb184]? = some (.cells #[.int .i64 0, .slice none 0 0, .int .i64 0, .int .i64 0, .slice none 0 0] 25 (0, 0))) ∧ (w'.heap[gb199]? = some (.cells #[.int .i64 t190, .slice Ao31 t191.length co31, .int .i64 t194, .int .i64 t195, .slice Ao32 t196.length co32] 25 (0, 0))) ∧ (Below w.heap.size w w') ∧ (b 6 = true → Kd.R (Kd.int .u8) 5 w' w.heap.size (fun k_ => some k_ ≠ (.slice Ao31 t191.length co31 : Value).ownBlock) v201 y200) ∧ (b 7 = true → w'.heap[gb184]? = some (.cells #[.int .i64 t190, .slice Ao31 t191.length co31, .int .i64 t194, .int .i64 t195, .slice Ao32 t196.length co32] 25 (0, 0))) ∧ (b 9 = true → (m9_ : Value) = v201)) HT_.out HW_.out (by kernel_rfl) (by kernel_rfl) ?_ ?_ ?_
          · exact ⟨.bool false, .bool false, by simp only [putSel, Bool.false_eq_true, if_false], HO193.out, HO198.out, BK183.out, fun _ => BK184.out, BK199.out, HB.out, fun h_ => absurd h_ (by decide), fun h_ => absurd h_ (by decide), fun h_ => absurd h_ (by decide)⟩
          · skip
            clear BK183 BK184 BK199 HB HO193 HO198
            refine steps_cons ?_ ?_
            · rintro b a w' ⟨v201, m9_, ha, Q_HO193, Q_HO198, Q_BK183, Q_BK184, Q_BK199, Q_HB, Q_HO202, Q_BK184_e7, Q_X9_⟩ hb_ hon hoff
              refine ⟨_, rfl, fun K hK => ?_⟩
              have e7 : a.tmps[7]? = some (.pointer (some ⟨gb199, 0, none⟩)) := by rw [ha]; exact (putSel_off rfl).trans rfl
              replace ha := Aside0.mk ha
              have HO193 := Aside0.mk Q_HO193
              have HO198 := Aside0.mk Q_HO198
              have BK183 := Aside0.mk Q_BK183
              have BK184 := Aside0.mk (Q_BK184 (hoff 7 (by kernel_rfl)))
              have BK199 := Aside0.mk Q_BK199
              have HB := Aside0.mk Q_HB
              have hc0_ : w'.cell? ⟨gb199, 0, none⟩ = some (.int .i64 t190) := (blk_cell BK199.out 0).trans rfl
              have hc1_ : w'.cell? ⟨gb199, 1, none⟩ = some (.slice Ao31 t191.length co31) := (blk_cell BK199.out 1).trans rfl
              have hc2_ : w'.cell? ⟨gb199, 2, none⟩ = some (.int .i64 t194) := (blk_cell BK199.out 2).trans rfl
              have hc3_ : w'.cell? ⟨gb199, 3, none⟩ = some (.int .i64 t195) := (blk_cell BK199.out 3).trans rfl
              have hc4_ : w'.cell? ⟨gb199, 4, none⟩ = some (.slice Ao32 t196.length co32) := (blk_cell BK199.out 4).trans rfl
              refine value_ (w1 := w') (v := .agg #[.int .i64 t190, .slice Ao31 t191.length co31, .int .i64 t194, .int .i64 t195, .slice Ao32 t196.length co32]) (by rfl) rfl ?_ ?_
              · go_simp
                (try simp only [i64_w])
                try rfl
              refine hK.out _ _ ⟨v201, m9_, (by rw [ha.out]; exact putSel_upk 0 hb_ rfl rfl rfl), Q_HO193, Q_HO198, Q_BK183, Q_BK184, Q_BK199, Q_HB, Q_HO202, fun h0_ => absurd ((hoff 7 (by kernel_rfl)).symm.trans h0_) (by decide), fun h0_ => absurd ((hoff 9 (by kernel_rfl)).symm.trans h0_) (by decide)⟩
            refine steps_cons ?_ ?_
            · rintro b a w' ⟨v201, m9_, ha, Q_HO193, Q_HO198, Q_BK183, Q_BK184, Q_BK199, Q_HB, Q_HO202, Q_BK184_e7, Q_X9_⟩ hb_ hon hoff
              refine ⟨_, rfl, fun K hK => ?_⟩
              have e36 : a.tmps[36]? = some (.pointer (some ⟨gb183, 0, none⟩)) := by rw [ha]; exact (putSel_off rfl).trans rfl
              replace ha := Aside0.mk ha
              have HO193 := Aside0.mk Q_HO193
              have HO198 := Aside0.mk Q_HO198
              have BK183 := Aside0.mk Q_BK183
              have BK199 := Aside0.mk Q_BK199
              have HB := Aside0.mk Q_HB
              have hc0_ : w'.cell? ⟨gb183, 0, none⟩ = some (.int .i64 a0_0) := (blk_cell BK183.out 0).trans rfl
              have hc1_ : w'.cell? ⟨gb183, 1, none⟩ = some (.slice A0_1 l0_1.length c0_1) := (blk_cell BK183.out 1).trans rfl
              have hc2_ : w'.cell? ⟨gb183, 2, none⟩ = some (.int .i64 a0_2) := (blk_cell BK183.out 2).trans rfl
              have hc3_ : w'.cell? ⟨gb183, 3, none⟩ = some (.int .i64 a0_3) := (blk_cell BK183.out 3).trans rfl
              have hc4_ : w'.cell? ⟨gb183, 4, none⟩ = some (.slice A0_4 l0_4.length c0_4) := (blk_cell BK183.out 4).trans rfl
              refine value_ (w1 := w') (v := .int .i64 a0_0) (by rfl) rfl ?_ ?_
              · go_simp
                (try simp only [i64_w])
                try rfl
              refine hK.out _ _ ⟨v201, m9_, (by rw [ha.out]; exact putSel_upk 1 hb_ rfl rfl rfl), Q_HO193, Q_HO198, Q_BK183, Q_BK184, Q_BK199, Q_HB, Q_HO202, Q_BK184_e7, fun h0_ => absurd ((hoff 9 (by kernel_rfl)).symm.trans h0_) (by decide)⟩
            refine steps_cons ?_ ?_
            · rintro b a w' ⟨v201, m9_, ha, Q_HO193, Q_HO198, Q_BK183, Q_BK184, Q_BK199, Q_HB, Q_HO202, Q_BK184_e7, Q_X9_⟩ hb_ hon hoff
              refine ⟨_, rfl, fun K hK => ?_⟩
              have e38 : a.tmps[38]? = some (.pointer (some ⟨gb183, 2, none⟩)) := by rw [ha]; exact (putSel_off rfl).trans rfl
              replace ha := Aside0.mk ha
              have HO193 := Aside0.mk Q_HO193
              have HO198 := Aside0.mk Q_HO198
              have BK183 := Aside0.mk Q_BK183
              have BK199 := Aside0.mk Q_BK199
              have HB := Aside0.mk Q_HB
              have hc0_ : w'.cell? ⟨gb183, 0, none⟩ = some (.int .i64 a0_0) := (blk_cell BK183.out 0).trans rfl
              have hc1_ : w'.cell? ⟨gb183, 1, none⟩ = some (.slice A0_1 l0_1.length c0_1) := (blk_cell BK183.out 1).trans rfl
              have hc2_ : w'.cell? ⟨gb183, 2, none⟩ = some (.int .i64 a0_2) := (blk_cell BK183.out 2).trans rfl
              have hc3_ : w'.cell? ⟨gb183, 3, none⟩ = some (.int .i64 a0_3) := (blk_cell BK183.out 3).trans rfl
              have hc4_ : w'.cell? ⟨gb183, 4, none⟩ = some (.slice A0_4 l0_4.length c0_4) := (blk_cell BK183.out 4).trans rfl
              refine value_ (w1 := w') (v := .int .i64 a0_2) (by rfl) rfl ?_ ?_
              · go_simp
                (try simp only [i64_w])
                try rfl
              refine hK.out _ _ ⟨v201, m9_, (by rw [ha.out]; exact putSel_upk 2 hb_ rfl rfl rfl), Q_HO193, Q_HO198, Q_BK183, Q_BK184, Q_BK199, Q_HB, Q_HO202, Q_BK184_e7, fun h0_ => absurd ((hoff 9 (by kernel_rfl)).symm.trans h0_) (by decide)⟩
            refine steps_cons ?_ ?_
            · rintro b a w' ⟨v201, m9_, ha, Q_HO193, Q_HO198, Q_BK183, Q_BK184, Q_BK199, Q_HB, Q_HO202, Q_BK184_e7, Q_X9_⟩ hb_ hon hoff
              refine ⟨_, rfl, fun K hK => ?_⟩
              have e37 : a.tmps[37]? = some (.int .i64 a0_0) := by rw [ha]; exact putSel_on (e := (2, 37, .int .i64 a0_0)) 1 rfl rfl (hon 2 (by kernel_rfl)) rfl
              have e39 : a.tmps[39]? = some (.int .i64 a0_2) := by rw [ha]; exact putSel_on (e := (4, 39, .int .i64 a0_2)) 2 rfl rfl (hon 4 (by kernel_rfl)) rfl
              replace ha := Aside0.mk ha
              have HO193 := Aside0.mk Q_HO193
              have HO198 := Aside0.mk Q_HO198
              have BK183 := Aside0.mk Q_BK183
              have BK199 := Aside0.mk Q_BK199
              have HB := Aside0.mk Q_HB
              refine value_ (w1 := w') (v := .int .i64 (wrap64 (a0_0 + a0_2))) (by rfl) rfl ?_ ?_
              · go_simp
                (try simp only [i64_w])
                try rfl
              refine hK.out _ _ ⟨v201, m9_, (by rw [ha.out]; exact putSel_upk 3 hb_ rfl rfl rfl), Q_HO193, Q_HO198, Q_BK183, Q_BK184, Q_BK199, Q_HB, Q_HO202, Q_BK184_e7, fun h0_ => absurd ((hoff 9 (by kernel_rfl)).symm.trans h0_) (by decide)⟩
            refine steps_cons ?_ ?_
            · rintro b a w' ⟨v201, m9_, ha, Q_HO193, Q_HO198, Q_BK183, Q_BK184, Q_BK199, Q_HB, Q_HO202, Q_BK184_e7, Q_X9_⟩ hb_ hon hoff
              refine ⟨_, rfl, fun K hK => ?_⟩
              replace ha := Aside0.mk ha
              have HO193 := Aside0.mk Q_HO193
              have HO198 := Aside0.mk Q_HO198
              have BK183 := Aside0.mk Q_BK183
              have BK199 := Aside0.mk Q_BK199
              have HB := Aside0.mk Q_HB
              refine Kd.R_lit_step (Kd.int .u8) _ 5 ?hg (N := 41) ?hd (xs := ([] : List Int)) (inner := []) (ok := fun _ => True) (okp := fun _ => True) ?hr ?hp (fun _ hk => hk) trivial (Below.refl _ _) (Nat.le_refl _) (by simp) ?_; (case hd => rfl); (case hg => rfl); (case hr => first | (go_simp; done) | (go_simp; rfl)); (case hp => exact (Reps.none _ _))
              intro v201 w36 ho37 hb hg_ hnew_
              clear hg_ hnew_
              (first | rw [← Ny200.out] at ho37 | (simp only [Int.reduceToNat] at ho37; rw [← Ny200.out] at ho37))
              have n0_ := Aside0.mk (Kd.R_elder' (kR_ HO193.out) (Kd.R_base ho37) hb)
              have n1_ := Aside0.mk (Kd.R_below (kR_ HO198.out) hb)
              have n2_ := Aside0.mk (Kd.R_lower (Kd.R_new' ho37 (Kd.R_lt (kR_ HO193.out))) (below_size (hb3_ HB.out GE183.out GE184.out GE199.out)))
              have n3_ := Aside0.mk (blk_below (g := gb183) (o := .cells #[.int .i64 a0_0, .slice A0_1 l0_1.length c0_1, .int .i64 a0_2, .int .i64 a0_3, .slice A0_4 l0_4.length c0_4] 25 (0, 0)) (kb_ BK183.out) hb)
              have n5_ := Aside0.mk (blk_below (g := gb199) (o := .cells #[.int .i64 t190, .slice Ao31 t191.length co31, .int .i64 t194, .int .i64 t195, .slice Ao32 t196.length co32] 25 (0, 0)) (kb_ BK199.out) hb)
              have n6_ := Aside0.mk (below_step (hb3_ HB.out GE183.out GE184.out GE199.out) hb)
              have z_BK184 := fun (h0_ : b 7 = false) => (show w36.heap[gb184]? = some (.cells #[.int .i64 0, .slice none 0 0, .int .i64 0, .int .i64 0, .slice none 0 0] 25 (0, 0)) from by first | exact (blk_below (g := gb184) (o := .cells #[.int .i64 0, .slice none 0 0, .int .i64 0, .int .i64 0, .slice none 0 0] 25 (0, 0)) (by refine kb_ ?_; exact (Q_BK184 h0_)) hb))
              have z_BK184_e7 := fun (h0_ : b 7 = true) => (show w36.heap[gb184]? = some (.cells #[.int .i64 t190, .slice Ao31 t191.length co31, .int .i64 t194, .int .i64 t195, .slice Ao32 t196.length co32] 25 (0, 0)) from by first | exact (blk_below (g := gb184) (o := .cells #[.int .i64 t190, .slice Ao31 t191.length co31, .int .i64 t194, .int .i64 t195, .slice Ao32 t196.length co32] 25 (0, 0)) (by refine kb_ ?_; exact (Q_BK184_e7 h0_)) hb))
              clear HO193
              clear HO198
              clear BK183
              clear BK199
              clear HB
              have HO193 := n0_
              have HO198 := n1_
              have HO202 := n2_
              have BK183 := n3_
              have BK199 := n5_
              have HB := n6_
              clear n0_ n1_ n2_ n3_ n5_ n6_
              clear hb ho37
              refine hK.out _ _ ⟨v201, m9_, (by rw [ha.out]; exact putSel_upk 4 hb_ rfl rfl rfl), (by refine kR_ ?_; first | exact Kd.R_mono HO193.out (fun _ hk => hk.2) | exact Kd.R_mono HO193.out (fun _ _ => trivial)), (kR_ HO198.out), (kb_ BK183.out), z_BK184, (kb_ BK199.out), (hb3_ HB.out GE183.out GE184.out GE199.out), fun _ => (by refine kR_ ?_; first | exact Kd.R_mono HO202.out (fun _ hk => hk.2) | exact Kd.R_mono HO202.out (fun _ _ => trivial)), z_BK184_e7, fun h0_ => absurd ((hoff 9 (by kernel_rfl)).symm.trans h0_) (by decide)⟩
            refine steps_cons ?_ ?_
            · rintro b a w' ⟨v201, m9_, ha, Q_HO193, Q_HO198, Q_BK183, Q_BK184, Q_BK199, Q_HB, Q_HO202, Q_BK184_e7, Q_X9_⟩ hb_ hon hoff
              refine ⟨_, rfl, fun K hK => ?_⟩
              have e4 : a.tmps[4]? = some (.pointer (some ⟨gb184, 0, none⟩)) := by rw [ha]; exact (putSel_off rfl).trans rfl
              have e35 : a.tmps[35]? = some (.agg #[.int .i64 t190, .slice Ao31 t191.length co31, .int .i64 t194, .int .i64 t195, .slice Ao32 t196.length co32]) := by rw [ha]; exact putSel_on (e := (0, 35, .agg #[.int .i64 t190, .slice Ao31 t191.length co31, .int .i64 t194, .int .i64 t195, .slice Ao32 t196.length co32])) 0 rfl rfl (hon 0 (by kernel_rfl)) rfl
              replace ha := Aside0.mk ha
              have HO193 := Aside0.mk Q_HO193
              have HO198 := Aside0.mk Q_HO198
              have BK183 := Aside0.mk Q_BK183
              have BK184 := Aside0.mk (Q_BK184 hb_)
              have BK199 := Aside0.mk Q_BK199
              have HB := Aside0.mk Q_HB
              have hs36 : w'.cell? ⟨gb184, 0, none⟩ = some (.int .i64 0) := (blk_cell BK184.out 0).trans rfl
              have hfs36 := blk_frozen BK184.out 0
              have hns36_0 := NB183_184.out
              have hns36_2 := NB199_184.out
              have hms36_0 := NB184_183.out
              have hms36_2 := NB184_199.out
              have hs37 : w'.cell? ⟨gb184, 1, none⟩ = some (.slice none 0 0) := (blk_cell BK184.out 1).trans rfl
              have hfs37 := blk_frozen BK184.out 1
              have hns37_0 := NB183_184.out
              have hns37_2 := NB199_184.out
              have hms37_0 := NB184_183.out
              have hms37_2 := NB184_199.out
              have hs38 : w'.cell? ⟨gb184, 2, none⟩ = some (.int .i64 0) := (blk_cell BK184.out 2).trans rfl
              have hfs38 := blk_frozen BK184.out 2
              have hns38_0 := NB183_184.out
              have hns38_2 := NB199_184.out
              have hms38_0 := NB184_183.out
              have hms38_2 := NB184_199.out
              have hs39 : w'.cell? ⟨gb184, 3, none⟩ = some (.int .i64 0) := (blk_cell BK184.out 3).trans rfl
              have hfs39 := blk_frozen BK184.out 3
              have hns39_0 := NB183_184.out
              have hns39_2 := NB199_184.out
              have hms39_0 := NB184_183.out
              have hms39_2 := NB184_199.out
              have hs40 : w'.cell? ⟨gb184, 4, none⟩ = some (.slice none 0 0) := (blk_cell BK184.out 4).trans rfl
              have hfs40 := blk_frozen BK184.out 4
              have hns40_0 := NB183_184.out
              have hns40_2 := NB199_184.out
              have hms40_0 := NB184_183.out
              have hms40_2 := NB184_199.out
              refine skip_ (w1 := ?_) (by rfl) rfl ?_ ?_
              rotate_left
              · go_simp
                rfl
              refine hK.out _ _ ⟨v201, m9_, (by rw [ha.out]; exact putSel_none (v := undef) rfl), (by refine kR_ ?_; exact Kd.R_mono (Kd.R_f gb184 4 (.slice Ao32 t196.length co32) (Kd.R_f gb184 3 (.int .i64 t195) (Kd.R_f gb184 2 (.int .i64 t194) (Kd.R_f gb184 1 (.slice Ao31 t191.length co31) (Kd.R_f gb184 0 (.int .i64 t190) (Kd.R_types HO193.out BK184.out (by decide))))))) (fun _ hk => trivial)), (by refine kR_ ?_; exact Kd.R_mono (Kd.R_f gb184 4 (.slice Ao32 t196.length co32) (Kd.R_f gb184 3 (.int .i64 t195) (Kd.R_f gb184 2 (.int .i64 t194) (Kd.R_f gb184 1 (.slice Ao31 t191.length co31) (Kd.R_f gb184 0 (.int .i64 t190) (Kd.R_types HO198.out BK184.out (by decide))))))) (fun _ hk => trivial)), (by refine kb_ ?_; refine blk_far ?_ NB183_184.out _; refine kb_ ?_; refine blk_far ?_ NB183_184.out _; refine kb_ ?_; refine blk_far ?_ NB183_184.out _; refine kb_ ?_; refine blk_far ?_ NB183_184.out _; refine kb_ ?_; refine blk_far ?_ NB183_184.out _; refine kb_ ?_; exact BK183.out), fun h0_ => absurd ((up_self b 7).symm.trans h0_) (by decide), (by refine kb_ ?_; refine blk_far ?_ NB199_184.out _; refine kb_ ?_; refine blk_far ?_ NB199_184.out _; refine kb_ ?_; refine blk_far ?_ NB199_184.out _; refine kb_ ?_; refine blk_far ?_ NB199_184.out _; refine kb_ ?_; refine blk_far ?_ NB199_184.out _; refine kb_ ?_; exact BK199.out), (hb3_ HB.out GE183.out GE184.out GE199.out), fun h0_ => (by refine kR_ ?_; exact Kd.R_mono (Kd.R_f gb184 4 (.slice Ao32 t196.length co32) (Kd.R_f gb184 3 (.int .i64 t195) (Kd.R_f gb184 2 (.int .i64 t194) (Kd.R_f gb184 1 (.slice Ao31 t191.length co31) (Kd.R_f gb184 0 (.int .i64 t190) (Kd.R_types (Q_HO202 h0_) BK184.out (by decide))))))) (fun _ hk => hk.1)), fun _ => (by refine kb_ ?_; refine blk_put (cs := #[.int .i64 t190, .slice Ao31 t191.length co31, .int .i64 t194, .int .i64 t195, .slice none 0 0]) ?_ 4 _ rfl; refine kb_ ?_; refine blk_put (cs := #[.int .i64 t190, .slice Ao31 t191.length co31, .int .i64 t194, .int .i64 0, .slice none 0 0]) ?_ 3 _ rfl; refine kb_ ?_; refine blk_put (cs := #[.int .i64 t190, .slice Ao31 t191.length co31, .int .i64 0, .int .i64 0, .slice none 0 0]) ?_ 2 _ rfl; refine kb_ ?_; refine blk_put (cs := #[.int .i64 t190, .slice none 0 0, .int .i64 0, .int .i64 0, .slice none 0 0]) ?_ 1 _ rfl; refine kb_ ?_; refine blk_put (cs := #[.int .i64 0, .slice none 0 0, .int .i64 0, .int .i64 0, .slice none 0 0]) ?_ 0 _ rfl; refine kb_ ?_; exact BK184.out), fun h0_ => absurd ((hoff 9 (by kernel_rfl)).symm.trans h0_) (by decide)⟩
            refine steps_cons ?_ ?_
            · rintro b a w' ⟨v201, m9_, ha, Q_HO193, Q_HO198, Q_BK183, Q_BK184, Q_BK199, Q_HB, Q_HO202, Q_BK184_e7, Q_X9_⟩ hb_ hon hoff
              refine ⟨_, rfl, fun K hK => ?_⟩
              have e40 : a.tmps[40]? = some (.int .i64 (wrap64 (a0_0 + a0_2))) := by rw [ha]; exact putSel_on (e := (5, 40, .int .i64 (wrap64 (a0_0 + a0_2)))) 3 rfl rfl (hon 5 (by kernel_rfl)) rfl
              replace ha := Aside0.mk ha
              have HO193 := Aside0.mk Q_HO193
              have HO198 := Aside0.mk Q_HO198
              have BK183 := Aside0.mk Q_BK183
              have BK199 := Aside0.mk Q_BK199
              have HB := Aside0.mk Q_HB
              have BK184 := Aside0.mk (Q_BK184_e7 (hon 7 (by kernel_rfl)))
              refine value_ (w1 := w') (v := .int .i64 (wrap64 (a0_0 + a0_2))) (by rfl) rfl ?_ ?_
              · go_simp
                (try simp only [i64_w])
                try rfl
              refine hK.out _ _ ⟨v201, m9_, (by rw [ha.out]; exact putSel_upk 5 hb_ rfl rfl rfl), Q_HO193, Q_HO198, Q_BK183, fun h0_ => absurd ((hon 7 (by kernel_rfl)).symm.trans h0_) (by decide), Q_BK199, Q_HB, Q_HO202, Q_BK184_e7, fun h0_ => absurd ((hoff 9 (by kernel_rfl)).symm.trans h0_) (by decide)⟩
            refine steps_cons ?_ ?_
            · rintro b a w' ⟨v201, m9_, ha, Q_HO193, Q_HO198, Q_BK183, Q_BK184, Q_BK199, Q_HB, Q_HO202, Q_BK184_e7, Q_X9_⟩ hb_ hon hoff
              refine ⟨_, rfl, fun K hK => ?_⟩
              have e41 : a.tmps[41]? = some (v201) := by rw [ha]; exact putSel_on (e := (6, 41, v201)) 4 rfl rfl (hon 6 (by kernel_rfl)) rfl
              replace ha := Aside0.mk ha
              have HO193 := Aside0.mk Q_HO193
              have HO198 := Aside0.mk Q_HO198
              have BK183 := Aside0.mk Q_BK183
              have BK199 := Aside0.mk Q_BK199
              have HB := Aside0.mk Q_HB
              have HO202 := Aside0.mk (Q_HO202 (hon 6 (by kernel_rfl)))
              have BK184 := Aside0.mk (Q_BK184_e7 (hon 7 (by kernel_rfl)))
              refine value_ (w1 := w') (v := v201) (by rfl) rfl ?_ ?_
              · go_simp
                (try simp only [i64_w])
                try rfl
              refine hK.out _ _ ⟨v201, (v201), (by rw [ha.out]; exact putSel_upk 6 hb_ rfl rfl rfl), Q_HO193, Q_HO198, Q_BK183, fun h0_ => absurd ((hon 7 (by kernel_rfl)).symm.trans h0_) (by decide), Q_BK199, Q_HB, Q_HO202, Q_BK184_e7, fun _ => rfl⟩
            exact steps_nil
          rintro b a w43 hall ⟨v201, m9_, ha, Q_HO193, Q_HO198, Q_BK183, Q_BK184, Q_BK199, Q_HB, Q_HO202, Q_BK184_e7, Q_X9_⟩
          clear BK183 BK184 BK199 HB HO193 HO198
          have hb0_ := hall 0 (by kernel_rfl)
          have hb2_ := hall 2 (by kernel_rfl)
          have hb4_ := hall 4 (by kernel_rfl)
          have hb5_ := hall 5 (by kernel_rfl)
          have hb6_ := hall 6 (by kernel_rfl)
          have hb7_ := hall 7 (by kernel_rfl)
          have hb8_ := hall 8 (by kernel_rfl)
          have hb9_ := hall 9 (by kernel_rfl)
          subst ha
          obtain rfl := Q_X9_ hb9_
          simp only [putSel, hb0_, hb2_, hb4_, hb5_, hb6_, hb7_, hb8_, hb9_, if_true, Act.put, List.setIfInBounds_toArray, List.set_cons_zero, List.set_cons_succ]
          have HO193 := Aside0.mk Q_HO193
          clear Q_HO193
          have HO198 := Aside0.mk Q_HO198
          clear Q_HO198
          have BK183 := Aside0.mk Q_BK183
          clear Q_BK183
          clear Q_BK184
          have BK199 := Aside0.mk Q_BK199
          clear Q_BK199
          have HB := Aside0.mk Q_HB
          clear Q_HB
          have HO202 := Aside0.mk (Q_HO202 hb6_)
          clear Q_HO202
          have BK184 := Aside0.mk (Q_BK184_e7 hb7_)
          clear Q_BK184_e7
          clear hall hb0_ hb2_ hb4_ hb5_ hb6_ hb7_ hb8_ hb9_
          try go_wp2
          refine bodyPost_ret (results_ctt rfl _ _ gb184 25 #[.int .i64 t190, .slice Ao31 t191.length co31, .int .i64 t194, .int .i64 t195, .slice Ao32 t196.length co32] (0, 0) _ rfl (kb_ BK184.out) Try.underlying25 rfl (by kernel_rfl)) rfl ?_
          exact ⟨_, _, _, by first | rfl | (simp [errW_none, errW_some] <;> rfl) | (simp only [← hji21, ← hji22]; first | rfl | (simp [errW_none, errW_some] <;> rfl)) | (simp [*, errW_none, errW_some] <;> rfl), (by first | exact kR_ HO193.out | exact Kd.R_sym rfl HO193.out HO198.out | exact Kd.R_sym rfl HO193.out HO202.out), (by first | exact kR_ HO198.out | exact Kd.R_sym rfl HO198.out HO193.out | exact Kd.R_sym rfl HO198.out HO202.out), (by first | exact kR_ HO202.out | exact Kd.R_sym rfl HO202.out HO193.out | exact Kd.R_sym rfl HO202.out HO198.out), by repeat (first | (with_reducible first | exact HB.out | apply below_alloc | apply pw_below_drewN | apply below_drew1 | refine below_set ?_ GE183.out | refine below_set ?_ GE184.out | refine below_set ?_ GE199.out) | exact HB.out)⟩
        · rw [if_neg c23] at H
          have c23b0 : decide ((ji22) ≤ a0_2) = false := decide_eq_false c23
          clear c23
          obtain ⟨y203, hy203⟩ : ∃ y_ : List Int, y_ = (([] : List Int)) := ⟨_, rfl⟩
          replace H : (if 0 ≤ a0_2 then (if a0_2 ≤ (ji22) then (if (ji22) ≤ (l0_1.length : Int) then (if y203.length + ((l0_1.take ((ji22) : Int).toNat).drop (a0_2 : Int).toNat).length < 140737488355328 then (some (t190, t191, ji22, t195, t196, wrap64 (a0_0 + a0_2), (y203 ++ ((l0_1.take ((ji22) : Int).toNat).drop (a0_2 : Int).toNat)))) else (none)) else (none)) else (none)) else (none)) = some (r1, r2, r3, r4, r5, r6, r7) := by first | (rw [hy203]; with_reducible exact H) | (have H2_ := (Option.bind_some _ _).symm.trans H; rw [hy203]; with_reducible exact H2_) | (have H2_ := (Option.bind_some _ _).symm.trans H; with_reducible exact H2_) | with_reducible exact H | (rw [hy203]; exact H) | exact H
          have Ny203 := Aside0.mk hy203
          clear hy203
          by_cases c44 : 0 ≤ a0_2
          · rw [if_pos c44] at H
            have c44b0 := eq_true c44
            have c44b1 : decide (0 ≤ a0_2) = true := decide_eq_true c44
            clear c44
            by_cases c45 : a0_2 ≤ (ji22)
            · rw [if_pos c45] at H
              have c45b0 := eq_true c45
              have c45b1 : decide (a0_2 ≤ (ji22)) = true := decide_eq_true c45
              clear c45
              by_cases c46 : (ji22) ≤ (l0_1.length : Int)
              · rw [if_pos c46] at H
                have c46b0 := eq_true c46
                have c46b1 : decide ((ji22) ≤ (l0_1.length : Int)) = true := decide_eq_true c46
                clear c46
                by_cases c47 : y203.length + ((l0_1.take ((ji22) : Int).toNat).drop (a0_2 : Int).toNat).length < 140737488355328
                · rw [if_pos c47] at H
                  have LMc47 := Aside0.mk c47
                  clear c47
                  obtain ⟨y207, hy207⟩ : ∃ y_ : List Int, y_ = (y203 ++ ((l0_1.take ((ji22) : Int).toNat).drop (a0_2 : Int).toNat)) := ⟨_, rfl⟩
                  replace H : (some (t190, t191, ji22, t195, t196, wrap64 (a0_0 + a0_2), y207)) = some (r1, r2, r3, r4, r5, r6, r7) := by first | (rw [hy207]; with_reducible exact H) | (have H2_ := (Option.bind_some _ _).symm.trans H; rw [hy207]; with_reducible exact H2_) | (have H2_ := (Option.bind_some _ _).symm.trans H; with_reducible exact H2_) | with_reducible exact H | (rw [hy207]; exact H) | exact H
                  have Ny207 := Aside0.mk hy207
                  clear hy207
                  simp only [Option.some.injEq, Prod.mk.injEq] at H
                  obtain ⟨rfl, rfl, rfl, rfl, rfl, rfl, rfl⟩ := H
                  have hnb48 := NB183_184.out
                  have hnc48 := NB184_183.out
                  have hcz49_0 : wc.cell? ⟨gb183, 0, none⟩ = some (.int .i64 a0_0) := (blk_cell BK183.out 0).trans rfl
                  have hcz49_1 : wc.cell? ⟨gb183, 1, none⟩ = some (.slice A0_1 l0_1.length c0_1) := (blk_cell BK183.out 1).trans rfl
                  have hcz49_2 : wc.cell? ⟨gb183, 2, none⟩ = some (.int .i64 a0_2) := (blk_cell BK183.out 2).trans rfl
                  have hcz49_3 : wc.cell? ⟨gb183, 3, none⟩ = some (.int .i64 a0_3) := (blk_cell BK183.out 3).trans rfl
                  have hcz49_4 : wc.cell? ⟨gb183, 4, none⟩ = some (.slice A0_4 l0_4.length c0_4) := (blk_cell BK183.out 4).trans rfl
                  have hfz49_0 := blk_frozen BK183.out 0
                  have hfz49_1 := blk_frozen BK183.out 1
                  have hfz49_2 := blk_frozen BK183.out 2
                  have hfz49_3 := blk_frozen BK183.out 3
                  have hfz49_4 := blk_frozen BK183.out 4
                  try go_wp2_with (first | ((with_reducible refine gate_callee (f := 34) rfl ?_); refine goesL_ (some 20) rfl rfl Try.func34 (by kernel_rfl) rfl #[.agg #[.int .i64 a0_0, .slice A0_1 l0_1.length c0_1, .int .i64 a0_2, .int .i64 a0_3, .slice A0_4 l0_4.length c0_4]] rfl ar_ ?_; (with_reducible refine (spec_l13Copy.calls a0_0 _ _ l0_1 a0_2 a0_3 _ _ l0_4 t190 t191 t194 t195 t196 _ ?side1 ?side2 ?side3 ?side4 A20.out).mono ?_); (case side1 => exact kC_ (Kd.C_below HR0_1.out HB.out)); (case side2 => exact HC0_1.out); (case side3 => exact kC_ (Kd.C_below HR0_4.out HB.out)); (case side4 => exact HC0_4.out); rintro e w50 ⟨v192, v197, rfl, ho0, ho1, hb⟩; refine ⟨_, rfl, ?_⟩; have n0_ := Aside0.mk (Kd.R_lower ho0 (below_size (hb2_ HB.out GE183.out GE184.out))); have n1_ := Aside0.mk (Kd.R_lower ho1 (below_size (hb2_ HB.out GE183.out GE184.out))); have n2_ := Aside0.mk (blk_below (g := gb183) (o := .cells #[.int .i64 a0_0, .slice A0_1 l0_1.length c0_1, .int .i64 a0_2, .int .i64 a0_3, .slice A0_4 l0_4.length c0_4] 25 (0, 0)) (kb_ BK183.out) hb); have n3_ := Aside0.mk (blk_below (g := gb184) (o := .cells #[.int .i64 0, .slice none 0 0, .int .i64 0, .int .i64 0, .slice none 0 0] 25 (0, 0)) (kb_ BK184.out) hb); have n4_ := Aside0.mk (below_step (hb2_ HB.out GE183.out GE184.out) hb); clear BK183; clear BK184; clear HB; have HO193 := n0_; have HO198 := n1_; have BK183 := n2_; have BK184 := n3_; have HB := n4_; clear n0_ n1_ n2_ n3_ n4_; (try clear hb); (try clear hb2); (try clear hk); (try clear hi); (try clear ho0); (try clear ho1)) | ((with_reducible refine gate_dst (N := 7) rfl ?_); refine box_event ?hg (N := 7) ?hd (cs := #[.int .i64 0, .slice none 0 0, .int .i64 0, .int .i64 0, .slice none 0 0]) (t := 25) ?hr ?_; (case hd => rfl); (case hg => rfl); (case hr => first | (go_simp; done) | (go_simp; rfl)); intro gb199 hg w51 hbox hb; have n0_ := Aside0.mk (Kd.R_below (kR_ HO193.out) hb); have n1_ := Aside0.mk (Kd.R_below (kR_ HO198.out) hb); have n2_ := Aside0.mk (blk_below (g := gb183) (o := .cells #[.int .i64 a0_0, .slice A0_1 l0_1.length c0_1, .int .i64 a0_2, .int .i64 a0_3, .slice A0_4 l0_4.length c0_4] 25 (0, 0)) (kb_ BK183.out) hb); have n3_ := Aside0.mk (blk_below (g := gb184) (o := .cells #[.int .i64 0, .slice none 0 0, .int .i64 0, .int .i64 0, .slice none 0 0] 25 (0, 0)) (kb_ BK184.out) hb); have n4_ := Aside0.mk (below_step (hb2_ HB.out GE183.out GE184.out) hb); have n5_ := Aside0.mk (hbox); have n6_ := Aside0.mk ((by rw [hg]; exact (below_size (hb2_ HB.out GE183.out GE184.out)) : w.heap.size ≤ gb199)); have n7_ := Aside0.mk ((by rw [hg]; exact (below_size (hb2_ HB.out GE183.out GE184.out)) : w.heap.size ≤ gb199)); have n8_ := Aside0.mk ((by rw [hg]; exact Nat.ne_of_lt (blk_lt (g := gb183) (o := .cells #[.int .i64 a0_0, .slice A0_1 l0_1.length c0_1, .int .i64 a0_2, .int .i64 a0_3, .slice A0_4 l0_4.length c0_4] 25 (0, 0)) (kb_ BK183.out)) : gb183 ≠ gb199)); have n9_ := Aside0.mk ((by rw [hg]; exact Nat.ne_of_gt (blk_lt (g := gb183) (o := .cells #[.int .i64 a0_0, .slice A0_1 l0_1.length c0_1, .int .i64 a0_2, .int .i64 a0_3, .slice A0_4 l0_4.length c0_4] 25 (0, 0)) (kb_ BK183.out)) : gb199 ≠ gb183)); have n10_ := Aside0.mk ((by rw [hg]; exact Nat.ne_of_lt (blk_lt (g := gb184) (o := .cells #[.int .i64 0, .slice none 0 0, .int .i64 0, .int .i64 0, .slice none 0 0] 25 (0, 0)) (kb_ BK184.out)) : gb184 ≠ gb199)); have n11_ := Aside0.mk ((by rw [hg]; exact Nat.ne_of_gt (blk_lt (g := gb184) (o := .cells #[.int .i64 0, .slice none 0 0, .int .i64 0, .int .i64 0, .slice none 0 0] 25 (0, 0)) (kb_ BK184.out)) : gb199 ≠ gb184)); clear HO193; clear HO198; clear BK183; clear BK184; clear HB; have HO193 := n0_; have HO198 := n1_; have BK183 := n2_; have BK184 := n3_; have HB := n4_; have BK199 := n5_; have GW199 := n6_; have GE199 := n7_; have NB183_199 := n8_; have NB199_183 := n9_; have NB184_199 := n10_; have NB199_184 := n11_; clear n0_ n1_ n2_ n3_ n4_ n5_ n6_ n7_ n8_ n9_ n10_ n11_; clear hb hbox hg; have hnb52 := NB199_183.out; have hnc52 := NB183_199.out; have hnb53 := NB199_184.out; have hnc53 := NB184_199.out; have hcz54_0 : w51.cell? ⟨gb199, 0, none⟩ = some (.int .i64 0) := (blk_cell BK199.out 0).trans rfl; have hcz54_1 : w51.cell? ⟨gb199, 1, none⟩ = some (.slice none 0 0) := (blk_cell BK199.out 1).trans rfl; have hcz54_2 : w51.cell? ⟨gb199, 2, none⟩ = some (.int .i64 0) := (blk_cell BK199.out 2).trans rfl; have hcz54_3 : w51.cell? ⟨gb199, 3, none⟩ = some (.int .i64 0) := (blk_cell BK199.out 3).trans rfl; have hcz54_4 : w51.cell? ⟨gb199, 4, none⟩ = some (.slice none 0 0) := (blk_cell BK199.out 4).trans rfl; have hfz54_0 := blk_frozen BK199.out 0; have hfz54_1 := blk_frozen BK199.out 1; have hfz54_2 := blk_frozen BK199.out 2; have hfz54_3 := blk_frozen BK199.out 3; have hfz54_4 := blk_frozen BK199.out 4; obtain ⟨Ao55, co55, eo55⟩ := Kd.R_slice HO193.out; subst eo55; obtain ⟨Ao56, co56, eo56⟩ := Kd.R_slice HO198.out; subst eo56; have hcz57_0 : w51.cell? ⟨gb183, 0, none⟩ = some (.int .i64 a0_0) := (blk_cell BK183.out 0).trans rfl; have hcz57_1 : w51.cell? ⟨gb183, 1, none⟩ = some (.slice A0_1 l0_1.length c0_1) := (blk_cell BK183.out 1).trans rfl; have hcz57_2 : w51.cell? ⟨gb183, 2, none⟩ = some (.int .i64 a0_2) := (blk_cell BK183.out 2).trans rfl; have hcz57_3 : w51.cell? ⟨gb183, 3, none⟩ = some (.int .i64 a0_3) := (blk_cell BK183.out 3).trans rfl; have hcz57_4 : w51.cell? ⟨gb183, 4, none⟩ = some (.slice A0_4 l0_4.length c0_4) := (blk_cell BK183.out 4).trans rfl; have hfz57_0 := blk_frozen BK183.out 0; have hfz57_1 := blk_frozen BK183.out 1; have hfz57_2 := blk_frozen BK183.out 2; have hfz57_3 := blk_frozen BK183.out 3; have hfz57_4 := blk_frozen BK183.out 4))
                  have n0_ : Aside0 (Kd.R (Kd.int .u8) 5 ((((((w51.setCell ⟨gb199, 0, none⟩ (.int .i64 t190)).setCell ⟨gb199, 1, none⟩ (.slice Ao55 t191.length co55)).setCell ⟨gb199, 2, none⟩ (.int .i64 t194)).setCell ⟨gb199, 3, none⟩ (.int .i64 t195)).setCell ⟨gb199, 4, none⟩ (.slice Ao56 t196.length co56)).setCell ⟨gb199, 2, none⟩ (.int .i64 ji22)) w.heap.size (fun _ => True) (.slice Ao55 t191.length co55) t191) := ⟨by refine kR_ ?_; exact Kd.R_mono (Kd.R_f gb199 2 (.int .i64 ji22) (Kd.R_f gb199 4 (.slice Ao56 t196.length co56) (Kd.R_f gb199 3 (.int .i64 t195) (Kd.R_f gb199 2 (.int .i64 t194) (Kd.R_f gb199 1 (.slice Ao55 t191.length co55) (Kd.R_f gb199 0 (.int .i64 t190) (Kd.R_types HO193.out BK199.out (by decide)))))))) (fun _ hk => trivial)⟩
                  have n1_ : Aside0 (Kd.R k60 60 ((((((w51.setCell ⟨gb199, 0, none⟩ (.int .i64 t190)).setCell ⟨gb199, 1, none⟩ (.slice Ao55 t191.length co55)).setCell ⟨gb199, 2, none⟩ (.int .i64 t194)).setCell ⟨gb199, 3, none⟩ (.int .i64 t195)).setCell ⟨gb199, 4, none⟩ (.slice Ao56 t196.length co56)).setCell ⟨gb199, 2, none⟩ (.int .i64 ji22)) w.heap.size (fun _ => True) (.slice Ao56 t196.length co56) t196) := ⟨by refine kR_ ?_; exact Kd.R_mono (Kd.R_f gb199 2 (.int .i64 ji22) (Kd.R_f gb199 4 (.slice Ao56 t196.length co56) (Kd.R_f gb199 3 (.int .i64 t195) (Kd.R_f gb199 2 (.int .i64 t194) (Kd.R_f gb199 1 (.slice Ao55 t191.length co55) (Kd.R_f gb199 0 (.int .i64 t190) (Kd.R_types HO198.out BK199.out (by decide)))))))) (fun _ hk => trivial)⟩
                  have n2_ : Aside0 (((((((w51.setCell ⟨gb199, 0, none⟩ (.int .i64 t190)).setCell ⟨gb199, 1, none⟩ (.slice Ao55 t191.length co55)).setCell ⟨gb199, 2, none⟩ (.int .i64 t194)).setCell ⟨gb199, 3, none⟩ (.int .i64 t195)).setCell ⟨gb199, 4, none⟩ (.slice Ao56 t196.length co56)).setCell ⟨gb199, 2, none⟩ (.int .i64 ji22)).heap[gb183]? = some (.cells #[.int .i64 a0_0, .slice A0_1 l0_1.length c0_1, .int .i64 a0_2, .int .i64 a0_3, .slice A0_4 l0_4.length c0_4] 25 (0, 0))) := ⟨by refine kb_ ?_; refine blk_far ?_ NB183_199.out _; refine kb_ ?_; refine blk_far ?_ NB183_199.out _; refine kb_ ?_; refine blk_far ?_ NB183_199.out _; refine kb_ ?_; refine blk_far ?_ NB183_199.out _; refine kb_ ?_; refine blk_far ?_ NB183_199.out _; refine kb_ ?_; refine blk_far ?_ NB183_199.out _; refine kb_ ?_; exact BK183.out⟩
                  have n3_ : Aside0 (((((((w51.setCell ⟨gb199, 0, none⟩ (.int .i64 t190)).setCell ⟨gb199, 1, none⟩ (.slice Ao55 t191.length co55)).setCell ⟨gb199, 2, none⟩ (.int .i64 t194)).setCell ⟨gb199, 3, none⟩ (.int .i64 t195)).setCell ⟨gb199, 4, none⟩ (.slice Ao56 t196.length co56)).setCell ⟨gb199, 2, none⟩ (.int .i64 ji22)).heap[gb184]? = some (.cells #[.int .i64 0, .slice none 0 0, .int .i64 0, .int .i64 0, .slice none 0 0] 25 (0, 0))) := ⟨by refine kb_ ?_; refine blk_far ?_ NB184_199.out _; refine kb_ ?_; refine blk_far ?_ NB184_199.out _; refine kb_ ?_; refine blk_far ?_ NB184_199.out _; refine kb_ ?_; refine blk_far ?_ NB184_199.out _; refine kb_ ?_; refine blk_far ?_ NB184_199.out _; refine kb_ ?_; refine blk_far ?_ NB184_199.out _; refine kb_ ?_; exact BK184.out⟩
                  have n4_ : Aside0 (((((((w51.setCell ⟨gb199, 0, none⟩ (.int .i64 t190)).setCell ⟨gb199, 1, none⟩ (.slice Ao55 t191.length co55)).setCell ⟨gb199, 2, none⟩ (.int .i64 t194)).setCell ⟨gb199, 3, none⟩ (.int .i64 t195)).setCell ⟨gb199, 4, none⟩ (.slice Ao56 t196.length co56)).setCell ⟨gb199, 2, none⟩ (.int .i64 ji22)).heap[gb199]? = some (.cells #[.int .i64 t190, .slice Ao55 t191.length co55, .int .i64 ji22, .int .i64 t195, .slice Ao56 t196.length co56] 25 (0, 0))) := ⟨by refine kb_ ?_; refine blk_put (cs := #[.int .i64 t190, .slice Ao55 t191.length co55, .int .i64 t194, .int .i64 t195, .slice Ao56 t196.length co56]) ?_ 2 _ rfl; refine kb_ ?_; refine blk_put (cs := #[.int .i64 t190, .slice Ao55 t191.length co55, .int .i64 t194, .int .i64 t195, .slice none 0 0]) ?_ 4 _ rfl; refine kb_ ?_; refine blk_put (cs := #[.int .i64 t190, .slice Ao55 t191.length co55, .int .i64 t194, .int .i64 0, .slice none 0 0]) ?_ 3 _ rfl; refine kb_ ?_; refine blk_put (cs := #[.int .i64 t190, .slice Ao55 t191.length co55, .int .i64 0, .int .i64 0, .slice none 0 0]) ?_ 2 _ rfl; refine kb_ ?_; refine blk_put (cs := #[.int .i64 t190, .slice none 0 0, .int .i64 0, .int .i64 0, .slice none 0 0]) ?_ 1 _ rfl; refine kb_ ?_; refine blk_put (cs := #[.int .i64 0, .slice none 0 0, .int .i64 0, .int .i64 0, .slice none 0 0]) ?_ 0 _ rfl; refine kb_ ?_; exact BK199.out⟩
                  have n5_ : Aside0 (Below w.heap.size w ((((((w51.setCell ⟨gb199, 0, none⟩ (.int .i64 t190)).setCell ⟨gb199, 1, none⟩ (.slice Ao55 t191.length co55)).setCell ⟨gb199, 2, none⟩ (.int .i64 t194)).setCell ⟨gb199, 3, none⟩ (.int .i64 t195)).setCell ⟨gb199, 4, none⟩ (.slice Ao56 t196.length co56)).setCell ⟨gb199, 2, none⟩ (.int .i64 ji22))) := ⟨by repeat (first | (with_reducible first | exact HB.out | apply below_alloc | apply pw_below_drewN | apply below_drew1 | refine below_set ?_ GE183.out | refine below_set ?_ GE184.out | refine below_set ?_ GE199.out) | exact HB.out)⟩
                  (try clear HO193)
                  (try clear HO198)
                  (try clear BK183)
                  (try clear BK184)
                  (try clear BK199)
                  (try clear HB)
                  generalize ((((((w51.setCell ⟨gb199, 0, none⟩ (.int .i64 t190)).setCell ⟨gb199, 1, none⟩ (.slice Ao55 t191.length co55)).setCell ⟨gb199, 2, none⟩ (.int .i64 t194)).setCell ⟨gb199, 3, none⟩ (.int .i64 t195)).setCell ⟨gb199, 4, none⟩ (.slice Ao56 t196.length co56)).setCell ⟨gb199, 2, none⟩ (.int .i64 ji22)) = w58 at n0_ n1_ n2_ n3_ n4_ n5_ ⊢
                  have HO193 := n0_
                  have HO198 := n1_
                  have BK183 := n2_
                  have BK184 := n3_
                  have BK199 := n4_
                  have HB := n5_
                  clear n0_ n1_ n2_ n3_ n4_ n5_
                  have n0_ := Aside0.mk (Kd.R_drew HO193.out)
                  have n1_ := Aside0.mk (Kd.R_drew HO198.out)
                  have n2_ := Aside0.mk (blk_drew BK183.out)
                  have n3_ := Aside0.mk (blk_drew BK184.out)
                  have n4_ := Aside0.mk (blk_drew BK199.out)
                  have n5_ := Aside0.mk (below_drew1 HB.out)
                  clear HO193
                  clear HO198
                  clear BK183
                  clear BK184
                  clear BK199
                  clear HB
                  have HO193 := n0_
                  have HO198 := n1_
                  have BK183 := n2_
                  have BK184 := n3_
                  have BK199 := n4_
                  have HB := n5_
                  clear n0_ n1_ n2_ n3_ n4_ n5_
                  obtain ⟨i060, hi060, _, hsz60, _⟩ := info_parts info5
                  obtain ⟨A60, hcut60, hA60, hC60⟩ := print_mid_of (P := Try.prog) (Value.int .u8) 0 22 5 .i64 .i64 Try.underlying22 hi060 hsz60 A0_1 c0_1 l0_1 a0_2 (ji22) (of_decide_eq_true (by first | (with_reducible assumption) | assumption)) (by first | omega | exact of_decide_eq_true (by first | (with_reducible assumption) | assumption)) (of_decide_eq_true (by first | (with_reducible assumption) | assumption)) HC0_1.out
                  have HR206 := Aside0.mk (Kd.C_of_reads (h1 := fun _ => rfl) (hA60 _ (Kd.reads_of_C HR0_1.out)))
                  have HC206 := Aside0.mk hC60
                  clear hA60 hC60 hi060 hsz60
                  refine start_ (n := 17) (S := fun w' => w'.cell? ⟨gb199, 0, none⟩ = some (.int .i64 t190) ∧ w'.cell? ⟨gb199, 1, none⟩ = some (.slice Ao55 t191.length co55) ∧ w'.cell? ⟨gb199, 2, none⟩ = some (.int .i64 ji22) ∧ w'.cell? ⟨gb199, 3, none⟩ = some (.int .i64 t195) ∧ w'.cell? ⟨gb199, 4, none⟩ = some (.slice Ao56 t196.length co56) ∧ w'.cell? ⟨gb183, 0, none⟩ = some (.int .i64 a0_0) ∧ w'.cell? ⟨gb183, 1, none⟩ = some (.slice A0_1 l0_1.length c0_1) ∧ w'.cell? ⟨gb183, 2, none⟩ = some (.int .i64 a0_2) ∧ w'.cell? ⟨gb183, 3, none⟩ = some (.int .i64 a0_3) ∧ w'.cell? ⟨gb183, 4, none⟩ = some (.slice A0_4 l0_4.length c0_4)) (ds := []) #[false, false, false, false, false, false, false, false, false, false, false, false, false, false, false, false, false] (by kernel_rfl) rfl rfl ⟨(blk_cell BK199.out 0).trans rfl, (blk_cell BK199.out 1).trans rfl, (blk_cell BK199.out 2).trans rfl, (blk_cell BK199.out 3).trans rfl, (blk_cell BK199.out 4).trans rfl, (blk_cell BK183.out 0).trans rfl, (blk_cell BK183.out 1).trans rfl, (blk_cell BK183.out 2).trans rfl, (blk_cell BK183.out 3).trans rfl, (blk_cell BK183.out 4).trans rfl⟩ (fun hHeld => ?_); refine with_tabW spec_MouthNext.tab8 spec_MouthNext.bits8 (fun HT_ HW_ => ?_)
                  generalize w58.drew = w59 at HO193 HO198 BK183 BK184 BK199 HB HR206 hHeld ⊢
                  refine pu_ (i := 1) (N := some 45) HT_ ?_
                  refine pu_ (i := 3) (N := some 47) HT_ ?_
                  refine pu_ (i := 7) (N := some 51) HT_ ?_
                  refine pu_ (i := 9) (N := some 53) HT_ ?_
                  refine pu_ (i := 11) (N := some 55) HT_ ?_
                  refine tk_ (i := 0) (N := some 44) HT_ HW_ hHeld ?_
                  refine tk_ (i := 2) (N := some 46) HT_ HW_ hHeld ?_
                  refine tk_ (i := 4) (N := some 48) HT_ HW_ hHeld ?_
                  refine pu_ (i := 5) (N := some 49) HT_ ?_
                  refine tk_ (i := 8) (N := some 52) HT_ HW_ hHeld ?_
                  refine tk_ (i := 10) (N := some 54) HT_ HW_ hHeld ?_
                  refine pu_ (i := 12) (N := some 56) HT_ ?_
                  refine on_ (i := 6) (N := some 50) HT_ (fun K hK => ?_)
                  refine Kd.R_lit_step (Kd.int .u8) _ 5 ?hg (N := 50) ?hd (xs := ([] : List Int)) (inner := []) (ok := fun _ => True) (okp := fun _ => True) ?hr ?hp (fun _ hk => hk) trivial (Below.refl _ _) (Nat.le_refl _) (by simp) ?_; (case hd => rfl); (case hg => rfl); (case hr => first | (go_simp; done) | (go_simp; rfl)); (case hp => exact (Reps.none _ _))
                  intro v204 w61 ho62 hb hg_ hnew_
                  clear hg_ hnew_
                  (first | rw [← Ny203.out] at ho62 | (simp only [Int.reduceToNat] at ho62; rw [← Ny203.out] at ho62))
                  have n0_ := Aside0.mk (Kd.R_elder' (kR_ HO193.out) (Kd.R_base ho62) hb)
                  have n1_ := Aside0.mk (Kd.R_below (kR_ HO198.out) hb)
                  have n2_ := Aside0.mk (Kd.R_lower (Kd.R_new' ho62 (Kd.R_lt (kR_ HO193.out))) (below_size (hb3_ HB.out GE183.out GE184.out GE199.out)))
                  have n3_ := Aside0.mk (blk_below (g := gb183) (o := .cells #[.int .i64 a0_0, .slice A0_1 l0_1.length c0_1, .int .i64 a0_2, .int .i64 a0_3, .slice A0_4 l0_4.length c0_4] 25 (0, 0)) (kb_ BK183.out) hb)
                  have n4_ := Aside0.mk (blk_below (g := gb184) (o := .cells #[.int .i64 0, .slice none 0 0, .int .i64 0, .int .i64 0, .slice none 0 0] 25 (0, 0)) (kb_ BK184.out) hb)
                  have n5_ := Aside0.mk (blk_below (g := gb199) (o := .cells #[.int .i64 t190, .slice Ao55 t191.length co55, .int .i64 ji22, .int .i64 t195, .slice Ao56 t196.length co56] 25 (0, 0)) (kb_ BK199.out) hb)
                  have n6_ := Aside0.mk (below_step (hb3_ HB.out GE183.out GE184.out GE199.out) hb)
                  clear HO193
                  clear HO198
                  clear BK183
                  clear BK184
                  clear BK199
                  clear HB
                  have HO193 := n0_
                  have HO198 := n1_
                  have HO205 := n2_
                  have BK183 := n3_
                  have BK184 := n4_
                  have BK199 := n5_
                  have HB := n6_
                  clear n0_ n1_ n2_ n3_ n4_ n5_ n6_
                  clear hb ho62
                  refine hK.out _ _ ⟨(blk_cell BK199.out 0).trans rfl, (blk_cell BK199.out 1).trans rfl, (blk_cell BK199.out 2).trans rfl, (blk_cell BK199.out 3).trans rfl, (blk_cell BK199.out 4).trans rfl, (blk_cell BK183.out 0).trans rfl, (blk_cell BK183.out 1).trans rfl, (blk_cell BK183.out 2).trans rfl, (blk_cell BK183.out 3).trans rfl, (blk_cell BK183.out 4).trans rfl⟩ (fun hHeld => ?_)
                  clear hK K
                  refine nm_ 50 ?_
                  refine on_ (i := 13) (N := some 57) HT_ (fun K hK => ?_)
                  refine Kd.R_append_rows_step (Kd.int .u8) (w0 := w) w.heap.size (by rfl) (.tmp 50) (.tmp 56) 22 5 (.int .u8 0) 1 rfl Try.underlying22 info5 rfl (by decide) (by omega) v204 y203 ((l0_1.take ((ji22) : Int).toNat).drop (a0_2 : Int).toNat) _ _ _ (fun k_ => some k_ ≠ (.slice Ao55 t191.length co55 : Value).ownBlock) (fun _ => False) rfl rfl ?aO ?aR (fun _ _ h => h) (fun _ h => h.elim) ?aF ?aB ?aS ?aL ?_
                  (case aR => first | (refine len_ (show ((l0_1.take ((ji22) : Int).toNat).drop (a0_2 : Int).toNat).length = ((ji22).toNat - a0_2.toNat) from (by rw [List.length_drop, List.length_take]; have h_ : ((ji22) : Int) ≤ (l0_1.length : Int) := of_decide_eq_true (by first | (with_reducible assumption) | assumption); omega)) ?_; repeat (first | exact (Kd.C_below HR206.out HB.out) | (with_reducible refine Kd.C_alloc ?_ _) | (with_reducible refine Kd.C_drewN ?_ _) | (with_reducible refine Kd.C_drew ?_)); done) | (repeat (first | exact (Kd.C_below HR206.out HB.out) | (with_reducible refine Kd.C_alloc ?_ _) | (with_reducible refine Kd.C_drewN ?_ _) | (with_reducible refine Kd.C_drew ?_))))
                  (case aB => exact (hb3_ HB.out GE183.out GE184.out GE199.out))
                  (case aF => exact (fun k_ hk => Kd.fresh' (Kd.R_lt (kR_ HO193.out)) k_ hk))
                  (case aO => exact (by refine kR_ ?_; first | exact Kd.R_mono HO205.out (fun _ hk => hk.2) | exact Kd.R_mono HO205.out (fun _ _ => trivial)))
                  (case aS => exact (below_size (hb3_ HB.out GE183.out GE184.out GE199.out)))
                  (case aL => have := LMc47.out; have hlx_ := (show ((l0_1.take ((ji22) : Int).toNat).drop (a0_2 : Int).toNat).length = ((ji22).toNat - a0_2.toNat) from (by rw [List.length_drop, List.length_take]; have h_ : ((ji22) : Int) ≤ (l0_1.length : Int) := of_decide_eq_true (by first | (with_reducible assumption) | assumption); omega)); omega)
                  intro v208 w63 ho hb hg hat
                  rw [← Ny207.out] at ho
                  have n0_ := Aside0.mk (blk_grown (g := gb183) (o := .cells #[.int .i64 a0_0, .slice A0_1 l0_1.length c0_1, .int .i64 a0_2, .int .i64 a0_3, .slice A0_4 l0_4.length c0_4] 25 (0, 0)) (kb_ BK183.out) hg (Kd.R_ne HO205.out BK183.out (by decide)))
                  have n1_ := Aside0.mk (blk_grown (g := gb184) (o := .cells #[.int .i64 0, .slice none 0 0, .int .i64 0, .int .i64 0, .slice none 0 0] 25 (0, 0)) (kb_ BK184.out) hg (Kd.R_ne HO205.out BK184.out (by decide)))
                  have n2_ := Aside0.mk (Kd.R_after (ok := (fun _ => True)) (kR_ HO193.out) hg hat)
                  have n3_ := Aside0.mk (Kd.R_over' (kR_ HO198.out) (Kd.R_typed (kR_ HO205.out)) (by decide) hg)
                  have n4_ := Aside0.mk (blk_grown (g := gb199) (o := .cells #[.int .i64 t190, .slice Ao55 t191.length co55, .int .i64 ji22, .int .i64 t195, .slice Ao56 t196.length co56] 25 (0, 0)) (kb_ BK199.out) hg (Kd.R_ne HO205.out BK199.out (by decide)))
                  have n5_ := Aside0.mk (hb)
                  have n6_ := Aside0.mk (ho)
                  clear BK183
                  clear BK184
                  clear HO193
                  clear HO198
                  clear BK199
                  clear HB
                  clear HO205
                  have BK183 := n0_
                  have BK184 := n1_
                  have HO193 := n2_
                  have HO198 := n3_
                  have BK199 := n4_
                  have HB := n5_
                  have HO209 := n6_
                  clear n0_ n1_ n2_ n3_ n4_ n5_ n6_
                  clear ho hb hg hat
                  refine hK.out _ _ ⟨(blk_cell BK199.out 0).trans rfl, (blk_cell BK199.out 1).trans rfl, (blk_cell BK199.out 2).trans rfl, (blk_cell BK199.out 3).trans rfl, (blk_cell BK199.out 4).trans rfl, (blk_cell BK183.out 0).trans rfl, (blk_cell BK183.out 1).trans rfl, (blk_cell BK183.out 2).trans rfl, (blk_cell BK183.out 3).trans rfl, (blk_cell BK183.out 4).trans rfl⟩ (fun hHeld => ?_)
                  clear hK K
                  refine nm_ 57 ?_
                  refine on_ (i := 14) (N := none) HT_ (fun K hK => ?_)
                  have hs64 : w63.cell? ⟨gb184, 0, none⟩ = some (.int .i64 0) := (blk_cell BK184.out 0).trans rfl
                  have hfs64 := blk_frozen BK184.out 0
                  have hns64_0 := NB183_184.out
                  have hns64_2 := NB199_184.out
                  have hms64_0 := NB184_183.out
                  have hms64_2 := NB184_199.out
                  have hs65 : w63.cell? ⟨gb184, 1, none⟩ = some (.slice none 0 0) := (blk_cell BK184.out 1).trans rfl
                  have hfs65 := blk_frozen BK184.out 1
                  have hns65_0 := NB183_184.out
                  have hns65_2 := NB199_184.out
                  have hms65_0 := NB184_183.out
                  have hms65_2 := NB184_199.out
                  have hs66 : w63.cell? ⟨gb184, 2, none⟩ = some (.int .i64 0) := (blk_cell BK184.out 2).trans rfl
                  have hfs66 := blk_frozen BK184.out 2
                  have hns66_0 := NB183_184.out
                  have hns66_2 := NB199_184.out
                  have hms66_0 := NB184_183.out
                  have hms66_2 := NB184_199.out
                  have hs67 : w63.cell? ⟨gb184, 3, none⟩ = some (.int .i64 0) := (blk_cell BK184.out 3).trans rfl
                  have hfs67 := blk_frozen BK184.out 3
                  have hns67_0 := NB183_184.out
                  have hns67_2 := NB199_184.out
                  have hms67_0 := NB184_183.out
                  have hms67_2 := NB184_199.out
                  have hs68 : w63.cell? ⟨gb184, 4, none⟩ = some (.slice none 0 0) := (blk_cell BK184.out 4).trans rfl
                  have hfs68 := blk_frozen BK184.out 4
                  have hns68_0 := NB183_184.out
                  have hns68_2 := NB199_184.out
                  have hms68_0 := NB184_183.out
                  have hms68_2 := NB184_199.out
                  refine skip_ (w1 := ?_) (by rfl) rfl ?_ ?_
                  rotate_left
                  · go_simp
                    rfl
                  refine hK.out _ _ ⟨((cell_far (p := ⟨gb184, _, none⟩) NB199_184.out _).trans (((cell_far (p := ⟨gb184, _, none⟩) NB199_184.out _).trans (((cell_far (p := ⟨gb184, _, none⟩) NB199_184.out _).trans (((cell_far (p := ⟨gb184, _, none⟩) NB199_184.out _).trans (((cell_far (p := ⟨gb184, _, none⟩) NB199_184.out _).trans (hHeld.1)))))))))), ((cell_far (p := ⟨gb184, _, none⟩) NB199_184.out _).trans (((cell_far (p := ⟨gb184, _, none⟩) NB199_184.out _).trans (((cell_far (p := ⟨gb184, _, none⟩) NB199_184.out _).trans (((cell_far (p := ⟨gb184, _, none⟩) NB199_184.out _).trans (((cell_far (p := ⟨gb184, _, none⟩) NB199_184.out _).trans (hHeld.2.1)))))))))), ((cell_far (p := ⟨gb184, _, none⟩) NB199_184.out _).trans (((cell_far (p := ⟨gb184, _, none⟩) NB199_184.out _).trans (((cell_far (p := ⟨gb184, _, none⟩) NB199_184.out _).trans (((cell_far (p := ⟨gb184, _, none⟩) NB199_184.out _).trans (((cell_far (p := ⟨gb184, _, none⟩) NB199_184.out _).trans (hHeld.2.2.1)))))))))), ((cell_far (p := ⟨gb184, _, none⟩) NB199_184.out _).trans (((cell_far (p := ⟨gb184, _, none⟩) NB199_184.out _).trans (((cell_far (p := ⟨gb184, _, none⟩) NB199_184.out _).trans (((cell_far (p := ⟨gb184, _, none⟩) NB199_184.out _).trans (((cell_far (p := ⟨gb184, _, none⟩) NB199_184.out _).trans (hHeld.2.2.2.1)))))))))), ((cell_far (p := ⟨gb184, _, none⟩) NB199_184.out _).trans (((cell_far (p := ⟨gb184, _, none⟩) NB199_184.out _).trans (((cell_far (p := ⟨gb184, _, none⟩) NB199_184.out _).trans (((cell_far (p := ⟨gb184, _, none⟩) NB199_184.out _).trans (((cell_far (p := ⟨gb184, _, none⟩) NB199_184.out _).trans (hHeld.2.2.2.2.1)))))))))), ((cell_far (p := ⟨gb184, _, none⟩) NB183_184.out _).trans (((cell_far (p := ⟨gb184, _, none⟩) NB183_184.out _).trans (((cell_far (p := ⟨gb184, _, none⟩) NB183_184.out _).trans (((cell_far (p := ⟨gb184, _, none⟩) NB183_184.out _).trans (((cell_far (p := ⟨gb184, _, none⟩) NB183_184.out _).trans (hHeld.2.2.2.2.2.1)))))))))), ((cell_far (p := ⟨gb184, _, none⟩) NB183_184.out _).trans (((cell_far (p := ⟨gb184, _, none⟩) NB183_184.out _).trans (((cell_far (p := ⟨gb184, _, none⟩) NB183_184.out _).trans (((cell_far (p := ⟨gb184, _, none⟩) NB183_184.out _).trans (((cell_far (p := ⟨gb184, _, none⟩) NB183_184.out _).trans (hHeld.2.2.2.2.2.2.1)))))))))), ((cell_far (p := ⟨gb184, _, none⟩) NB183_184.out _).trans (((cell_far (p := ⟨gb184, _, none⟩) NB183_184.out _).trans (((cell_far (p := ⟨gb184, _, none⟩) NB183_184.out _).trans (((cell_far (p := ⟨gb184, _, none⟩) NB183_184.out _).trans (((cell_far (p := ⟨gb184, _, none⟩) NB183_184.out _).trans (hHeld.2.2.2.2.2.2.2.1)))))))))), ((cell_far (p := ⟨gb184, _, none⟩) NB183_184.out _).trans (((cell_far (p := ⟨gb184, _, none⟩) NB183_184.out _).trans (((cell_far (p := ⟨gb184, _, none⟩) NB183_184.out _).trans (((cell_far (p := ⟨gb184, _, none⟩) NB183_184.out _).trans (((cell_far (p := ⟨gb184, _, none⟩) NB183_184.out _).trans (hHeld.2.2.2.2.2.2.2.2.1)))))))))), ((cell_far (p := ⟨gb184, _, none⟩) NB183_184.out _).trans (((cell_far (p := ⟨gb184, _, none⟩) NB183_184.out _).trans (((cell_far (p := ⟨gb184, _, none⟩) NB183_184.out _).trans (((cell_far (p := ⟨gb184, _, none⟩) NB183_184.out _).trans (((cell_far (p := ⟨gb184, _, none⟩) NB183_184.out _).trans (hHeld.2.2.2.2.2.2.2.2.2))))))))))⟩ (fun hHeld => ?_)
                  clear hK K
                  refine pu_ (i := 15) (N := some 5) HT_ ?_
                  refine pu_ (i := 16) (N := some 6) HT_ ?_
                  refine done_ (done_of HT_.out (by kernel_rfl)) ?_
                  try go_wp2
                  refine bodyPost_ret (results_ctt rfl _ _ gb184 25 #[.int .i64 t190, .slice Ao55 t191.length co55, .int .i64 ji22, .int .i64 t195, .slice Ao56 t196.length co56] (0, 0) _ rfl (by refine kb_ ?_; refine blk_put (cs := #[.int .i64 t190, .slice Ao55 t191.length co55, .int .i64 ji22, .int .i64 t195, .slice none 0 0]) ?_ 4 _ rfl; refine kb_ ?_; refine blk_put (cs := #[.int .i64 t190, .slice Ao55 t191.length co55, .int .i64 ji22, .int .i64 0, .slice none 0 0]) ?_ 3 _ rfl; refine kb_ ?_; refine blk_put (cs := #[.int .i64 t190, .slice Ao55 t191.length co55, .int .i64 0, .int .i64 0, .slice none 0 0]) ?_ 2 _ rfl; refine kb_ ?_; refine blk_put (cs := #[.int .i64 t190, .slice none 0 0, .int .i64 0, .int .i64 0, .slice none 0 0]) ?_ 1 _ rfl; refine kb_ ?_; refine blk_put (cs := #[.int .i64 0, .slice none 0 0, .int .i64 0, .int .i64 0, .slice none 0 0]) ?_ 0 _ rfl; refine kb_ ?_; exact BK184.out) Try.underlying25 rfl (by kernel_rfl)) rfl ?_
                  exact ⟨_, _, _, by first | rfl | (simp [errW_none, errW_some] <;> rfl) | (simp only [← hji21, ← hji22]; first | rfl | (simp [errW_none, errW_some] <;> rfl)) | (simp [*, errW_none, errW_some] <;> rfl), by refine kR_ ?_; exact Kd.R_mono (Kd.R_f gb184 4 (.slice Ao56 t196.length co56) (Kd.R_f gb184 3 (.int .i64 t195) (Kd.R_f gb184 2 (.int .i64 ji22) (Kd.R_f gb184 1 (.slice Ao55 t191.length co55) (Kd.R_f gb184 0 (.int .i64 t190) (Kd.R_types HO193.out BK184.out (by decide))))))) (fun _ hk => hk.1.2), by refine kR_ ?_; exact Kd.R_mono (Kd.R_f gb184 4 (.slice Ao56 t196.length co56) (Kd.R_f gb184 3 (.int .i64 t195) (Kd.R_f gb184 2 (.int .i64 ji22) (Kd.R_f gb184 1 (.slice Ao55 t191.length co55) (Kd.R_f gb184 0 (.int .i64 t190) (Kd.R_types HO198.out BK184.out (by decide))))))) (fun _ hk => trivial), by refine kR_ ?_; exact Kd.R_mono (Kd.R_f gb184 4 (.slice Ao56 t196.length co56) (Kd.R_f gb184 3 (.int .i64 t195) (Kd.R_f gb184 2 (.int .i64 ji22) (Kd.R_f gb184 1 (.slice Ao55 t191.length co55) (Kd.R_f gb184 0 (.int .i64 t190) (Kd.R_types HO209.out BK184.out (by decide))))))) (fun _ hk => hk.1), by repeat (first | (with_reducible first | exact HB.out | apply below_alloc | apply pw_below_drewN | apply below_drew1 | refine below_set ?_ GE183.out | refine below_set ?_ GE184.out | refine below_set ?_ GE199.out) | exact HB.out)⟩
                · rw [if_neg c47] at H
                  exact absurd H (by simp)
              · rw [if_neg c46] at H
                exact absurd H (by simp)
            · rw [if_neg c45] at H
              exact absurd H (by simp)
          · rw [if_neg c44] at H
            exact absurd H (by simp)

/-! ### spec_l20Rd_odd: function 48 -/
def spec_l20Rd_odd.f (k : Nat) (s0_0 : List Int) (s0_1 : Int) (a1 : Int) : Option (Bool × Int) := if a1 > 0 then ((spec_l20Rd_pick.f k s0_0 s0_1 a1).bind fun bt210 => (some ((bt210.1 == (wrap64 (a1 - 1))), bt210.2))) else (some (false, s0_1))
theorem spec_l20Rd_odd.mono : ∀ a0 a1 a2 k, LeO (spec_l20Rd_odd.f k a0 a1 a2) (spec_l20Rd_odd.f (k + 1) a0 a1 a2) := by
  intro a0 a1 a2 k
  unfold spec_l20Rd_odd.f
  repeat' first
      | (with_reducible exact spec_l20Rd_pick.mono _ _ _ _)
      | (with_reducible exact LeO.refl _)
      | (with_reducible exact LeO.none _)
      | (with_reducible refine LeO.ite ?_ ?_)
      | (with_reducible refine LeO.bind ?_ (fun _ => ?_))
      | exact spec_l20Rd_pick.mono _ _ _ _
      | exact LeO.none _
      | refine LeO.ite ?_ ?_
      | refine LeO.bind ?_ (fun _ => ?_)
set_option maxHeartbeats 8000000 in
set_option maxRecDepth 100000 in
theorem spec_l20Rd_odd.calls (k : Nat) (g : Nat) (s0_0 : List Int) (s0_1 : Int) (a1 : Int) (r1 : Bool) (r2 : Int) (w0 w : World) (hI : IsS67 w0 w g s0_0 s0_1) (hB : Below w0.heap.size w0 w) (h : spec_l20Rd_odd.f k s0_0 s0_1 a1 = some (r1, r2)) :
    Calls Try.prog 48 #[.pointer (some ⟨g, 0, none⟩), .int .i64 a1] w fun e w' => e = .returned (.bool r1) ∧ IsS67 w0 w' g s0_0 r2 ∧ Below w0.heap.size w0 w' ∧ KeepBut w w' g none := by
  have HI0 := Aside0.mk hI
  have HK := Aside0.mk (KeepBut.refl w g none)
  have HL := Aside0.mk hB.size
  clear hI
  have HW0 := Aside0.mk hB.size
  have HB := Aside0.mk hB
  clear hB
  have H : (if a1 > 0 then ((spec_l20Rd_pick.f k s0_0 s0_1 a1).bind fun bt210 => (some ((bt210.1 == (wrap64 (a1 - 1))), bt210.2))) else (some (false, s0_1))) = some (r1, r2) := h
  clear h
  by_cases c3 : a1 > 0
  · rw [if_pos c3] at H
    have c3b0 : decide (0 < a1) = true := decide_eq_true c3
    clear c3
    replace H := Option.bind_eq_some_iff.mp H
    obtain ⟨⟨t210, t211⟩, A40, H⟩ := H
    replace H : (some ((t210 == (wrap64 (a1 - 1))), t211)) = some (r1, r2) := H
    have A4 := Aside0.mk A40
    clear A40
    simp only [Option.some.injEq, Prod.mk.injEq] at H
    obtain ⟨rfl, rfl⟩ := H
    go_enter Try.func48, Try.ntmps48
    go_wp2_with (first | (go_at_call 30; (with_reducible refine (spec_l20Rd_pick.calls k g s0_0 s0_1 a1 t210 t211 w0 _ ?side1 ?side2 A4.out).mono ?_); (case side1 => repeat (first | (with_reducible first | exact HI0.out | apply IsS67.alloc | apply IsS67.drewN | apply IsS67.drew | apply IsS67.set_1) | exact HI0.out)); (case side2 => repeat (first | (with_reducible first | exact HB.out | apply below_alloc | apply pw_below_drewN | apply below_drew1 | refine below_set ?_ (IsS67.ge HI0.out)) | exact HB.out)); rintro e w5 ⟨rfl, hi, hb, hk⟩; have n0_ := Aside0.mk (KeepBut.trans (by repeat (first | (with_reducible first | exact HK.out | apply KeepBut.set_ | apply keep_drewN | apply keep_drew | apply keep_alloc) | exact HK.out)) hk (.inl rfl)); have n1_ := Aside0.mk (hb); have n2_ := Aside0.mk (hi); clear HK; clear HB; clear HI0; have HK := n0_; have HB := n1_; have HI0 := n2_; clear n0_ n1_ n2_; (try clear hb); (try clear hb2); (try clear hk); (try clear hi)))
    go_ret
    exact ⟨by first | rfl | (simp [errW_none, errW_some] <;> rfl) | (simp [*, errW_none, errW_some] <;> rfl), by repeat (first | (with_reducible first | exact HI0.out | apply IsS67.alloc | apply IsS67.drewN | apply IsS67.drew | apply IsS67.set_1) | exact HI0.out), by repeat (first | (with_reducible first | exact HB.out | apply below_alloc | apply pw_below_drewN | apply below_drew1 | refine below_set ?_ (IsS67.ge HI0.out)) | exact HB.out), by repeat (first | (with_reducible first | exact HK.out | apply KeepBut.set_ | apply keep_drewN | apply keep_drew | apply keep_alloc) | exact HK.out)⟩
  · rw [if_neg c3] at H
    have c3b0 : decide (0 < a1) = false := decide_eq_false c3
    clear c3
    simp only [Option.some.injEq, Prod.mk.injEq] at H
    obtain ⟨rfl, rfl⟩ := H
    go_enter Try.func48, Try.ntmps48
    go_wp2
    go_ret
    exact ⟨by first | rfl | (simp [errW_none, errW_some] <;> rfl) | (simp [*, errW_none, errW_some] <;> rfl), by repeat (first | (with_reducible first | exact HI0.out | apply IsS67.alloc | apply IsS67.drewN | apply IsS67.drew | apply IsS67.set_1) | exact HI0.out), by repeat (first | (with_reducible first | exact HB.out | apply below_alloc | apply pw_below_drewN | apply below_drew1 | refine below_set ?_ (IsS67.ge HI0.out)) | exact HB.out), by repeat (first | (with_reducible first | exact HK.out | apply KeepBut.set_ | apply keep_drewN | apply keep_drew | apply keep_alloc) | exact HK.out)⟩

end Go.Proofs.Ytjiodkbbmhhccab.PFnMouthWrite
