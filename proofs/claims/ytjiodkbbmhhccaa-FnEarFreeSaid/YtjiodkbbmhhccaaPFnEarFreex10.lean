/- Printed by wip/xp/xprint.sh out of the translation, for this claim: what each function answers, as a plain function, and that the machine does just that. No condition. -/
import Derived.Test.YtjiodkbbmhhccaaPFnEarFreex0
import Derived.Test.YtjiodkbbmhhccaaPFnEarFreex3
import Derived.Test.YtjiodkbbmhhccaaPFnEarFreex7
import Derived.Test.YtjiodkbbmhhccaaPFnEarFreex8
import Derived.Test.YtjiodkbbmhhccaaPFnEarFreex9
namespace Go.Proofs.Ytjiodkbbmhhccaa.PFnEarFree
open Go.RowKit Go.Proofs.YtjiodkbbmhhccaaW.PrintWords Go.Proofs.YtjiodkbbmhhccaaW.PrintLast Go.Proofs.YtjiodkbbmhhccaaW.PrintMore
attribute [local go_sem] max2_int min2_int max_two min_two max_three min_three max_four min_four   -- for this text's walks alone
set_option linter.unusedVariables false
set_option linter.unusedSimpArgs false

/-! ### impl_EarRead: function 14 -/
def impl_EarRead.j0 : Nat → Int → Bool → Int → Int → List Int → List (S70) → Option (Int × Int × List Int × (List (S70)) × List Int)
  | 0, _, _, _, _, _, _ => none
  | k + 1, x1, x14, x307000, x307001, x307002, x307003 => if x14 = true then (some (0, 0, ([] : List Int), ([] : List (S70)), ([] : List Int))) else (if 0 ≤ (mn x1 (x307002.length : Int)) then (if (mn x1 (x307002.length : Int)) ≤ (x307002.length : Int) then ((impl_Ear_copy.f x307000 x307001 (x307002.drop ((mn x1 (x307002.length : Int)) : Int).toNat) x307003).bind fun bt311 => ((impl_clone_byte.f (x307002.take ((mn x1 (x307002.length : Int)) : Int).toNat)).bind fun t320 => (some (bt311.1, bt311.2.1, bt311.2.2.1, bt311.2.2.2, t320)))) else (none)) else (none))
def impl_EarRead.f (k : Nat) (a0_0 : Int) (a0_1 : Int) (l0_2 : List Int) (l0_3 : List (S70)) (a1 : Int) : Option (Int × Int × List Int × (List (S70)) × List Int) := (impl_EarOk.f k a0_0 a0_1 l0_2 l0_3).bind fun t308 => (if t308 = true then (impl_EarRead.j0 k a1 (decide (a1 < 0)) a0_0 a0_1 l0_2 l0_3) else (impl_EarRead.j0 k a1 true a0_0 a0_1 l0_2 l0_3))
theorem impl_EarRead.mono_l : ∀ k, (∀ y0 y1 y2 y3 y4 y5, LeO (impl_EarRead.j0 k y0 y1 y2 y3 y4 y5) (impl_EarRead.j0 (k + 1) y0 y1 y2 y3 y4 y5))
  | 0 => fun _ _ _ _ _ _ r h => by simp [impl_EarRead.j0] at h
  | k + 1 => by
    have ih0 := impl_EarRead.mono_l k
    · intro y0 y1 y2 y3 y4 y5
      unfold impl_EarRead.j0
      repeat' first
      | (with_reducible exact ih0 _ _ _ _ _ _)
      | (with_reducible exact impl_EarOk.mono _ _ _ _ _)
      | (with_reducible exact LeO.refl _)
      | (with_reducible exact LeO.none _)
      | (with_reducible refine LeO.ite ?_ ?_)
      | (with_reducible refine LeO.bind ?_ (fun _ => ?_))
      | exact ih0 _ _ _ _ _ _
      | exact impl_EarOk.mono _ _ _ _ _
      | exact LeO.none _
      | refine LeO.ite ?_ ?_
      | refine LeO.bind ?_ (fun _ => ?_)
theorem impl_EarRead.mono : ∀ a0 a1 a2 a3 a4 k, LeO (impl_EarRead.f k a0 a1 a2 a3 a4) (impl_EarRead.f (k + 1) a0 a1 a2 a3 a4) := by
  intro a0 a1 a2 a3 a4 k
  have ih0 := impl_EarRead.mono_l k
  unfold impl_EarRead.f
  repeat' first
      | (with_reducible exact ih0 _ _ _ _ _ _)
      | (with_reducible exact impl_EarOk.mono _ _ _ _ _)
      | (with_reducible exact LeO.refl _)
      | (with_reducible exact LeO.none _)
      | (with_reducible refine LeO.ite ?_ ?_)
      | (with_reducible refine LeO.bind ?_ (fun _ => ?_))
      | exact ih0 _ _ _ _ _ _
      | exact impl_EarOk.mono _ _ _ _ _
      | exact LeO.none _
      | refine LeO.ite ?_ ?_
      | refine LeO.bind ?_ (fun _ => ?_)
def impl_EarRead.T6 : Bool × List (List Nat × List Nat) := (true, [([], []), ([0], [0]), ([], []), ([2], [2]), ([], []), ([3, 4], [3, 4]), ([5, 1], [5]), ([1, 6, 0, 1], [1]), ([6, 7, 0, 1, 2, 3, 4, 5, 6, 7], [6])])
def impl_EarRead.B6 : List Nat := [0, 1, 0, 4, 0, 28, 63, 127, 255]
theorem impl_EarRead.tab6 : rtab .any (opsOf Try.f14 6) = impl_EarRead.T6 := by kernel_rfl
theorem impl_EarRead.bits6 : waitsOk impl_EarRead.T6.2 impl_EarRead.B6 = true := by kernel_rfl
set_option maxHeartbeats 8000000 in
set_option maxRecDepth 100000 in
theorem impl_EarRead.calls (k : Nat) (a0_0 : Int) (a0_1 : Int) (A0_2 : Option Addr) (c0_2 : Nat) (l0_2 : List Int) (A0_3 : Option Addr) (c0_3 : Nat) (l0_3 : List (S70)) (a1 : Int) (r1 : Int) (r2 : Int) (r3 : List Int) (r4 : List (S70)) (r5 : List Int) (w : World) (hr0_2 : Kd.C (Kd.int .u8) w A0_2 l0_2.length l0_2) (hc0_2 : l0_2.length ≤ c0_2) (hr0_3 : Kd.C k70 w A0_3 l0_3.length l0_3) (hc0_3 : l0_3.length ≤ c0_3) (h : impl_EarRead.f k a0_0 a0_1 l0_2 l0_3 a1 = some (r1, r2, r3, r4, r5)) :
    Calls Try.prog 14 #[.agg #[.int .i64 a0_0, .int .i64 a0_1, .slice A0_2 l0_2.length c0_2, .slice A0_3 l0_3.length c0_3], .int .i64 a1] w fun e w' => ∃ v2_ v3_ v4_ : Value, e = .returned (.tuple #[.agg #[.int .i64 r1, .int .i64 r2, v2_, v3_], v4_]) ∧ Kd.R (Kd.int .u8) 5 w' w.heap.size (fun k_ => some k_ ≠ (v4_ : Value).ownBlock) v2_ r3 ∧ Kd.R k70 70 w' w.heap.size (fun _ => True) v3_ r4 ∧ Kd.R (Kd.int .u8) 5 w' w.heap.size (fun k_ => some k_ ≠ (v2_ : Value).ownBlock) v4_ r5 ∧ Below w.heap.size w w' := by
  have hu25 := Try.underlying25
  have HR0_2 := Aside0.mk hr0_2
  have HC0_2 := Aside0.mk hc0_2
  clear hr0_2 hc0_2
  have HR0_3 := Aside0.mk hr0_3
  have HC0_3 := Aside0.mk hc0_3
  clear hr0_3 hc0_3
  have HB := Aside0.mk (Below.refl w.heap.size w)
  have H : ((impl_EarOk.f k a0_0 a0_1 l0_2 l0_3).bind fun t308 => (if t308 = true then (impl_EarRead.j0 k a1 (decide (a1 < 0)) a0_0 a0_1 l0_2 l0_3) else (impl_EarRead.j0 k a1 true a0_0 a0_1 l0_2 l0_3))) = some (r1, r2, r3, r4, r5) := h
  clear h
  have HC3 := Aside0.mk H
  clear H
  go_enter Try.func14, Try.ntmps14
  go_upto_region 1 with (first | ((with_reducible refine gate_dst (N := 2) rfl ?_); refine box_event ?hg (N := 2) ?hd (cs := #[.int .i64 a0_0, .int .i64 a0_1, .slice A0_2 l0_2.length c0_2, .slice A0_3 l0_3.length c0_3]) (t := 25) ?hr ?_; (case hd => rfl); (case hg => rfl); (case hr => first | (go_simp; done) | (go_simp; rfl)); intro gb306 hg w4 hbox hb; have n0_ := Aside0.mk (below_step (hb0_ HB.out) hb); have n1_ := Aside0.mk (hbox); have n2_ := Aside0.mk ((by rw [hg]; exact (below_size (hb0_ HB.out)) : w.heap.size ≤ gb306)); have n3_ := Aside0.mk ((by rw [hg]; exact (below_size (hb0_ HB.out)) : w.heap.size ≤ gb306)); clear HB; have HB := n0_; have BK306 := n1_; have GW306 := n2_; have GE306 := n3_; clear n0_ n1_ n2_ n3_; clear hb hbox hg) | ((with_reducible refine gate_dst (N := 4) rfl ?_); refine box_event ?hg (N := 4) ?hd (cs := #[.int .i64 0, .int .i64 0, .slice none 0 0, .slice none 0 0]) (t := 25) ?hr ?_; (case hd => rfl); (case hg => rfl); (case hr => first | (go_simp; done) | (go_simp; rfl)); intro gb307 hg w5 hbox hb; have n0_ := Aside0.mk (blk_below (g := gb306) (o := .cells #[.int .i64 a0_0, .int .i64 a0_1, .slice A0_2 l0_2.length c0_2, .slice A0_3 l0_3.length c0_3] 25 (0, 0)) (kb_ BK306.out) hb); have n1_ := Aside0.mk (below_step (hb1_ HB.out GE306.out) hb); have n2_ := Aside0.mk (hbox); have n3_ := Aside0.mk ((by rw [hg]; exact (below_size (hb1_ HB.out GE306.out)) : w.heap.size ≤ gb307)); have n4_ := Aside0.mk ((by rw [hg]; exact (below_size (hb1_ HB.out GE306.out)) : w.heap.size ≤ gb307)); have n5_ := Aside0.mk ((by rw [hg]; exact Nat.ne_of_lt (blk_lt (g := gb306) (o := .cells #[.int .i64 a0_0, .int .i64 a0_1, .slice A0_2 l0_2.length c0_2, .slice A0_3 l0_3.length c0_3] 25 (0, 0)) (kb_ BK306.out)) : gb306 ≠ gb307)); have n6_ := Aside0.mk ((by rw [hg]; exact Nat.ne_of_gt (blk_lt (g := gb306) (o := .cells #[.int .i64 a0_0, .int .i64 a0_1, .slice A0_2 l0_2.length c0_2, .slice A0_3 l0_3.length c0_3] 25 (0, 0)) (kb_ BK306.out)) : gb307 ≠ gb306)); clear BK306; clear HB; have BK306 := n0_; have HB := n1_; have BK307 := n2_; have GW307 := n3_; have GE307 := n4_; have NB306_307 := n5_; have NB307_306 := n6_; clear n0_ n1_ n2_ n3_ n4_ n5_ n6_; clear hb hbox hg))
  (try simp only [Act.put, List.setIfInBounds_toArray, List.set_cons_zero, List.set_cons_succ])
  go_cut [14] (fun v14 wc => ∃ (kq : Nat) (x14_2 : Bool), v14 = .bool x14_2 ∧ Aside0 (impl_EarRead.j0 kq a1 x14_2 a0_0 a0_1 l0_2 l0_3 = some (r1, r2, r3, r4, r5)) ∧ Aside0 (kq ≤ k) ∧ Aside0 (wc.heap[gb306]? = some (.cells #[.int .i64 a0_0, .int .i64 a0_1, (.slice A0_2 l0_2.length c0_2), (.slice A0_3 l0_3.length c0_3)] 25 (0, 0))) ∧ Aside0 (wc.heap[gb307]? = some (.cells #[.int .i64 0, .int .i64 0, (.slice none 0 0), (.slice none 0 0)] 25 (0, 0))) ∧ Aside0 (Below w.heap.size w wc))
  case first =>
    have H := HC3.out
    clear HC3
    replace H := Option.bind_eq_some_iff.mp H
    obtain ⟨t308, A60, H⟩ := H
    replace H : (if t308 = true then (impl_EarRead.j0 k a1 (decide (a1 < 0)) a0_0 a0_1 l0_2 l0_3) else (impl_EarRead.j0 k a1 true a0_0 a0_1 l0_2 l0_3)) = some (r1, r2, r3, r4, r5) := H
    have A6 := Aside0.mk A60
    clear A60
    by_cases c7 : t308 = true
    · subst c7
      have H1 : (impl_EarRead.j0 k a1 (decide (a1 < 0)) a0_0 a0_1 l0_2 l0_3) = some (r1, r2, r3, r4, r5) := by rw [if_pos rfl] at H; exact H
      clear H
      have H := H1
      clear H1
      have H' := Aside0.mk H
      clear H
      have hnb8 := NB306_307.out
      have hnc8 := NB307_306.out
      have hcz9_0 : w5.cell? ⟨gb306, 0, none⟩ = some (.int .i64 a0_0) := (blk_cell BK306.out 0).trans rfl
      have hcz9_1 : w5.cell? ⟨gb306, 1, none⟩ = some (.int .i64 a0_1) := (blk_cell BK306.out 1).trans rfl
      have hcz9_2 : w5.cell? ⟨gb306, 2, none⟩ = some (.slice A0_2 l0_2.length c0_2) := (blk_cell BK306.out 2).trans rfl
      have hcz9_3 : w5.cell? ⟨gb306, 3, none⟩ = some (.slice A0_3 l0_3.length c0_3) := (blk_cell BK306.out 3).trans rfl
      have hfz9_0 := blk_frozen BK306.out 0
      have hfz9_1 := blk_frozen BK306.out 1
      have hfz9_2 := blk_frozen BK306.out 2
      have hfz9_3 := blk_frozen BK306.out 3
      go_wp2_with (first | ((with_reducible refine gate_callee (f := 12) rfl ?_); refine goesL_ (some 9) rfl rfl Try.func12 (by kernel_rfl) rfl #[.agg #[.int .i64 a0_0, .int .i64 a0_1, .slice A0_2 l0_2.length c0_2, .slice A0_3 l0_3.length c0_3]] rfl ar_ ?_; (with_reducible refine (impl_EarOk.calls k a0_0 a0_1 _ _ l0_2 _ _ l0_3 true _ ?side1 ?side2 ?side3 ?side4 A6.out).mono ?_); (case side1 => exact kC_ (Kd.C_below HR0_2.out HB.out)); (case side2 => exact HC0_2.out); (case side3 => exact kC_ (Kd.C_below HR0_3.out HB.out)); (case side4 => exact HC0_3.out); rintro e w10 ⟨rfl, hb⟩; refine ⟨_, rfl, ?_⟩; have n0_ := Aside0.mk (blk_below (g := gb306) (o := .cells #[.int .i64 a0_0, .int .i64 a0_1, .slice A0_2 l0_2.length c0_2, .slice A0_3 l0_3.length c0_3] 25 (0, 0)) (kb_ BK306.out) hb); have n1_ := Aside0.mk (blk_below (g := gb307) (o := .cells #[.int .i64 0, .int .i64 0, .slice none 0 0, .slice none 0 0] 25 (0, 0)) (kb_ BK307.out) hb); have n2_ := Aside0.mk (below_step (hb2_ HB.out GE306.out GE307.out) hb); clear BK306; clear BK307; clear HB; have BK306 := n0_; have BK307 := n1_; have HB := n2_; clear n0_ n1_ n2_; (try clear hb); (try clear hb2); (try clear hk); (try clear hi)))
      go_meet
      case rel => exact ⟨_, (decide (a1 < 0)), (by first | rfl | (simp; done) | (simp [*]; done)), H', ⟨by first | omega | exact Nat.le_refl _⟩, ⟨by refine kb_ ?_; exact BK306.out⟩, ⟨by refine kb_ ?_; exact BK307.out⟩, ⟨by repeat (first | (with_reducible first | exact HB.out | apply below_alloc | apply pw_below_drewN | apply below_drew1 | refine below_set ?_ GE306.out | refine below_set ?_ GE307.out) | exact HB.out)⟩⟩
    · replace c7 := Bool.eq_false_iff.mpr c7
      subst c7
      have H1 : (impl_EarRead.j0 k a1 true a0_0 a0_1 l0_2 l0_3) = some (r1, r2, r3, r4, r5) := by rw [if_neg (show ¬ (false = true) by decide)] at H; exact H
      clear H
      have H := H1
      clear H1
      have H' := Aside0.mk H
      clear H
      have hnb11 := NB306_307.out
      have hnc11 := NB307_306.out
      have hcz12_0 : w5.cell? ⟨gb306, 0, none⟩ = some (.int .i64 a0_0) := (blk_cell BK306.out 0).trans rfl
      have hcz12_1 : w5.cell? ⟨gb306, 1, none⟩ = some (.int .i64 a0_1) := (blk_cell BK306.out 1).trans rfl
      have hcz12_2 : w5.cell? ⟨gb306, 2, none⟩ = some (.slice A0_2 l0_2.length c0_2) := (blk_cell BK306.out 2).trans rfl
      have hcz12_3 : w5.cell? ⟨gb306, 3, none⟩ = some (.slice A0_3 l0_3.length c0_3) := (blk_cell BK306.out 3).trans rfl
      have hfz12_0 := blk_frozen BK306.out 0
      have hfz12_1 := blk_frozen BK306.out 1
      have hfz12_2 := blk_frozen BK306.out 2
      have hfz12_3 := blk_frozen BK306.out 3
      go_wp2_with (first | ((with_reducible refine gate_callee (f := 12) rfl ?_); refine goesL_ (some 9) rfl rfl Try.func12 (by kernel_rfl) rfl #[.agg #[.int .i64 a0_0, .int .i64 a0_1, .slice A0_2 l0_2.length c0_2, .slice A0_3 l0_3.length c0_3]] rfl ar_ ?_; (with_reducible refine (impl_EarOk.calls k a0_0 a0_1 _ _ l0_2 _ _ l0_3 false _ ?side1 ?side2 ?side3 ?side4 A6.out).mono ?_); (case side1 => exact kC_ (Kd.C_below HR0_2.out HB.out)); (case side2 => exact HC0_2.out); (case side3 => exact kC_ (Kd.C_below HR0_3.out HB.out)); (case side4 => exact HC0_3.out); rintro e w13 ⟨rfl, hb⟩; refine ⟨_, rfl, ?_⟩; have n0_ := Aside0.mk (blk_below (g := gb306) (o := .cells #[.int .i64 a0_0, .int .i64 a0_1, .slice A0_2 l0_2.length c0_2, .slice A0_3 l0_3.length c0_3] 25 (0, 0)) (kb_ BK306.out) hb); have n1_ := Aside0.mk (blk_below (g := gb307) (o := .cells #[.int .i64 0, .int .i64 0, .slice none 0 0, .slice none 0 0] 25 (0, 0)) (kb_ BK307.out) hb); have n2_ := Aside0.mk (below_step (hb2_ HB.out GE306.out GE307.out) hb); clear BK306; clear BK307; clear HB; have BK306 := n0_; have BK307 := n1_; have HB := n2_; clear n0_ n1_ n2_; (try clear hb); (try clear hb2); (try clear hk); (try clear hi)))
      go_meet
      case rel => exact ⟨_, (true), (by first | rfl | (simp; done) | (simp [*]; done)), H', ⟨by first | omega | exact Nat.le_refl _⟩, ⟨by refine kb_ ?_; exact BK306.out⟩, ⟨by refine kb_ ?_; exact BK307.out⟩, ⟨by repeat (first | (with_reducible first | exact HB.out | apply below_alloc | apply pw_below_drewN | apply below_drew1 | refine below_set ?_ GE306.out | refine below_set ?_ GE307.out) | exact HB.out)⟩⟩
  case rest =>
    clear HC3
    try clear c1
    try clear p2
    try clear c7
    try clear c8
    try clear c11
    try clear c12
    try clear hcz12_0
    try clear hcz12_1
    try clear hcz12_2
    try clear hcz12_3
    try clear hcz9_0
    try clear hcz9_1
    try clear hcz9_2
    try clear hcz9_3
    try clear hfz12_0
    try clear hfz12_1
    try clear hfz12_2
    try clear hfz12_3
    try clear hfz9_0
    try clear hfz9_1
    try clear hfz9_2
    try clear hfz9_3
    obtain ⟨kq, x14_2, rfl, HA, HJ2, BK306, BK307, HB⟩ := hcut
    cases kq with
    | zero => exact absurd HA.out (by simp [impl_EarRead.j0])
    | succ kj2 =>
      have H := HA.out
      clear HA
      simp only [impl_EarRead.j0] at H
      by_cases c14 : x14_2 = true
      · subst c14
        have H1 : (some (0, 0, ([] : List Int), ([] : List (S70)), ([] : List Int))) = some (r1, r2, r3, r4, r5) := by rw [if_pos rfl] at H; exact H
        clear H
        have H := H1
        clear H1
        simp only [Option.some.injEq, Prod.mk.injEq] at H
        obtain ⟨rfl, rfl, rfl, rfl, rfl⟩ := H
        have hnb15 := NB307_306.out
        have hnc15 := NB306_307.out
        have hcz16_0 : wc.cell? ⟨gb307, 0, none⟩ = some (.int .i64 0) := (blk_cell BK307.out 0).trans rfl
        have hcz16_1 : wc.cell? ⟨gb307, 1, none⟩ = some (.int .i64 0) := (blk_cell BK307.out 1).trans rfl
        have hcz16_2 : wc.cell? ⟨gb307, 2, none⟩ = some (.slice none 0 0) := (blk_cell BK307.out 2).trans rfl
        have hcz16_3 : wc.cell? ⟨gb307, 3, none⟩ = some (.slice none 0 0) := (blk_cell BK307.out 3).trans rfl
        have hfz16_0 := blk_frozen BK307.out 0
        have hfz16_1 := blk_frozen BK307.out 1
        have hfz16_2 := blk_frozen BK307.out 2
        have hfz16_3 := blk_frozen BK307.out 3
        go_wp2
        refine bodyPost_ret (results_ct rfl _ _ gb307 25 #[.int .i64 0, .int .i64 0, .slice none 0 0, .slice none 0 0] (0, 0) _ rfl (by refine kb_ ?_; refine blk_put (cs := #[.int .i64 0, .int .i64 0, .slice none 0 0, .slice none 0 0]) ?_ 3 _ rfl; refine kb_ ?_; refine blk_put (cs := #[.int .i64 0, .int .i64 0, .slice none 0 0, .slice none 0 0]) ?_ 2 _ rfl; refine kb_ ?_; refine blk_put (cs := #[.int .i64 0, .int .i64 0, .slice none 0 0, .slice none 0 0]) ?_ 1 _ rfl; refine kb_ ?_; refine blk_put (cs := #[.int .i64 0, .int .i64 0, .slice none 0 0, .slice none 0 0]) ?_ 0 _ rfl; refine kb_ ?_; exact BK307.out) Try.underlying25 rfl (by kernel_rfl)) rfl ?_
        exact ⟨_, _, _, by first | rfl | (simp [errW_none, errW_some] <;> rfl) | (simp [*, errW_none, errW_some] <;> rfl), by first | exact Kd.R_nil _ _ _ _ _ | exact Kd.N_nil _ _ _ _ _ | exact Kd.V_nil _ _ _ _ _ | exact Kd.Q_nil _ _ _ _ _ | exact Kd.S_nil _ _ _ _ _, by first | exact Kd.R_nil _ _ _ _ _ | exact Kd.N_nil _ _ _ _ _ | exact Kd.V_nil _ _ _ _ _ | exact Kd.Q_nil _ _ _ _ _ | exact Kd.S_nil _ _ _ _ _, by first | exact Kd.R_nil _ _ _ _ _ | exact Kd.N_nil _ _ _ _ _ | exact Kd.V_nil _ _ _ _ _ | exact Kd.Q_nil _ _ _ _ _ | exact Kd.S_nil _ _ _ _ _, by repeat (first | (with_reducible first | exact HB.out | apply below_alloc | apply pw_below_drewN | apply below_drew1 | refine below_set ?_ GE306.out | refine below_set ?_ GE307.out) | exact HB.out)⟩
      · replace c14 := Bool.eq_false_iff.mpr c14
        subst c14
        have H1 : (if 0 ≤ (mn a1 (l0_2.length : Int)) then (if (mn a1 (l0_2.length : Int)) ≤ (l0_2.length : Int) then ((impl_Ear_copy.f a0_0 a0_1 (l0_2.drop ((mn a1 (l0_2.length : Int)) : Int).toNat) l0_3).bind fun bt311 => ((impl_clone_byte.f (l0_2.take ((mn a1 (l0_2.length : Int)) : Int).toNat)).bind fun t320 => (some (bt311.1, bt311.2.1, bt311.2.2.1, bt311.2.2.2, t320)))) else (none)) else (none)) = some (r1, r2, r3, r4, r5) := by rw [if_neg (show ¬ (false = true) by decide)] at H; exact H
        clear H
        have H := H1
        clear H1
        obtain ⟨ji17, hji17⟩ : ∃ j_ : Int, (mn a1 (l0_2.length : Int)) = j_ := ⟨_, rfl⟩
        replace H : (if 0 ≤ (ji17) then (if (ji17) ≤ (l0_2.length : Int) then ((impl_Ear_copy.f a0_0 a0_1 (l0_2.drop ((ji17) : Int).toNat) l0_3).bind fun bt311 => ((impl_clone_byte.f (l0_2.take ((ji17) : Int).toNat)).bind fun t320 => (some (bt311.1, bt311.2.1, bt311.2.2.1, bt311.2.2.2, t320)))) else (none)) else (none)) = some (r1, r2, r3, r4, r5) := by first | (rw [hji17] at H; exact H) | (simp only [hji17] at H ⊢; exact H)
        have hji17_ : (if (l0_2.length : Int) < a1 then (l0_2.length : Int) else a1) = ji17 := hji17
        by_cases c18 : 0 ≤ (ji17)
        · rw [if_pos c18] at H
          have c18b0 := eq_true c18
          have c18b1 : decide (0 ≤ (ji17)) = true := decide_eq_true c18
          clear c18
          by_cases c19 : (ji17) ≤ (l0_2.length : Int)
          · rw [if_pos c19] at H
            have c19b0 := eq_true c19
            have c19b1 : decide ((ji17) ≤ (l0_2.length : Int)) = true := decide_eq_true c19
            clear c19
            replace H := Option.bind_eq_some_iff.mp H
            obtain ⟨⟨t311, t312, t313, t316⟩, A200, H⟩ := H
            replace H : ((impl_clone_byte.f (l0_2.take ((ji17) : Int).toNat)).bind fun t320 => (some (t311, t312, t313, t316, t320))) = some (r1, r2, r3, r4, r5) := H
            have A20 := Aside0.mk A200
            clear A200
            have c21b0 := eq_true (of_decide_eq_true (by first | (with_reducible assumption) | assumption) : 0 ≤ (ji17))
            have c22b0 := eq_true (of_decide_eq_true (by first | (with_reducible assumption) | assumption) : (ji17) ≤ (l0_2.length : Int))
            replace H := Option.bind_eq_some_iff.mp H
            obtain ⟨t320, A230, H⟩ := H
            replace H : (some (t311, t312, t313, t316, t320)) = some (r1, r2, r3, r4, r5) := H
            have A23 := Aside0.mk A230
            clear A230
            simp only [Option.some.injEq, Prod.mk.injEq] at H
            obtain ⟨rfl, rfl, rfl, rfl, rfl⟩ := H
            have hnb24 := NB306_307.out
            have hnc24 := NB307_306.out
            have hcz25_0 : wc.cell? ⟨gb306, 0, none⟩ = some (.int .i64 a0_0) := (blk_cell BK306.out 0).trans rfl
            have hcz25_1 : wc.cell? ⟨gb306, 1, none⟩ = some (.int .i64 a0_1) := (blk_cell BK306.out 1).trans rfl
            have hcz25_2 : wc.cell? ⟨gb306, 2, none⟩ = some (.slice A0_2 l0_2.length c0_2) := (blk_cell BK306.out 2).trans rfl
            have hcz25_3 : wc.cell? ⟨gb306, 3, none⟩ = some (.slice A0_3 l0_3.length c0_3) := (blk_cell BK306.out 3).trans rfl
            have hfz25_0 := blk_frozen BK306.out 0
            have hfz25_1 := blk_frozen BK306.out 1
            have hfz25_2 := blk_frozen BK306.out 2
            have hfz25_3 := blk_frozen BK306.out 3
            try go_wp2_with (first | ((with_reducible refine gate_dst (N := 7) rfl ?_); refine box_event ?hg (N := 7) ?hd (cs := #[.int .i64 0, .int .i64 0, .slice none 0 0, .slice none 0 0]) (t := 25) ?hr ?_; (case hd => rfl); (case hg => rfl); (case hr => first | (go_simp; done) | (go_simp; rfl)); intro gb309 hg w26 hbox hb; have n0_ := Aside0.mk (blk_below (g := gb306) (o := .cells #[.int .i64 a0_0, .int .i64 a0_1, .slice A0_2 l0_2.length c0_2, .slice A0_3 l0_3.length c0_3] 25 (0, 0)) (kb_ BK306.out) hb); have n1_ := Aside0.mk (blk_below (g := gb307) (o := .cells #[.int .i64 0, .int .i64 0, .slice none 0 0, .slice none 0 0] 25 (0, 0)) (kb_ BK307.out) hb); have n2_ := Aside0.mk (below_step (hb2_ HB.out GE306.out GE307.out) hb); have n3_ := Aside0.mk (hbox); have n4_ := Aside0.mk ((by rw [hg]; exact (below_size (hb2_ HB.out GE306.out GE307.out)) : w.heap.size ≤ gb309)); have n5_ := Aside0.mk ((by rw [hg]; exact (below_size (hb2_ HB.out GE306.out GE307.out)) : w.heap.size ≤ gb309)); have n6_ := Aside0.mk ((by rw [hg]; exact Nat.ne_of_lt (blk_lt (g := gb306) (o := .cells #[.int .i64 a0_0, .int .i64 a0_1, .slice A0_2 l0_2.length c0_2, .slice A0_3 l0_3.length c0_3] 25 (0, 0)) (kb_ BK306.out)) : gb306 ≠ gb309)); have n7_ := Aside0.mk ((by rw [hg]; exact Nat.ne_of_gt (blk_lt (g := gb306) (o := .cells #[.int .i64 a0_0, .int .i64 a0_1, .slice A0_2 l0_2.length c0_2, .slice A0_3 l0_3.length c0_3] 25 (0, 0)) (kb_ BK306.out)) : gb309 ≠ gb306)); have n8_ := Aside0.mk ((by rw [hg]; exact Nat.ne_of_lt (blk_lt (g := gb307) (o := .cells #[.int .i64 0, .int .i64 0, .slice none 0 0, .slice none 0 0] 25 (0, 0)) (kb_ BK307.out)) : gb307 ≠ gb309)); have n9_ := Aside0.mk ((by rw [hg]; exact Nat.ne_of_gt (blk_lt (g := gb307) (o := .cells #[.int .i64 0, .int .i64 0, .slice none 0 0, .slice none 0 0] 25 (0, 0)) (kb_ BK307.out)) : gb309 ≠ gb307)); clear BK306; clear BK307; clear HB; have BK306 := n0_; have BK307 := n1_; have HB := n2_; have BK309 := n3_; have GW309 := n4_; have GE309 := n5_; have NB306_309 := n6_; have NB309_306 := n7_; have NB307_309 := n8_; have NB309_307 := n9_; clear n0_ n1_ n2_ n3_ n4_ n5_ n6_ n7_ n8_ n9_; clear hb hbox hg; have hnb27 := NB309_306.out; have hnc27 := NB306_309.out; have hnb28 := NB309_307.out; have hnc28 := NB307_309.out; have hcz29_0 : w26.cell? ⟨gb309, 0, none⟩ = some (.int .i64 0) := (blk_cell BK309.out 0).trans rfl; have hcz29_1 : w26.cell? ⟨gb309, 1, none⟩ = some (.int .i64 0) := (blk_cell BK309.out 1).trans rfl; have hcz29_2 : w26.cell? ⟨gb309, 2, none⟩ = some (.slice none 0 0) := (blk_cell BK309.out 2).trans rfl; have hcz29_3 : w26.cell? ⟨gb309, 3, none⟩ = some (.slice none 0 0) := (blk_cell BK309.out 3).trans rfl; have hfz29_0 := blk_frozen BK309.out 0; have hfz29_1 := blk_frozen BK309.out 1; have hfz29_2 := blk_frozen BK309.out 2; have hfz29_3 := blk_frozen BK309.out 3; have hcz30_0 : w26.cell? ⟨gb306, 0, none⟩ = some (.int .i64 a0_0) := (blk_cell BK306.out 0).trans rfl; have hcz30_1 : w26.cell? ⟨gb306, 1, none⟩ = some (.int .i64 a0_1) := (blk_cell BK306.out 1).trans rfl; have hcz30_2 : w26.cell? ⟨gb306, 2, none⟩ = some (.slice A0_2 l0_2.length c0_2) := (blk_cell BK306.out 2).trans rfl; have hcz30_3 : w26.cell? ⟨gb306, 3, none⟩ = some (.slice A0_3 l0_3.length c0_3) := (blk_cell BK306.out 3).trans rfl; have hfz30_0 := blk_frozen BK306.out 0; have hfz30_1 := blk_frozen BK306.out 1; have hfz30_2 := blk_frozen BK306.out 2; have hfz30_3 := blk_frozen BK306.out 3; obtain ⟨i031, hi031, _, hsz31, _⟩ := info_parts info5; obtain ⟨A31, hcut31, hA31, hC31⟩ := print_drop_of (P := Try.prog) (Value.int .u8) 0 22 5 .i64 Try.underlying22 hi031 hsz31 A0_2 c0_2 l0_2 (ji17) (of_decide_eq_true (by first | (with_reducible assumption) | assumption)) (of_decide_eq_true (by first | (with_reducible assumption) | assumption)) HC0_2.out; have HR310 := Aside0.mk (Kd.C_of_reads (h1 := fun _ => rfl) (hA31 _ (Kd.reads_of_C HR0_2.out))); have HC310 := Aside0.mk hC31; clear hA31 hC31 hi031 hsz31))
            (try simp only [← List.length_drop])
            have n0_ : Aside0 ((((((w26.setCell ⟨gb309, 0, none⟩ (.int .i64 a0_0)).setCell ⟨gb309, 1, none⟩ (.int .i64 a0_1)).setCell ⟨gb309, 2, none⟩ (.slice A0_2 l0_2.length c0_2)).setCell ⟨gb309, 3, none⟩ (.slice A0_3 l0_3.length c0_3)).setCell ⟨gb309, 2, none⟩ (.slice A31 (l0_2.drop ((ji17) : Int).toNat).length (c0_2 - (ji17).toNat))).heap[gb306]? = some (.cells #[.int .i64 a0_0, .int .i64 a0_1, .slice A0_2 l0_2.length c0_2, .slice A0_3 l0_3.length c0_3] 25 (0, 0))) := ⟨by refine kb_ ?_; refine blk_far ?_ NB306_309.out _; refine kb_ ?_; refine blk_far ?_ NB306_309.out _; refine kb_ ?_; refine blk_far ?_ NB306_309.out _; refine kb_ ?_; refine blk_far ?_ NB306_309.out _; refine kb_ ?_; refine blk_far ?_ NB306_309.out _; refine kb_ ?_; exact BK306.out⟩
            have n1_ : Aside0 ((((((w26.setCell ⟨gb309, 0, none⟩ (.int .i64 a0_0)).setCell ⟨gb309, 1, none⟩ (.int .i64 a0_1)).setCell ⟨gb309, 2, none⟩ (.slice A0_2 l0_2.length c0_2)).setCell ⟨gb309, 3, none⟩ (.slice A0_3 l0_3.length c0_3)).setCell ⟨gb309, 2, none⟩ (.slice A31 (l0_2.drop ((ji17) : Int).toNat).length (c0_2 - (ji17).toNat))).heap[gb307]? = some (.cells #[.int .i64 0, .int .i64 0, .slice none 0 0, .slice none 0 0] 25 (0, 0))) := ⟨by refine kb_ ?_; refine blk_far ?_ NB307_309.out _; refine kb_ ?_; refine blk_far ?_ NB307_309.out _; refine kb_ ?_; refine blk_far ?_ NB307_309.out _; refine kb_ ?_; refine blk_far ?_ NB307_309.out _; refine kb_ ?_; refine blk_far ?_ NB307_309.out _; refine kb_ ?_; exact BK307.out⟩
            have n2_ : Aside0 ((((((w26.setCell ⟨gb309, 0, none⟩ (.int .i64 a0_0)).setCell ⟨gb309, 1, none⟩ (.int .i64 a0_1)).setCell ⟨gb309, 2, none⟩ (.slice A0_2 l0_2.length c0_2)).setCell ⟨gb309, 3, none⟩ (.slice A0_3 l0_3.length c0_3)).setCell ⟨gb309, 2, none⟩ (.slice A31 (l0_2.drop ((ji17) : Int).toNat).length (c0_2 - (ji17).toNat))).heap[gb309]? = some (.cells #[.int .i64 a0_0, .int .i64 a0_1, .slice A31 (l0_2.drop ((ji17) : Int).toNat).length (c0_2 - (ji17).toNat), .slice A0_3 l0_3.length c0_3] 25 (0, 0))) := ⟨by refine kb_ ?_; refine blk_put (cs := #[.int .i64 a0_0, .int .i64 a0_1, .slice A0_2 l0_2.length c0_2, .slice A0_3 l0_3.length c0_3]) ?_ 2 _ rfl; refine kb_ ?_; refine blk_put (cs := #[.int .i64 a0_0, .int .i64 a0_1, .slice A0_2 l0_2.length c0_2, .slice none 0 0]) ?_ 3 _ rfl; refine kb_ ?_; refine blk_put (cs := #[.int .i64 a0_0, .int .i64 a0_1, .slice none 0 0, .slice none 0 0]) ?_ 2 _ rfl; refine kb_ ?_; refine blk_put (cs := #[.int .i64 a0_0, .int .i64 0, .slice none 0 0, .slice none 0 0]) ?_ 1 _ rfl; refine kb_ ?_; refine blk_put (cs := #[.int .i64 0, .int .i64 0, .slice none 0 0, .slice none 0 0]) ?_ 0 _ rfl; refine kb_ ?_; exact BK309.out⟩
            have n3_ : Aside0 (Below w.heap.size w (((((w26.setCell ⟨gb309, 0, none⟩ (.int .i64 a0_0)).setCell ⟨gb309, 1, none⟩ (.int .i64 a0_1)).setCell ⟨gb309, 2, none⟩ (.slice A0_2 l0_2.length c0_2)).setCell ⟨gb309, 3, none⟩ (.slice A0_3 l0_3.length c0_3)).setCell ⟨gb309, 2, none⟩ (.slice A31 (l0_2.drop ((ji17) : Int).toNat).length (c0_2 - (ji17).toNat)))) := ⟨by repeat (first | (with_reducible first | exact HB.out | apply below_alloc | apply pw_below_drewN | apply below_drew1 | refine below_set ?_ GE306.out | refine below_set ?_ GE307.out | refine below_set ?_ GE309.out) | exact HB.out)⟩
            (try clear BK306)
            (try clear BK307)
            (try clear BK309)
            (try clear HB)
            generalize (((((w26.setCell ⟨gb309, 0, none⟩ (.int .i64 a0_0)).setCell ⟨gb309, 1, none⟩ (.int .i64 a0_1)).setCell ⟨gb309, 2, none⟩ (.slice A0_2 l0_2.length c0_2)).setCell ⟨gb309, 3, none⟩ (.slice A0_3 l0_3.length c0_3)).setCell ⟨gb309, 2, none⟩ (.slice A31 (l0_2.drop ((ji17) : Int).toNat).length (c0_2 - (ji17).toNat))) = w32 at n0_ n1_ n2_ n3_ ⊢
            have BK306 := n0_
            have BK307 := n1_
            have BK309 := n2_
            have HB := n3_
            clear n0_ n1_ n2_ n3_
            have n0_ := Aside0.mk (blk_drew BK306.out)
            have n1_ := Aside0.mk (blk_drew BK307.out)
            have n2_ := Aside0.mk (blk_drew BK309.out)
            have n3_ := Aside0.mk (below_drew1 HB.out)
            clear BK306
            clear BK307
            clear BK309
            clear HB
            have BK306 := n0_
            have BK307 := n1_
            have BK309 := n2_
            have HB := n3_
            clear n0_ n1_ n2_ n3_
            obtain ⟨i034, hi034, _, hsz34, _⟩ := info_parts info5
            obtain ⟨hcut34, hA34, hC34⟩ := print_take_of (P := Try.prog) (Value.int .u8) 0 22 5 .i64 Try.underlying22 hi034 hsz34 A0_2 c0_2 l0_2 (ji17) (of_decide_eq_true (by first | (with_reducible assumption) | assumption)) (of_decide_eq_true (by first | (with_reducible assumption) | assumption)) HC0_2.out
            have HR319 := Aside0.mk (Kd.C_of_reads (h1 := fun _ => rfl) (hA34 _ (Kd.reads_of_C HR0_2.out)))
            have HC319 := Aside0.mk hC34
            clear hA34 hC34 hi034 hsz34
            refine start_ (n := 9) (S := fun w' => w'.cell? ⟨gb309, 0, none⟩ = some (.int .i64 a0_0) ∧ w'.cell? ⟨gb309, 1, none⟩ = some (.int .i64 a0_1) ∧ w'.cell? ⟨gb309, 2, none⟩ = some (.slice A31 (l0_2.drop ((ji17) : Int).toNat).length (c0_2 - (ji17).toNat)) ∧ w'.cell? ⟨gb309, 3, none⟩ = some (.slice A0_3 l0_3.length c0_3) ∧ w'.cell? ⟨gb306, 0, none⟩ = some (.int .i64 a0_0) ∧ w'.cell? ⟨gb306, 1, none⟩ = some (.int .i64 a0_1) ∧ w'.cell? ⟨gb306, 2, none⟩ = some (.slice A0_2 l0_2.length c0_2) ∧ w'.cell? ⟨gb306, 3, none⟩ = some (.slice A0_3 l0_3.length c0_3)) (ds := []) #[false, false, false, false, false, false, false, false, false] (by kernel_rfl) rfl rfl ⟨(blk_cell BK309.out 0).trans rfl, (blk_cell BK309.out 1).trans rfl, (blk_cell BK309.out 2).trans rfl, (blk_cell BK309.out 3).trans rfl, (blk_cell BK306.out 0).trans rfl, (blk_cell BK306.out 1).trans rfl, (blk_cell BK306.out 2).trans rfl, (blk_cell BK306.out 3).trans rfl⟩ (fun hHeld => ?_); refine with_tabW impl_EarRead.tab6 impl_EarRead.bits6 (fun HT_ HW_ => ?_)
            generalize w32.drew = w33 at BK306 BK307 BK309 HB HR319 hHeld ⊢
            refine pure_ (i := 2) (N := some 29) (v := ?_) (a' := ?_) #[false, false, true, false, false, false, false, false, false] rfl rfl (any_of HT_.out (by kernel_rfl)) (fun _ _ _ h => h) (Or.inl ⟨by rfl, ?_⟩) ?_ ?_
            rotate_left
            · intro w'
              go_simp
              with_reducible rfl
            rotate_left
            · simp only [Act.put, List.setIfInBounds_toArray, List.set_cons_zero, List.set_cons_succ, i64_w, i32_w]
              rfl
            refine pure_ (i := 4) (N := some 31) (v := ?_) (a' := ?_) #[false, false, true, false, true, false, false, false, false] rfl rfl (any_of HT_.out (by kernel_rfl)) (fun _ _ _ h => h) (Or.inl ⟨by rfl, ?_⟩) ?_ ?_
            rotate_left
            · intro w'
              go_simp
              with_reducible rfl
            rotate_left
            · simp only [Act.put, List.setIfInBounds_toArray, List.set_cons_zero, List.set_cons_succ, i64_w, i32_w]
              rfl
            refine take_ (i := 0) (N := some 27) (v := ?_) (a' := ?_) #[true, false, true, false, true, false, false, false, false] rfl rfl (take_ofW HT_.out HW_.out (by kernel_rfl)) (fun _ _ _ h => h) (Or.inl ⟨by rfl, ?_⟩) hHeld ?_ ?_
            rotate_left
            · rintro w' ⟨s0, s1, s2, s3, s4, s5, s6, s7⟩
              go_simp
              with_reducible rfl
            rotate_left
            · simp only [Act.put, List.setIfInBounds_toArray, List.set_cons_zero, List.set_cons_succ, i64_w, i32_w]
              rfl
            refine take_ (i := 3) (N := some 30) (v := ?_) (a' := ?_) #[true, false, true, true, true, false, false, false, false] rfl rfl (take_ofW HT_.out HW_.out (by kernel_rfl)) (fun _ _ _ h => h) (Or.inl ⟨by rfl, ?_⟩) hHeld ?_ ?_
            rotate_left
            · rintro w' ⟨s0, s1, s2, s3, s4, s5, s6, s7⟩
              go_simp
              with_reducible rfl
            rotate_left
            · simp only [Act.put, List.setIfInBounds_toArray, List.set_cons_zero, List.set_cons_succ, i64_w, i32_w]
              rfl
            refine pure_ (i := 5) (N := some 32) (v := ?_) (a' := ?_) #[true, false, true, true, true, true, false, false, false] rfl rfl (any_of HT_.out (by kernel_rfl)) (fun _ _ _ h => h) (Or.inl ⟨by rfl, ?_⟩) ?_ ?_
            rotate_left
            · intro w'
              go_simp
              with_reducible rfl
            rotate_left
            · simp only [Act.put, List.setIfInBounds_toArray, List.set_cons_zero, List.set_cons_succ, i64_w, i32_w]
              rfl
            refine one_ (i := 1) (N := some 28) #[true, true, true, true, true, true, false, false, false] rfl rfl (one_of HT_.out (by kernel_rfl)) (by decide) (fun K hK => ?_)
            refine goes_ Try.func46 (by kernel_rfl) rfl #[.agg #[.int .i64 a0_0, .int .i64 a0_1, .slice A31 (l0_2.drop ((ji17) : Int).toNat).length (c0_2 - (ji17).toNat), .slice A0_3 l0_3.length c0_3]] (by rfl) rfl rfl (by (try simp only [List.map_toArray, List.map_cons, List.map_nil]); first | done | (rw [show (l0_2.drop ((ji17) : Int).toNat).length = (l0_2.length - (ji17).toNat) from List.length_drop] <;> rfl) | (simp only [hji17]; rfl) | rfl | (simp only [List.length_drop, List.length_take]; rfl)) ?_
            with_reducible refine (impl_Ear_copy.calls a0_0 a0_1 _ _ (l0_2.drop ((ji17) : Int).toNat) _ _ l0_3 t311 t312 t313 t316 _ ?side1 ?side2 ?side3 ?side4 A20.out).mono ?_
            (case side1 => exact kC_ (Kd.C_below HR310.out HB.out))
            (case side2 => exact HC310.out)
            (case side3 => exact kC_ (Kd.C_below HR0_3.out HB.out))
            (case side4 => exact HC0_3.out)
            rintro e w35 ⟨v314, v317, rfl, ho0, ho1, hb⟩
            refine ⟨_, rfl, ?_⟩
            have n0_ := Aside0.mk (Kd.R_lower ho0 (below_size (hb3_ HB.out GE306.out GE307.out GE309.out)))
            have n1_ := Aside0.mk (Kd.R_lower ho1 (below_size (hb3_ HB.out GE306.out GE307.out GE309.out)))
            have n2_ := Aside0.mk (blk_below (g := gb306) (o := .cells #[.int .i64 a0_0, .int .i64 a0_1, .slice A0_2 l0_2.length c0_2, .slice A0_3 l0_3.length c0_3] 25 (0, 0)) (kb_ BK306.out) hb)
            have n3_ := Aside0.mk (blk_below (g := gb307) (o := .cells #[.int .i64 0, .int .i64 0, .slice none 0 0, .slice none 0 0] 25 (0, 0)) (kb_ BK307.out) hb)
            have n4_ := Aside0.mk (blk_below (g := gb309) (o := .cells #[.int .i64 a0_0, .int .i64 a0_1, .slice A31 (l0_2.drop ((ji17) : Int).toNat).length (c0_2 - (ji17).toNat), .slice A0_3 l0_3.length c0_3] 25 (0, 0)) (kb_ BK309.out) hb)
            have n5_ := Aside0.mk (below_step (hb3_ HB.out GE306.out GE307.out GE309.out) hb)
            clear BK306
            clear BK307
            clear BK309
            clear HB
            have HO315 := n0_
            have HO318 := n1_
            have BK306 := n2_
            have BK307 := n3_
            have BK309 := n4_
            have HB := n5_
            clear n0_ n1_ n2_ n3_ n4_ n5_
            (try clear hb)
            (try clear hb2)
            (try clear hk)
            (try clear hi)
            (try clear ho0)
            (try clear ho1)
            refine hK.out _ _ ⟨(blk_cell BK309.out 0).trans rfl, (blk_cell BK309.out 1).trans rfl, (blk_cell BK309.out 2).trans rfl, (blk_cell BK309.out 3).trans rfl, (blk_cell BK306.out 0).trans rfl, (blk_cell BK306.out 1).trans rfl, (blk_cell BK306.out 2).trans rfl, (blk_cell BK306.out 3).trans rfl⟩ (fun hHeld => ?_)
            clear hK K
            refine norm_ (a' := ?_) ?_ ?_
            rotate_left
            · show Act.put _ (some 28) _ = _
              simp only [Act.put, List.setIfInBounds_toArray, List.set_cons_zero, List.set_cons_succ, i64_w, i32_w]
              rfl
            refine one_ (i := 6) (N := some 33) #[true, true, true, true, true, true, true, false, false] rfl rfl (one_of HT_.out (by kernel_rfl)) (by decide) (fun K hK => ?_)
            refine goes_ Try.func47 (by kernel_rfl) rfl #[.slice A0_2 (l0_2.take ((ji17) : Int).toNat).length c0_2] (by rfl) rfl rfl (by (try simp only [List.map_toArray, List.map_cons, List.map_nil]); first | done | (rw [show (l0_2.take ((ji17) : Int).toNat).length = (ji17).toNat from (by rw [List.length_take]; have h_ : ((ji17) : Int) ≤ (l0_2.length : Int) := of_decide_eq_true (by first | (with_reducible assumption) | assumption); omega)] <;> rfl) | (simp only [hji17]; rfl) | rfl | (simp only [List.length_drop, List.length_take]; rfl)) ?_
            with_reducible refine (impl_clone_byte.calls _ _ (l0_2.take ((ji17) : Int).toNat) t320 _ ?side1 ?side2 A23.out).mono ?_
            (case side1 => exact kC_ (Kd.C_below HR319.out HB.out))
            (case side2 => exact HC319.out)
            rintro e w36 ⟨v321, rfl, ho0, hb⟩
            refine ⟨_, rfl, ?_⟩
            have n0_ := Aside0.mk (Kd.R_elder' (kR_ HO315.out) (Kd.R_base ho0) hb)
            have n1_ := Aside0.mk (Kd.R_below (kR_ HO318.out) hb)
            have n2_ := Aside0.mk (Kd.R_lower (Kd.R_new' ho0 (Kd.R_lt (kR_ HO315.out))) (below_size (hb3_ HB.out GE306.out GE307.out GE309.out)))
            have n3_ := Aside0.mk (blk_below (g := gb306) (o := .cells #[.int .i64 a0_0, .int .i64 a0_1, .slice A0_2 l0_2.length c0_2, .slice A0_3 l0_3.length c0_3] 25 (0, 0)) (kb_ BK306.out) hb)
            have n4_ := Aside0.mk (blk_below (g := gb307) (o := .cells #[.int .i64 0, .int .i64 0, .slice none 0 0, .slice none 0 0] 25 (0, 0)) (kb_ BK307.out) hb)
            have n5_ := Aside0.mk (blk_below (g := gb309) (o := .cells #[.int .i64 a0_0, .int .i64 a0_1, .slice A31 (l0_2.drop ((ji17) : Int).toNat).length (c0_2 - (ji17).toNat), .slice A0_3 l0_3.length c0_3] 25 (0, 0)) (kb_ BK309.out) hb)
            have n6_ := Aside0.mk (below_step (hb3_ HB.out GE306.out GE307.out GE309.out) hb)
            clear HO315
            clear HO318
            clear BK306
            clear BK307
            clear BK309
            clear HB
            have HO315 := n0_
            have HO318 := n1_
            have HO322 := n2_
            have BK306 := n3_
            have BK307 := n4_
            have BK309 := n5_
            have HB := n6_
            clear n0_ n1_ n2_ n3_ n4_ n5_ n6_
            (try clear hb)
            (try clear hb2)
            (try clear hk)
            (try clear hi)
            (try clear ho0)
            obtain ⟨Ao39, co39, eo39⟩ := Kd.R_slice HO315.out
            (first | subst eo39 | (injection eo39 with f1_ f2_ f3_; have f4_ := f1_.symm; have f5_ := f3_.symm; clear f1_ f2_ f3_; subst f4_; subst f5_))
            obtain ⟨Ao41, co41, eo41⟩ := Kd.R_slice HO318.out
            (first | subst eo41 | (injection eo41 with f1_ f2_ f3_; have f4_ := f1_.symm; have f5_ := f3_.symm; clear f1_ f2_ f3_; subst f4_; subst f5_))
            refine hK.out _ _ ⟨(blk_cell BK309.out 0).trans rfl, (blk_cell BK309.out 1).trans rfl, (blk_cell BK309.out 2).trans rfl, (blk_cell BK309.out 3).trans rfl, (blk_cell BK306.out 0).trans rfl, (blk_cell BK306.out 1).trans rfl, (blk_cell BK306.out 2).trans rfl, (blk_cell BK306.out 3).trans rfl⟩ (fun hHeld => ?_)
            clear hK K
            refine norm_ (a' := ?_) ?_ ?_
            rotate_left
            · show Act.put _ (some 33) _ = _
              simp only [Act.put, List.setIfInBounds_toArray, List.set_cons_zero, List.set_cons_succ, i64_w, i32_w]
              rfl
            refine one_ (i := 7) (N := none) #[true, true, true, true, true, true, true, true, false] rfl rfl (one_of HT_.out (by kernel_rfl)) (by decide) (fun K hK => ?_)
            have hs37 : w36.cell? ⟨gb307, 0, none⟩ = some (.int .i64 0) := (blk_cell BK307.out 0).trans rfl
            have hfs37 := blk_frozen BK307.out 0
            have hns37_0 := NB306_307.out
            have hns37_2 := NB309_307.out
            have hms37_0 := NB307_306.out
            have hms37_2 := NB307_309.out
            have hs38 : w36.cell? ⟨gb307, 1, none⟩ = some (.int .i64 0) := (blk_cell BK307.out 1).trans rfl
            have hfs38 := blk_frozen BK307.out 1
            have hns38_0 := NB306_307.out
            have hns38_2 := NB309_307.out
            have hms38_0 := NB307_306.out
            have hms38_2 := NB307_309.out
            have hs40 : w36.cell? ⟨gb307, 2, none⟩ = some (.slice none 0 0) := (blk_cell BK307.out 2).trans rfl
            have hfs40 := blk_frozen BK307.out 2
            have hns40_0 := NB306_307.out
            have hns40_2 := NB309_307.out
            have hms40_0 := NB307_306.out
            have hms40_2 := NB307_309.out
            have hs42 : w36.cell? ⟨gb307, 3, none⟩ = some (.slice none 0 0) := (blk_cell BK307.out 3).trans rfl
            have hfs42 := blk_frozen BK307.out 3
            have hns42_0 := NB306_307.out
            have hns42_2 := NB309_307.out
            have hms42_0 := NB307_306.out
            have hms42_2 := NB307_309.out
            refine skip_ (w1 := ?_) (by rfl) rfl ?_ ?_
            rotate_left
            · go_simp
              rfl
            refine hK.out _ _ ⟨((cell_far (p := ⟨gb307, _, none⟩) NB309_307.out _).trans (((cell_far (p := ⟨gb307, _, none⟩) NB309_307.out _).trans (((cell_far (p := ⟨gb307, _, none⟩) NB309_307.out _).trans (((cell_far (p := ⟨gb307, _, none⟩) NB309_307.out _).trans (hHeld.1)))))))), ((cell_far (p := ⟨gb307, _, none⟩) NB309_307.out _).trans (((cell_far (p := ⟨gb307, _, none⟩) NB309_307.out _).trans (((cell_far (p := ⟨gb307, _, none⟩) NB309_307.out _).trans (((cell_far (p := ⟨gb307, _, none⟩) NB309_307.out _).trans (hHeld.2.1)))))))), ((cell_far (p := ⟨gb307, _, none⟩) NB309_307.out _).trans (((cell_far (p := ⟨gb307, _, none⟩) NB309_307.out _).trans (((cell_far (p := ⟨gb307, _, none⟩) NB309_307.out _).trans (((cell_far (p := ⟨gb307, _, none⟩) NB309_307.out _).trans (hHeld.2.2.1)))))))), ((cell_far (p := ⟨gb307, _, none⟩) NB309_307.out _).trans (((cell_far (p := ⟨gb307, _, none⟩) NB309_307.out _).trans (((cell_far (p := ⟨gb307, _, none⟩) NB309_307.out _).trans (((cell_far (p := ⟨gb307, _, none⟩) NB309_307.out _).trans (hHeld.2.2.2.1)))))))), ((cell_far (p := ⟨gb307, _, none⟩) NB306_307.out _).trans (((cell_far (p := ⟨gb307, _, none⟩) NB306_307.out _).trans (((cell_far (p := ⟨gb307, _, none⟩) NB306_307.out _).trans (((cell_far (p := ⟨gb307, _, none⟩) NB306_307.out _).trans (hHeld.2.2.2.2.1)))))))), ((cell_far (p := ⟨gb307, _, none⟩) NB306_307.out _).trans (((cell_far (p := ⟨gb307, _, none⟩) NB306_307.out _).trans (((cell_far (p := ⟨gb307, _, none⟩) NB306_307.out _).trans (((cell_far (p := ⟨gb307, _, none⟩) NB306_307.out _).trans (hHeld.2.2.2.2.2.1)))))))), ((cell_far (p := ⟨gb307, _, none⟩) NB306_307.out _).trans (((cell_far (p := ⟨gb307, _, none⟩) NB306_307.out _).trans (((cell_far (p := ⟨gb307, _, none⟩) NB306_307.out _).trans (((cell_far (p := ⟨gb307, _, none⟩) NB306_307.out _).trans (hHeld.2.2.2.2.2.2.1)))))))), ((cell_far (p := ⟨gb307, _, none⟩) NB306_307.out _).trans (((cell_far (p := ⟨gb307, _, none⟩) NB306_307.out _).trans (((cell_far (p := ⟨gb307, _, none⟩) NB306_307.out _).trans (((cell_far (p := ⟨gb307, _, none⟩) NB306_307.out _).trans (hHeld.2.2.2.2.2.2.2))))))))⟩ (fun hHeld => ?_)
            clear hK K
            refine pure_ (i := 8) (N := some 5) (v := ?_) (a' := ?_) #[true, true, true, true, true, true, true, true, true] rfl rfl (any_of HT_.out (by kernel_rfl)) (fun _ _ _ h => h) (Or.inl ⟨by rfl, ?_⟩) ?_ ?_
            rotate_left
            · intro w'
              go_simp
              with_reducible rfl
            rotate_left
            · simp only [Act.put, List.setIfInBounds_toArray, List.set_cons_zero, List.set_cons_succ, i64_w, i32_w]
              rfl
            refine done_ (done_of HT_.out (by kernel_rfl)) ?_
            try go_wp2
            refine bodyPost_ret (results_ct rfl _ _ gb307 25 #[.int .i64 t311, .int .i64 t312, .slice Ao39 t313.length co39, .slice Ao41 t316.length co41] (0, 0) _ rfl (by refine kb_ ?_; refine blk_put (cs := #[.int .i64 t311, .int .i64 t312, .slice Ao39 t313.length co39, .slice none 0 0]) ?_ 3 _ rfl; refine kb_ ?_; refine blk_put (cs := #[.int .i64 t311, .int .i64 t312, .slice none 0 0, .slice none 0 0]) ?_ 2 _ rfl; refine kb_ ?_; refine blk_put (cs := #[.int .i64 t311, .int .i64 0, .slice none 0 0, .slice none 0 0]) ?_ 1 _ rfl; refine kb_ ?_; refine blk_put (cs := #[.int .i64 0, .int .i64 0, .slice none 0 0, .slice none 0 0]) ?_ 0 _ rfl; refine kb_ ?_; exact BK307.out) Try.underlying25 rfl (by kernel_rfl)) rfl ?_
            exact ⟨_, _, _, by first | rfl | (simp [errW_none, errW_some] <;> rfl) | (simp only [← hji17]; first | rfl | (simp [errW_none, errW_some] <;> rfl)) | (simp [*, errW_none, errW_some] <;> rfl), by refine kR_ ?_; exact Kd.R_mono (Kd.R_f gb307 3 (.slice Ao41 t316.length co41) (Kd.R_f gb307 2 (.slice Ao39 t313.length co39) (Kd.R_f gb307 1 (.int .i64 t312) (Kd.R_f gb307 0 (.int .i64 t311) (Kd.R_types HO315.out BK307.out (by decide)))))) (fun _ hk => hk.1.2), by refine kR_ ?_; exact Kd.R_mono (Kd.R_f gb307 3 (.slice Ao41 t316.length co41) (Kd.R_f gb307 2 (.slice Ao39 t313.length co39) (Kd.R_f gb307 1 (.int .i64 t312) (Kd.R_f gb307 0 (.int .i64 t311) (Kd.R_types HO318.out BK307.out (by decide)))))) (fun _ hk => trivial), by refine kR_ ?_; exact Kd.R_mono (Kd.R_f gb307 3 (.slice Ao41 t316.length co41) (Kd.R_f gb307 2 (.slice Ao39 t313.length co39) (Kd.R_f gb307 1 (.int .i64 t312) (Kd.R_f gb307 0 (.int .i64 t311) (Kd.R_types HO322.out BK307.out (by decide)))))) (fun _ hk => hk.1.2), by repeat (first | (with_reducible first | exact HB.out | apply below_alloc | apply pw_below_drewN | apply below_drew1 | refine below_set ?_ GE306.out | refine below_set ?_ GE307.out | refine below_set ?_ GE309.out) | exact HB.out)⟩
          · rw [if_neg c19] at H
            exact absurd H (by simp)
        · rw [if_neg c18] at H
          exact absurd H (by simp)

/-! ### laws_FnEarFree: function 3 -/
def laws_FnEarFree.f (k : Nat) (l0 : List Int) : Option (Bool) := if (l0.length : Int) > 1048576 then (some true) else ((spec_DrawEarFree.f k l0).bind fun bt323 => ((impl_EarFree.f k bt323.1 bt323.2.1 bt323.2.2.1 bt323.2.2.2).bind fun t332 => ((spec_EarFree.f k bt323.1 bt323.2.1 bt323.2.2.1 bt323.2.2.2).bind fun t333 => (if t332 = t333 then ((impl_EarOk.f k bt323.1 bt323.2.1 bt323.2.2.1 bt323.2.2.2).bind fun t334 => (if t334 = true then ((impl_EarRead.f k bt323.1 bt323.2.1 bt323.2.2.1 bt323.2.2.2 (bt323.2.2.1.length : Int)).bind fun bt336 => (if t332 ≥ 0 then (if t332 ≤ bt323.2.1 then ((impl_EarFree.f k bt336.1 bt336.2.1 bt336.2.2.1 bt336.2.2.2.1).bind fun t348 => (some (t348 == bt323.2.1))) else (some false)) else (some false))) else (if t332 = 0 then ((laws_alive.f k).bind fun t335 => (some t335)) else (some false)))) else (some false)))))
theorem laws_FnEarFree.mono : ∀ a0 k, LeO (laws_FnEarFree.f k a0) (laws_FnEarFree.f (k + 1) a0) := by
  intro a0 k
  unfold laws_FnEarFree.f
  repeat' first
      | (with_reducible exact impl_EarFree.mono _ _ _ _ _)
      | (with_reducible exact impl_EarOk.mono _ _ _ _ _)
      | (with_reducible exact impl_EarRead.mono _ _ _ _ _ _)
      | (with_reducible exact laws_alive.mono _)
      | (with_reducible exact spec_DrawEarFree.mono _ _)
      | (with_reducible exact spec_EarFree.mono _ _ _ _ _)
      | (with_reducible exact LeO.refl _)
      | (with_reducible exact LeO.none _)
      | (with_reducible refine LeO.ite ?_ ?_)
      | (with_reducible refine LeO.bind ?_ (fun _ => ?_))
      | exact impl_EarFree.mono _ _ _ _ _
      | exact impl_EarOk.mono _ _ _ _ _
      | exact impl_EarRead.mono _ _ _ _ _ _
      | exact laws_alive.mono _
      | exact spec_DrawEarFree.mono _ _
      | exact spec_EarFree.mono _ _ _ _ _
      | exact LeO.none _
      | refine LeO.ite ?_ ?_
      | refine LeO.bind ?_ (fun _ => ?_)
def laws_FnEarFree.T10 : Bool × List (List Nat × List Nat) := (true, [([], []), ([0], [0]), ([1], [1]), ([2], [2]), ([2], [2]), ([4, 2], [2, 4]), ([3, 5, 2], [2, 3, 5]), ([2, 6], [2, 6]), ([7, 2], [7]), ([8], [8]), ([9, 8, 8], [8, 9]), ([8], [8]), ([11, 8], [8, 11]), ([10, 12, 8], [8, 10, 12]), ([8, 13], [8, 13]), ([14, 10, 0, 1, 2, 3, 4, 5, 6, 7, 8, 9, 10, 11, 12, 13, 14], [14])])
def laws_FnEarFree.B10 : List Nat := [0, 1, 3, 7, 7, 23, 63, 127, 255, 511, 1023, 511, 2559, 8191, 16383, 32767]
theorem laws_FnEarFree.tab10 : rtab .any (opsOf Try.f3 10) = laws_FnEarFree.T10 := by kernel_rfl
theorem laws_FnEarFree.bits10 : waitsOk laws_FnEarFree.T10.2 laws_FnEarFree.B10 = true := by kernel_rfl
set_option maxHeartbeats 8000000 in
set_option maxRecDepth 100000 in
theorem laws_FnEarFree.calls (k : Nat) (A0 : Option Addr) (c0 : Nat) (l0 : List Int) (r : Bool) (w : World) (hr0 : Kd.C (Kd.int .u8) w A0 l0.length l0) (hc0 : l0.length ≤ c0) (h : laws_FnEarFree.f k l0 = some r) (hlw : r = true) :
    Calls Try.prog 3 #[.slice A0 l0.length c0] w fun e w' => e = .returned (.bool r) ∧ Below w.heap.size w w' := by
  have hu25 := Try.underlying25
  have HLW := Aside0.mk hlw
  clear hlw
  have HR0 := Aside0.mk hr0
  have HC0 := Aside0.mk hc0
  clear hr0 hc0
  have HB := Aside0.mk (Below.refl w.heap.size w)
  have H : (if (l0.length : Int) > 1048576 then (some true) else ((spec_DrawEarFree.f k l0).bind fun bt323 => ((impl_EarFree.f k bt323.1 bt323.2.1 bt323.2.2.1 bt323.2.2.2).bind fun t332 => ((spec_EarFree.f k bt323.1 bt323.2.1 bt323.2.2.1 bt323.2.2.2).bind fun t333 => (if t332 = t333 then ((impl_EarOk.f k bt323.1 bt323.2.1 bt323.2.2.1 bt323.2.2.2).bind fun t334 => (if t334 = true then ((impl_EarRead.f k bt323.1 bt323.2.1 bt323.2.2.1 bt323.2.2.2 (bt323.2.2.1.length : Int)).bind fun bt336 => (if t332 ≥ 0 then (if t332 ≤ bt323.2.1 then ((impl_EarFree.f k bt336.1 bt336.2.1 bt336.2.2.1 bt336.2.2.2.1).bind fun t348 => (some (t348 == bt323.2.1))) else (some false)) else (some false))) else (if t332 = 0 then ((laws_alive.f k).bind fun t335 => (some t335)) else (some false)))) else (some false)))))) = some r := h
  clear h
  by_cases c2 : (l0.length : Int) > 1048576
  · rw [if_pos c2] at H
    have c2b0 : decide (1048576 < (l0.length : Int)) = true := decide_eq_true c2
    have c2b1 : decide (1048576 < l0.length) = true := decide_eq_true (by omega)
    clear c2
    obtain rfl := Option.some.inj H
    go_enter Try.func3, Try.ntmps3
    go_wp2
    go_ret
    exact ⟨by first | rfl | (simp [errW_none, errW_some] <;> rfl) | (simp [*, errW_none, errW_some] <;> rfl), by repeat (first | (with_reducible first | exact HB.out | apply below_alloc | apply pw_below_drewN | apply below_drew1) | exact HB.out)⟩
  · rw [if_neg c2] at H
    have c2b0 : decide (1048576 < (l0.length : Int)) = false := decide_eq_false c2
    have c2b1 : decide (1048576 < l0.length) = false := decide_eq_false (by omega)
    clear c2
    replace H := Option.bind_eq_some_iff.mp H
    obtain ⟨⟨t323, t324, t325, t328⟩, A30, H⟩ := H
    replace H : ((impl_EarFree.f k t323 t324 t325 t328).bind fun t332 => ((spec_EarFree.f k t323 t324 t325 t328).bind fun t333 => (if t332 = t333 then ((impl_EarOk.f k t323 t324 t325 t328).bind fun t334 => (if t334 = true then ((impl_EarRead.f k t323 t324 t325 t328 (t325.length : Int)).bind fun bt336 => (if t332 ≥ 0 then (if t332 ≤ t324 then ((impl_EarFree.f k bt336.1 bt336.2.1 bt336.2.2.1 bt336.2.2.2.1).bind fun t348 => (some (t348 == t324))) else (some false)) else (some false))) else (if t332 = 0 then ((laws_alive.f k).bind fun t335 => (some t335)) else (some false)))) else (some false)))) = some r := H
    have A3 := Aside0.mk A30
    clear A30
    replace H := Option.bind_eq_some_iff.mp H
    obtain ⟨t332, A40, H⟩ := H
    replace H : ((spec_EarFree.f k t323 t324 t325 t328).bind fun t333 => (if t332 = t333 then ((impl_EarOk.f k t323 t324 t325 t328).bind fun t334 => (if t334 = true then ((impl_EarRead.f k t323 t324 t325 t328 (t325.length : Int)).bind fun bt336 => (if t332 ≥ 0 then (if t332 ≤ t324 then ((impl_EarFree.f k bt336.1 bt336.2.1 bt336.2.2.1 bt336.2.2.2.1).bind fun t348 => (some (t348 == t324))) else (some false)) else (some false))) else (if t332 = 0 then ((laws_alive.f k).bind fun t335 => (some t335)) else (some false)))) else (some false))) = some r := H
    have A4 := Aside0.mk A40
    clear A40
    replace H := Option.bind_eq_some_iff.mp H
    obtain ⟨t333, A50, H⟩ := H
    replace H : (if t332 = t333 then ((impl_EarOk.f k t323 t324 t325 t328).bind fun t334 => (if t334 = true then ((impl_EarRead.f k t323 t324 t325 t328 (t325.length : Int)).bind fun bt336 => (if t332 ≥ 0 then (if t332 ≤ t324 then ((impl_EarFree.f k bt336.1 bt336.2.1 bt336.2.2.1 bt336.2.2.2.1).bind fun t348 => (some (t348 == t324))) else (some false)) else (some false))) else (if t332 = 0 then ((laws_alive.f k).bind fun t335 => (some t335)) else (some false)))) else (some false)) = some r := H
    have A5 := Aside0.mk A50
    clear A50
    by_cases c6 : t332 = t333
    · rw [if_pos c6] at H
      have c6b0 : (t332 == t333) = true := beq_iff_eq.mpr c6
      have c6b1 : (t332 != t333) = false := bne_eq_false_iff_eq.mpr c6
      clear c6
      replace H := Option.bind_eq_some_iff.mp H
      obtain ⟨t334, A70, H⟩ := H
      replace H : (if t334 = true then ((impl_EarRead.f k t323 t324 t325 t328 (t325.length : Int)).bind fun bt336 => (if t332 ≥ 0 then (if t332 ≤ t324 then ((impl_EarFree.f k bt336.1 bt336.2.1 bt336.2.2.1 bt336.2.2.2.1).bind fun t348 => (some (t348 == t324))) else (some false)) else (some false))) else (if t332 = 0 then ((laws_alive.f k).bind fun t335 => (some t335)) else (some false))) = some r := H
      have A7 := Aside0.mk A70
      clear A70
      by_cases c8 : t334 = true
      · subst c8
        have H1 : ((impl_EarRead.f k t323 t324 t325 t328 (t325.length : Int)).bind fun bt336 => (if t332 ≥ 0 then (if t332 ≤ t324 then ((impl_EarFree.f k bt336.1 bt336.2.1 bt336.2.2.1 bt336.2.2.2.1).bind fun t348 => (some (t348 == t324))) else (some false)) else (some false))) = some r := by rw [if_pos rfl] at H; exact H
        clear H
        have H := H1
        clear H1
        replace H := Option.bind_eq_some_iff.mp H
        obtain ⟨⟨t336, t337, t338, t341, t344⟩, A90, H⟩ := H
        replace H : (if t332 ≥ 0 then (if t332 ≤ t324 then ((impl_EarFree.f k t336 t337 t338 t341).bind fun t348 => (some (t348 == t324))) else (some false)) else (some false)) = some r := H
        have A9 := Aside0.mk A90
        clear A90
        by_cases c10 : t332 ≥ 0
        · rw [if_pos c10] at H
          have c10b0 : decide (0 ≤ t332) = true := decide_eq_true c10
          clear c10
          by_cases c11 : t332 ≤ t324
          · rw [if_pos c11] at H
            have c11b0 : decide (t332 ≤ t324) = true := decide_eq_true c11
            clear c11
            replace H := Option.bind_eq_some_iff.mp H
            obtain ⟨t348, A120, H⟩ := H
            replace H : (some (t348 == t324)) = some r := H
            have A12 := Aside0.mk A120
            clear A120
            obtain rfl := Option.some.inj H
            go_enter Try.func3, Try.ntmps3
            try go_wp2_with (first | ((with_reducible refine gate_callee (f := 9) rfl ?_); refine goesL_ (some 11) rfl rfl Try.func9 (by kernel_rfl) rfl #[.slice A0 l0.length c0] rfl ar_ ?_; (with_reducible refine (spec_DrawEarFree.calls k _ _ l0 t323 t324 t325 t328 _ ?side1 ?side2 A3.out).mono ?_); (case side1 => exact kC_ HR0.out); (case side2 => exact HC0.out); rintro e w13 ⟨v326, v329, rfl, ho0, ho1, hb⟩; refine ⟨_, rfl, ?_⟩; have n0_ := Aside0.mk (Kd.R_lower ho0 (below_size (hb0_ HB.out))); have n1_ := Aside0.mk (Kd.Q_lower ho1 (below_size (hb0_ HB.out))); have n2_ := Aside0.mk (below_step (hb0_ HB.out) hb); clear HB; have HO327 := n0_; have HO330 := n1_; have HB := n2_; clear n0_ n1_ n2_; (try clear hb); (try clear hb2); (try clear hk); (try clear hi); (try clear ho0); (try clear ho1)) | ((with_reducible refine gate_dst (N := 3) rfl ?_); refine box_event ?hg (N := 3) ?hd (cs := #[.int .i64 0, .int .i64 0, .slice none 0 0, .slice none 0 0]) (t := 25) ?hr ?_; (case hd => rfl); (case hg => rfl); (case hr => first | (go_simp; done) | (go_simp; rfl)); intro gb331 hg w14 hbox hb; have n0_ := Aside0.mk (Kd.R_below (kR_ HO327.out) hb); have n1_ := Aside0.mk (Kd.Q_below (by (with_reducible repeat (first | apply Kd.Q_alloc | apply Kd.Q_drewN | apply Kd.Q_drew)); exact HO330.out) hb); have n2_ := Aside0.mk (below_step (hb0_ HB.out) hb); have n3_ := Aside0.mk (hbox); have n4_ := Aside0.mk ((by rw [hg]; exact (below_size (hb0_ HB.out)) : w.heap.size ≤ gb331)); have n5_ := Aside0.mk ((by rw [hg]; exact (below_size (hb0_ HB.out)) : w.heap.size ≤ gb331)); clear HO327; clear HO330; clear HB; have HO327 := n0_; have HO330 := n1_; have HB := n2_; have BK331 := n3_; have GW331 := n4_; have GE331 := n5_; clear n0_ n1_ n2_ n3_ n4_ n5_; clear hb hbox hg; have hcz15_0 : w14.cell? ⟨gb331, 0, none⟩ = some (.int .i64 0) := (blk_cell BK331.out 0).trans rfl; have hcz15_1 : w14.cell? ⟨gb331, 1, none⟩ = some (.int .i64 0) := (blk_cell BK331.out 1).trans rfl; have hcz15_2 : w14.cell? ⟨gb331, 2, none⟩ = some (.slice none 0 0) := (blk_cell BK331.out 2).trans rfl; have hcz15_3 : w14.cell? ⟨gb331, 3, none⟩ = some (.slice none 0 0) := (blk_cell BK331.out 3).trans rfl; have hfz15_0 := blk_frozen BK331.out 0; have hfz15_1 := blk_frozen BK331.out 1; have hfz15_2 := blk_frozen BK331.out 2; have hfz15_3 := blk_frozen BK331.out 3; obtain ⟨Ao16, co16, eo16⟩ := Kd.R_slice HO327.out; subst eo16; obtain ⟨Ao17, co17, eo17, _⟩ := Kd.Q_slice HO330.out; subst eo17) | ((with_reducible refine gate_callee (f := 10) rfl ?_); refine goesL_ (some 13) rfl rfl Try.func10 (by kernel_rfl) rfl #[.agg #[.int .i64 t323, .int .i64 t324, .slice Ao16 t325.length co16, .slice Ao17 t328.length co17]] rfl ar_ ?_; (with_reducible refine (impl_EarFree.calls k t323 t324 _ _ t325 _ _ t328 t332 _ ?side1 ?side2 ?side3 ?side4 A4.out).mono ?_); (case side1 => refine (Kd.R_reads' (e := 5) (base := w.heap.size) (ok := fun k_ => True) (n := t325.length) (c := co16) ?_).2.2; exact (by refine kR_ ?_; exact (Kd.R_mono (Kd.R_f gb331 3 (.slice Ao17 t328.length co17) (Kd.R_f gb331 2 (.slice Ao16 t325.length co16) (Kd.R_f gb331 1 (.int .i64 t324) (Kd.R_f gb331 0 (.int .i64 t323) (Kd.R_types HO327.out BK331.out (by decide)))))) (fun _ h_ => op1_ h_)))); (case side2 => exact (Kd.R_reads' HO327.out).2.1); (case side3 => refine (Kd.Q_reads' (e := 70) (base := w.heap.size) (ok := fun k_ => True) (n := t328.length) (c := co17) ?_).2.2; exact (by (with_reducible repeat (first | apply Kd.Q_alloc | apply Kd.Q_drewN | apply Kd.Q_drew)); exact (Kd.Q_mono (Kd.Q_far (p := ⟨gb331, 3, none⟩) (Kd.Q_far (p := ⟨gb331, 2, none⟩) (Kd.Q_far (p := ⟨gb331, 1, none⟩) (Kd.Q_far (p := ⟨gb331, 0, none⟩) (Kd.Q_types HO330.out BK331.out (by decide)) (fun _ hk => hk.2) (.int .i64 t323)) (fun _ hk => hk.2) (.int .i64 t324)) (fun _ hk => hk.2) (.slice Ao16 t325.length co16)) (fun _ hk => hk.2) (.slice Ao17 t328.length co17)) (fun _ h_ => op1_ h_)))); (case side4 => exact (Kd.Q_reads' HO330.out).2.1); rintro e w18 ⟨rfl, hb⟩; refine ⟨_, rfl, ?_⟩; have n0_ := Aside0.mk (Kd.R_below (by refine kR_ ?_; exact (Kd.R_mono (Kd.R_f gb331 3 (.slice Ao17 t328.length co17) (Kd.R_f gb331 2 (.slice Ao16 t325.length co16) (Kd.R_f gb331 1 (.int .i64 t324) (Kd.R_f gb331 0 (.int .i64 t323) (Kd.R_types HO327.out BK331.out (by decide)))))) (fun _ h_ => op1_ h_))) hb); have n1_ := Aside0.mk (Kd.Q_below (by (with_reducible repeat (first | apply Kd.Q_alloc | apply Kd.Q_drewN | apply Kd.Q_drew)); exact (Kd.Q_mono (Kd.Q_far (p := ⟨gb331, 3, none⟩) (Kd.Q_far (p := ⟨gb331, 2, none⟩) (Kd.Q_far (p := ⟨gb331, 1, none⟩) (Kd.Q_far (p := ⟨gb331, 0, none⟩) (Kd.Q_types HO330.out BK331.out (by decide)) (fun _ hk => hk.2) (.int .i64 t323)) (fun _ hk => hk.2) (.int .i64 t324)) (fun _ hk => hk.2) (.slice Ao16 t325.length co16)) (fun _ hk => hk.2) (.slice Ao17 t328.length co17)) (fun _ h_ => op1_ h_))) hb); have n2_ := Aside0.mk (blk_below (g := gb331) (o := .cells #[.int .i64 t323, .int .i64 t324, .slice Ao16 t325.length co16, .slice Ao17 t328.length co17] 25 (0, 0)) (by refine kb_ ?_; refine blk_put (cs := #[.int .i64 t323, .int .i64 t324, .slice Ao16 t325.length co16, .slice none 0 0]) ?_ 3 _ rfl; refine kb_ ?_; refine blk_put (cs := #[.int .i64 t323, .int .i64 t324, .slice none 0 0, .slice none 0 0]) ?_ 2 _ rfl; refine kb_ ?_; refine blk_put (cs := #[.int .i64 t323, .int .i64 0, .slice none 0 0, .slice none 0 0]) ?_ 1 _ rfl; refine kb_ ?_; refine blk_put (cs := #[.int .i64 0, .int .i64 0, .slice none 0 0, .slice none 0 0]) ?_ 0 _ rfl; refine kb_ ?_; exact BK331.out) hb); have n3_ := Aside0.mk (below_step (hb1_ HB.out GE331.out) hb); clear HO327; clear HO330; clear BK331; clear HB; have HO327 := n0_; have HO330 := n1_; have BK331 := n2_; have HB := n3_; clear n0_ n1_ n2_ n3_; (try clear hb); (try clear hb2); (try clear hk); (try clear hi); have hcz19_0 : w18.cell? ⟨gb331, 0, none⟩ = some (.int .i64 t323) := (blk_cell BK331.out 0).trans rfl; have hcz19_1 : w18.cell? ⟨gb331, 1, none⟩ = some (.int .i64 t324) := (blk_cell BK331.out 1).trans rfl; have hcz19_2 : w18.cell? ⟨gb331, 2, none⟩ = some (.slice Ao16 t325.length co16) := (blk_cell BK331.out 2).trans rfl; have hcz19_3 : w18.cell? ⟨gb331, 3, none⟩ = some (.slice Ao17 t328.length co17) := (blk_cell BK331.out 3).trans rfl; have hfz19_0 := blk_frozen BK331.out 0; have hfz19_1 := blk_frozen BK331.out 1; have hfz19_2 := blk_frozen BK331.out 2; have hfz19_3 := blk_frozen BK331.out 3) | ((with_reducible refine gate_callee (f := 11) rfl ?_); refine goesL_ (some 16) rfl rfl Try.func11 (by kernel_rfl) rfl #[.agg #[.int .i64 t323, .int .i64 t324, .slice Ao16 t325.length co16, .slice Ao17 t328.length co17]] rfl ar_ ?_; (with_reducible refine (spec_EarFree.calls k t323 t324 _ _ t325 _ _ t328 t333 _ ?side1 ?side2 ?side3 ?side4 A5.out).mono ?_); (case side1 => exact kC_ (Kd.R_reads' HO327.out).2.2); (case side2 => exact (Kd.R_reads' HO327.out).2.1); (case side3 => exact kC_ (Kd.Q_reads' HO330.out).2.2); (case side4 => exact (Kd.Q_reads' HO330.out).2.1); rintro e w20 ⟨rfl, hb⟩; refine ⟨_, rfl, ?_⟩; have n0_ := Aside0.mk (Kd.R_below (kR_ HO327.out) hb); have n1_ := Aside0.mk (Kd.Q_below (by (with_reducible repeat (first | apply Kd.Q_alloc | apply Kd.Q_drewN | apply Kd.Q_drew)); exact HO330.out) hb); have n2_ := Aside0.mk (blk_below (g := gb331) (o := .cells #[.int .i64 t323, .int .i64 t324, .slice Ao16 t325.length co16, .slice Ao17 t328.length co17] 25 (0, 0)) (kb_ BK331.out) hb); have n3_ := Aside0.mk (below_step (hb1_ HB.out GE331.out) hb); clear HO327; clear HO330; clear BK331; clear HB; have HO327 := n0_; have HO330 := n1_; have BK331 := n2_; have HB := n3_; clear n0_ n1_ n2_ n3_; (try clear hb); (try clear hb2); (try clear hk); (try clear hi); have hcz21_0 : w20.cell? ⟨gb331, 0, none⟩ = some (.int .i64 t323) := (blk_cell BK331.out 0).trans rfl; have hcz21_1 : w20.cell? ⟨gb331, 1, none⟩ = some (.int .i64 t324) := (blk_cell BK331.out 1).trans rfl; have hcz21_2 : w20.cell? ⟨gb331, 2, none⟩ = some (.slice Ao16 t325.length co16) := (blk_cell BK331.out 2).trans rfl; have hcz21_3 : w20.cell? ⟨gb331, 3, none⟩ = some (.slice Ao17 t328.length co17) := (blk_cell BK331.out 3).trans rfl; have hfz21_0 := blk_frozen BK331.out 0; have hfz21_1 := blk_frozen BK331.out 1; have hfz21_2 := blk_frozen BK331.out 2; have hfz21_3 := blk_frozen BK331.out 3) | ((with_reducible refine gate_callee (f := 12) rfl ?_); refine goesL_ (some 19) rfl rfl Try.func12 (by kernel_rfl) rfl #[.agg #[.int .i64 t323, .int .i64 t324, .slice Ao16 t325.length co16, .slice Ao17 t328.length co17]] rfl ar_ ?_; (with_reducible refine (impl_EarOk.calls k t323 t324 _ _ t325 _ _ t328 true _ ?side1 ?side2 ?side3 ?side4 A7.out).mono ?_); (case side1 => exact kC_ (Kd.R_reads' HO327.out).2.2); (case side2 => exact (Kd.R_reads' HO327.out).2.1); (case side3 => exact kC_ (Kd.Q_reads' HO330.out).2.2); (case side4 => exact (Kd.Q_reads' HO330.out).2.1); rintro e w22 ⟨rfl, hb⟩; refine ⟨_, rfl, ?_⟩; have n0_ := Aside0.mk (Kd.R_below (kR_ HO327.out) hb); have n1_ := Aside0.mk (Kd.Q_below (by (with_reducible repeat (first | apply Kd.Q_alloc | apply Kd.Q_drewN | apply Kd.Q_drew)); exact HO330.out) hb); have n2_ := Aside0.mk (blk_below (g := gb331) (o := .cells #[.int .i64 t323, .int .i64 t324, .slice Ao16 t325.length co16, .slice Ao17 t328.length co17] 25 (0, 0)) (kb_ BK331.out) hb); have n3_ := Aside0.mk (below_step (hb1_ HB.out GE331.out) hb); clear HO327; clear HO330; clear BK331; clear HB; have HO327 := n0_; have HO330 := n1_; have BK331 := n2_; have HB := n3_; clear n0_ n1_ n2_ n3_; (try clear hb); (try clear hb2); (try clear hk); (try clear hi); have hcz23_0 : w22.cell? ⟨gb331, 0, none⟩ = some (.int .i64 t323) := (blk_cell BK331.out 0).trans rfl; have hcz23_1 : w22.cell? ⟨gb331, 1, none⟩ = some (.int .i64 t324) := (blk_cell BK331.out 1).trans rfl; have hcz23_2 : w22.cell? ⟨gb331, 2, none⟩ = some (.slice Ao16 t325.length co16) := (blk_cell BK331.out 2).trans rfl; have hcz23_3 : w22.cell? ⟨gb331, 3, none⟩ = some (.slice Ao17 t328.length co17) := (blk_cell BK331.out 3).trans rfl; have hfz23_0 := blk_frozen BK331.out 0; have hfz23_1 := blk_frozen BK331.out 1; have hfz23_2 := blk_frozen BK331.out 2; have hfz23_3 := blk_frozen BK331.out 3) | ((with_reducible refine gate_callee (f := 14) rfl ?_); refine goesL_ (some 31) rfl rfl Try.func14 (by kernel_rfl) rfl #[.agg #[.int .i64 t323, .int .i64 t324, .slice Ao16 t325.length co16, .slice Ao17 t328.length co17], .int .i64 (t325.length : Int)] rfl ar_ ?_; (with_reducible refine (impl_EarRead.calls k t323 t324 _ _ t325 _ _ t328 (t325.length : Int) t336 t337 t338 t341 t344 _ ?side1 ?side2 ?side3 ?side4 A9.out).mono ?_); (case side1 => exact kC_ (Kd.R_reads' HO327.out).2.2); (case side2 => exact (Kd.R_reads' HO327.out).2.1); (case side3 => exact kC_ (Kd.Q_reads' HO330.out).2.2); (case side4 => exact (Kd.Q_reads' HO330.out).2.1); rintro e w24 ⟨v339, v342, v345, rfl, ho0, ho1, ho2, hb⟩; refine ⟨_, rfl, ?_⟩; have n0_ := Aside0.mk (Kd.R_mono (Kd.R_told (Kd.R_told (Kd.R_old (kR_ HO327.out) hb) (Kd.R_base ho0)) (Kd.R_base ho2)) (fun _ h_ => op1_ h_)); have n1_ := Aside0.mk (Kd.Q_elder' (by (with_reducible repeat (first | apply Kd.Q_alloc | apply Kd.Q_drewN | apply Kd.Q_drew)); exact HO330.out) (Kd.R_base ho1) hb); have n2_ := Aside0.mk (Kd.R_lower (Kd.R_new' ho0 (Kd.R_lt (kR_ HO327.out))) (below_size (hb1_ HB.out GE331.out))); have n3_ := Aside0.mk (Kd.R_lower (Kd.R_new' ho1 (Kd.Q_lt (by (with_reducible repeat (first | apply Kd.Q_alloc | apply Kd.Q_drewN | apply Kd.Q_drew)); exact HO330.out))) (below_size (hb1_ HB.out GE331.out))); have n4_ := Aside0.mk (Kd.R_lower (Kd.R_new' ho2 (Kd.R_lt (kR_ HO327.out))) (below_size (hb1_ HB.out GE331.out))); have n5_ := Aside0.mk (blk_below (g := gb331) (o := .cells #[.int .i64 t323, .int .i64 t324, .slice Ao16 t325.length co16, .slice Ao17 t328.length co17] 25 (0, 0)) (kb_ BK331.out) hb); have n6_ := Aside0.mk (below_step (hb1_ HB.out GE331.out) hb); clear HO327; clear HO330; clear BK331; clear HB; have HO327 := n0_; have HO330 := n1_; have HO340 := n2_; have HO343 := n3_; have HO346 := n4_; have BK331 := n5_; have HB := n6_; clear n0_ n1_ n2_ n3_ n4_ n5_ n6_; (try clear hb); (try clear hb2); (try clear hk); (try clear hi); (try clear ho0); (try clear ho1); (try clear ho2)) | ((with_reducible refine gate_dst (N := 5) rfl ?_); refine box_event ?hg (N := 5) ?hd (cs := #[.int .i64 0, .int .i64 0, .slice none 0 0, .slice none 0 0]) (t := 25) ?hr ?_; (case hd => rfl); (case hg => rfl); (case hr => first | (go_simp; done) | (go_simp; rfl)); intro gb347 hg w25 hbox hb; have n0_ := Aside0.mk (Kd.R_below (kR_ HO327.out) hb); have n1_ := Aside0.mk (Kd.Q_below (by (with_reducible repeat (first | apply Kd.Q_alloc | apply Kd.Q_drewN | apply Kd.Q_drew)); exact HO330.out) hb); have n2_ := Aside0.mk (Kd.R_below (kR_ HO340.out) hb); have n3_ := Aside0.mk (Kd.R_below (kR_ HO343.out) hb); have n4_ := Aside0.mk (Kd.R_below (kR_ HO346.out) hb); have n5_ := Aside0.mk (blk_below (g := gb331) (o := .cells #[.int .i64 t323, .int .i64 t324, .slice Ao16 t325.length co16, .slice Ao17 t328.length co17] 25 (0, 0)) (kb_ BK331.out) hb); have n6_ := Aside0.mk (below_step (hb1_ HB.out GE331.out) hb); have n7_ := Aside0.mk (hbox); have n8_ := Aside0.mk ((by rw [hg]; exact (below_size (hb1_ HB.out GE331.out)) : w.heap.size ≤ gb347)); have n9_ := Aside0.mk ((by rw [hg]; exact (below_size (hb1_ HB.out GE331.out)) : w.heap.size ≤ gb347)); have n10_ := Aside0.mk ((by rw [hg]; exact Nat.ne_of_lt (blk_lt (g := gb331) (o := .cells #[.int .i64 t323, .int .i64 t324, .slice Ao16 t325.length co16, .slice Ao17 t328.length co17] 25 (0, 0)) (kb_ BK331.out)) : gb331 ≠ gb347)); have n11_ := Aside0.mk ((by rw [hg]; exact Nat.ne_of_gt (blk_lt (g := gb331) (o := .cells #[.int .i64 t323, .int .i64 t324, .slice Ao16 t325.length co16, .slice Ao17 t328.length co17] 25 (0, 0)) (kb_ BK331.out)) : gb347 ≠ gb331)); clear HO327; clear HO330; clear HO340; clear HO343; clear HO346; clear BK331; clear HB; have HO327 := n0_; have HO330 := n1_; have HO340 := n2_; have HO343 := n3_; have HO346 := n4_; have BK331 := n5_; have HB := n6_; have BK347 := n7_; have GW347 := n8_; have GE347 := n9_; have NB331_347 := n10_; have NB347_331 := n11_; clear n0_ n1_ n2_ n3_ n4_ n5_ n6_ n7_ n8_ n9_ n10_ n11_; clear hb hbox hg; have hnb26 := NB347_331.out; have hnc26 := NB331_347.out; have hcz27_0 : w25.cell? ⟨gb347, 0, none⟩ = some (.int .i64 0) := (blk_cell BK347.out 0).trans rfl; have hcz27_1 : w25.cell? ⟨gb347, 1, none⟩ = some (.int .i64 0) := (blk_cell BK347.out 1).trans rfl; have hcz27_2 : w25.cell? ⟨gb347, 2, none⟩ = some (.slice none 0 0) := (blk_cell BK347.out 2).trans rfl; have hcz27_3 : w25.cell? ⟨gb347, 3, none⟩ = some (.slice none 0 0) := (blk_cell BK347.out 3).trans rfl; have hfz27_0 := blk_frozen BK347.out 0; have hfz27_1 := blk_frozen BK347.out 1; have hfz27_2 := blk_frozen BK347.out 2; have hfz27_3 := blk_frozen BK347.out 3; obtain ⟨Ao28, co28, eo28⟩ := Kd.R_slice HO340.out; subst eo28; obtain ⟨Ao29, co29, eo29⟩ := Kd.R_slice HO343.out; subst eo29))
            have n0_ : Aside0 (Kd.R (Kd.int .u8) 5 ((((w25.setCell ⟨gb347, 0, none⟩ (.int .i64 t336)).setCell ⟨gb347, 1, none⟩ (.int .i64 t337)).setCell ⟨gb347, 2, none⟩ (.slice Ao28 t338.length co28)).setCell ⟨gb347, 3, none⟩ (.slice Ao29 t341.length co29)) w.heap.size (fun k_ => some k_ ≠ (.slice Ao28 t338.length co28 : Value).ownBlock ∧ some k_ ≠ (v345 : Value).ownBlock) (.slice Ao16 t325.length co16) t325) := ⟨by refine kR_ ?_; exact Kd.R_mono (Kd.R_f gb347 3 (.slice Ao29 t341.length co29) (Kd.R_f gb347 2 (.slice Ao28 t338.length co28) (Kd.R_f gb347 1 (.int .i64 t337) (Kd.R_f gb347 0 (.int .i64 t336) (Kd.R_types HO327.out BK347.out (by decide)))))) (fun _ hk => ⟨hk.1.1.2, hk.1.2⟩)⟩
            have n1_ : Aside0 (Kd.Q k70 70 ((((w25.setCell ⟨gb347, 0, none⟩ (.int .i64 t336)).setCell ⟨gb347, 1, none⟩ (.int .i64 t337)).setCell ⟨gb347, 2, none⟩ (.slice Ao28 t338.length co28)).setCell ⟨gb347, 3, none⟩ (.slice Ao29 t341.length co29)) w.heap.size (fun k_ => some k_ ≠ (.slice Ao29 t341.length co29 : Value).ownBlock) (.slice Ao17 t328.length co17) t328) := ⟨by (with_reducible repeat (first | apply Kd.Q_alloc | apply Kd.Q_drewN | apply Kd.Q_drew)); exact Kd.Q_mono (Kd.Q_far (p := ⟨gb347, 3, none⟩) (Kd.Q_far (p := ⟨gb347, 2, none⟩) (Kd.Q_far (p := ⟨gb347, 1, none⟩) (Kd.Q_far (p := ⟨gb347, 0, none⟩) (Kd.Q_types HO330.out BK347.out (by decide)) (fun _ hk => hk.2) (.int .i64 t336)) (fun _ hk => hk.2) (.int .i64 t337)) (fun _ hk => hk.2) (.slice Ao28 t338.length co28)) (fun _ hk => hk.2) (.slice Ao29 t341.length co29)) (fun _ hk => hk.1.2)⟩
            have n2_ : Aside0 (Kd.R (Kd.int .u8) 5 ((((w25.setCell ⟨gb347, 0, none⟩ (.int .i64 t336)).setCell ⟨gb347, 1, none⟩ (.int .i64 t337)).setCell ⟨gb347, 2, none⟩ (.slice Ao28 t338.length co28)).setCell ⟨gb347, 3, none⟩ (.slice Ao29 t341.length co29)) w.heap.size (fun k_ => some k_ ≠ (.slice Ao16 t325.length co16 : Value).ownBlock ∧ some k_ ≠ (v345 : Value).ownBlock) (.slice Ao28 t338.length co28) t338) := ⟨by refine kR_ ?_; exact Kd.R_mono (Kd.R_f gb347 3 (.slice Ao29 t341.length co29) (Kd.R_f gb347 2 (.slice Ao28 t338.length co28) (Kd.R_f gb347 1 (.int .i64 t337) (Kd.R_f gb347 0 (.int .i64 t336) (Kd.R_types HO340.out BK347.out (by decide)))))) (fun _ hk => ⟨hk.1.2, hk.1.1⟩)⟩
            have n3_ : Aside0 (Kd.R k70 70 ((((w25.setCell ⟨gb347, 0, none⟩ (.int .i64 t336)).setCell ⟨gb347, 1, none⟩ (.int .i64 t337)).setCell ⟨gb347, 2, none⟩ (.slice Ao28 t338.length co28)).setCell ⟨gb347, 3, none⟩ (.slice Ao29 t341.length co29)) w.heap.size (fun k_ => some k_ ≠ (.slice Ao17 t328.length co17 : Value).ownBlock) (.slice Ao29 t341.length co29) t341) := ⟨by refine kR_ ?_; exact Kd.R_mono (Kd.R_f gb347 3 (.slice Ao29 t341.length co29) (Kd.R_f gb347 2 (.slice Ao28 t338.length co28) (Kd.R_f gb347 1 (.int .i64 t337) (Kd.R_f gb347 0 (.int .i64 t336) (Kd.R_types HO343.out BK347.out (by decide)))))) (fun _ hk => hk.1.2)⟩
            have n4_ : Aside0 (Kd.R (Kd.int .u8) 5 ((((w25.setCell ⟨gb347, 0, none⟩ (.int .i64 t336)).setCell ⟨gb347, 1, none⟩ (.int .i64 t337)).setCell ⟨gb347, 2, none⟩ (.slice Ao28 t338.length co28)).setCell ⟨gb347, 3, none⟩ (.slice Ao29 t341.length co29)) w.heap.size (fun k_ => some k_ ≠ (.slice Ao16 t325.length co16 : Value).ownBlock ∧ some k_ ≠ (.slice Ao28 t338.length co28 : Value).ownBlock) v345 t344) := ⟨by refine kR_ ?_; exact Kd.R_mono (Kd.R_f gb347 3 (.slice Ao29 t341.length co29) (Kd.R_f gb347 2 (.slice Ao28 t338.length co28) (Kd.R_f gb347 1 (.int .i64 t337) (Kd.R_f gb347 0 (.int .i64 t336) (Kd.R_types HO346.out BK347.out (by decide)))))) (fun _ hk => ⟨hk.1.2, hk.1.1⟩)⟩
            have n5_ : Aside0 (((((w25.setCell ⟨gb347, 0, none⟩ (.int .i64 t336)).setCell ⟨gb347, 1, none⟩ (.int .i64 t337)).setCell ⟨gb347, 2, none⟩ (.slice Ao28 t338.length co28)).setCell ⟨gb347, 3, none⟩ (.slice Ao29 t341.length co29)).heap[gb331]? = some (.cells #[.int .i64 t323, .int .i64 t324, .slice Ao16 t325.length co16, .slice Ao17 t328.length co17] 25 (0, 0))) := ⟨by refine kb_ ?_; refine blk_far ?_ NB331_347.out _; refine kb_ ?_; refine blk_far ?_ NB331_347.out _; refine kb_ ?_; refine blk_far ?_ NB331_347.out _; refine kb_ ?_; refine blk_far ?_ NB331_347.out _; refine kb_ ?_; exact BK331.out⟩
            have n6_ : Aside0 (((((w25.setCell ⟨gb347, 0, none⟩ (.int .i64 t336)).setCell ⟨gb347, 1, none⟩ (.int .i64 t337)).setCell ⟨gb347, 2, none⟩ (.slice Ao28 t338.length co28)).setCell ⟨gb347, 3, none⟩ (.slice Ao29 t341.length co29)).heap[gb347]? = some (.cells #[.int .i64 t336, .int .i64 t337, .slice Ao28 t338.length co28, .slice Ao29 t341.length co29] 25 (0, 0))) := ⟨by refine kb_ ?_; refine blk_put (cs := #[.int .i64 t336, .int .i64 t337, .slice Ao28 t338.length co28, .slice none 0 0]) ?_ 3 _ rfl; refine kb_ ?_; refine blk_put (cs := #[.int .i64 t336, .int .i64 t337, .slice none 0 0, .slice none 0 0]) ?_ 2 _ rfl; refine kb_ ?_; refine blk_put (cs := #[.int .i64 t336, .int .i64 0, .slice none 0 0, .slice none 0 0]) ?_ 1 _ rfl; refine kb_ ?_; refine blk_put (cs := #[.int .i64 0, .int .i64 0, .slice none 0 0, .slice none 0 0]) ?_ 0 _ rfl; refine kb_ ?_; exact BK347.out⟩
            have n7_ : Aside0 (Below w.heap.size w ((((w25.setCell ⟨gb347, 0, none⟩ (.int .i64 t336)).setCell ⟨gb347, 1, none⟩ (.int .i64 t337)).setCell ⟨gb347, 2, none⟩ (.slice Ao28 t338.length co28)).setCell ⟨gb347, 3, none⟩ (.slice Ao29 t341.length co29))) := ⟨by repeat (first | (with_reducible first | exact HB.out | apply below_alloc | apply pw_below_drewN | apply below_drew1 | refine below_set ?_ GE331.out | refine below_set ?_ GE347.out) | exact HB.out)⟩
            (try clear HO327)
            (try clear HO330)
            (try clear HO340)
            (try clear HO343)
            (try clear HO346)
            (try clear BK331)
            (try clear BK347)
            (try clear HB)
            generalize ((((w25.setCell ⟨gb347, 0, none⟩ (.int .i64 t336)).setCell ⟨gb347, 1, none⟩ (.int .i64 t337)).setCell ⟨gb347, 2, none⟩ (.slice Ao28 t338.length co28)).setCell ⟨gb347, 3, none⟩ (.slice Ao29 t341.length co29)) = w30 at n0_ n1_ n2_ n3_ n4_ n5_ n6_ n7_ ⊢
            have HO327 := n0_
            have HO330 := n1_
            have HO340 := n2_
            have HO343 := n3_
            have HO346 := n4_
            have BK331 := n5_
            have BK347 := n6_
            have HB := n7_
            clear n0_ n1_ n2_ n3_ n4_ n5_ n6_ n7_
            have n0_ := Aside0.mk (Kd.R_drew HO327.out)
            have n1_ := Aside0.mk (Kd.Q_drew HO330.out)
            have n2_ := Aside0.mk (Kd.R_drew HO340.out)
            have n3_ := Aside0.mk (Kd.R_drew HO343.out)
            have n4_ := Aside0.mk (Kd.R_drew HO346.out)
            have n5_ := Aside0.mk (blk_drew BK331.out)
            have n6_ := Aside0.mk (blk_drew BK347.out)
            have n7_ := Aside0.mk (below_drew1 HB.out)
            clear HO327
            clear HO330
            clear HO340
            clear HO343
            clear HO346
            clear BK331
            clear BK347
            clear HB
            have HO327 := n0_
            have HO330 := n1_
            have HO340 := n2_
            have HO343 := n3_
            have HO346 := n4_
            have BK331 := n5_
            have BK347 := n6_
            have HB := n7_
            clear n0_ n1_ n2_ n3_ n4_ n5_ n6_ n7_
            refine start_ (n := 16) (S := fun w' => w'.cell? ⟨gb331, 0, none⟩ = some (.int .i64 t323) ∧ w'.cell? ⟨gb331, 1, none⟩ = some (.int .i64 t324) ∧ w'.cell? ⟨gb331, 2, none⟩ = some (.slice Ao16 t325.length co16) ∧ w'.cell? ⟨gb331, 3, none⟩ = some (.slice Ao17 t328.length co17) ∧ w'.cell? ⟨gb347, 0, none⟩ = some (.int .i64 t336) ∧ w'.cell? ⟨gb347, 1, none⟩ = some (.int .i64 t337) ∧ w'.cell? ⟨gb347, 2, none⟩ = some (.slice Ao28 t338.length co28) ∧ w'.cell? ⟨gb347, 3, none⟩ = some (.slice Ao29 t341.length co29)) (ds := []) #[false, false, false, false, false, false, false, false, false, false, false, false, false, false, false, false] (by kernel_rfl) rfl rfl ⟨(blk_cell BK331.out 0).trans rfl, (blk_cell BK331.out 1).trans rfl, (blk_cell BK331.out 2).trans rfl, (blk_cell BK331.out 3).trans rfl, (blk_cell BK347.out 0).trans rfl, (blk_cell BK347.out 1).trans rfl, (blk_cell BK347.out 2).trans rfl, (blk_cell BK347.out 3).trans rfl⟩ (fun hHeld => ?_); refine with_tabW laws_FnEarFree.tab10 laws_FnEarFree.bits10 (fun HT_ HW_ => ?_)
            generalize w30.drew = w31 at HO327 HO330 HO340 HO343 HO346 BK331 BK347 HB hHeld ⊢
            refine pure_ (i := 0) (N := some 34) (v := ?_) (a' := ?_) #[true, false, false, false, false, false, false, false, false, false, false, false, false, false, false, false] rfl rfl (any_of HT_.out (by kernel_rfl)) (fun _ _ _ h => h) (Or.inl ⟨by rfl, ?_⟩) ?_ ?_
            rotate_left
            · intro w'
              go_simp
              with_reducible rfl
            rotate_left
            · simp only [Act.put, List.setIfInBounds_toArray, List.set_cons_zero, List.set_cons_succ, i64_w, i32_w]
              rfl
            refine pure_ (i := 1) (N := some 35) (v := ?_) (a' := ?_) #[true, true, false, false, false, false, false, false, false, false, false, false, false, false, false, false] rfl rfl (any_of HT_.out (by kernel_rfl)) (fun _ _ _ h => h) (Or.inl ⟨by rfl, ?_⟩) ?_ ?_
            rotate_left
            · intro w'
              go_simp
              with_reducible rfl
            rotate_left
            · simp only [Act.put, List.setIfInBounds_toArray, List.set_cons_zero, List.set_cons_succ, i64_w, i32_w]
              rfl
            refine pure_ (i := 2) (N := some 36) (v := ?_) (a' := ?_) #[true, true, true, false, false, false, false, false, false, false, false, false, false, false, false, false] rfl rfl (any_of HT_.out (by kernel_rfl)) (fun _ _ _ h => h) (Or.inl ⟨by rfl, ?_⟩) ?_ ?_
            rotate_left
            · intro w'
              go_simp
              with_reducible rfl
            rotate_left
            · simp only [Act.put, List.setIfInBounds_toArray, List.set_cons_zero, List.set_cons_succ, i64_w, i32_w]
              rfl
            refine pure_ (i := 3) (N := some 37) (v := ?_) (a' := ?_) #[true, true, true, true, false, false, false, false, false, false, false, false, false, false, false, false] rfl rfl (any_of HT_.out (by kernel_rfl)) (fun _ _ _ h => h) (Or.inl ⟨by rfl, ?_⟩) ?_ ?_
            rotate_left
            · intro w'
              go_simp
              with_reducible rfl
            rotate_left
            · simp only [Act.put, List.setIfInBounds_toArray, List.set_cons_zero, List.set_cons_succ, i64_w, i32_w]
              rfl
            refine pure_ (i := 4) (N := some 38) (v := ?_) (a' := ?_) #[true, true, true, true, true, false, false, false, false, false, false, false, false, false, false, false] rfl rfl (any_of HT_.out (by kernel_rfl)) (fun _ _ _ h => h) (Or.inl ⟨by rfl, ?_⟩) ?_ ?_
            rotate_left
            · intro w'
              go_simp
              with_reducible rfl
            rotate_left
            · simp only [Act.put, List.setIfInBounds_toArray, List.set_cons_zero, List.set_cons_succ, i64_w, i32_w]
              rfl
            refine take_ (i := 5) (N := some 39) (v := ?_) (a' := ?_) #[true, true, true, true, true, true, false, false, false, false, false, false, false, false, false, false] rfl rfl (take_ofW HT_.out HW_.out (by kernel_rfl)) (fun _ _ _ h => h) (Or.inl ⟨by rfl, ?_⟩) hHeld ?_ ?_
            rotate_left
            · rintro w' ⟨s0, s1, s2, s3, s4, s5, s6, s7⟩
              go_simp
              with_reducible rfl
            rotate_left
            · simp only [Act.put, List.setIfInBounds_toArray, List.set_cons_zero, List.set_cons_succ, i64_w, i32_w]
              rfl
            refine pure_ (i := 6) (N := some 40) (v := ?_) (a' := ?_) #[true, true, true, true, true, true, true, false, false, false, false, false, false, false, false, false] rfl rfl (any_of HT_.out (by kernel_rfl)) (fun _ _ _ h => h) (Or.inl ⟨by rfl, ?_⟩) ?_ ?_
            rotate_left
            · intro w'
              go_simp
              with_reducible rfl
            rotate_left
            · simp only [Act.put, List.setIfInBounds_toArray, List.set_cons_zero, List.set_cons_succ, i64_w, i32_w]
              rfl
            refine pure_ (i := 7) (N := some 41) (v := ?_) (a' := ?_) #[true, true, true, true, true, true, true, true, false, false, false, false, false, false, false, false] rfl rfl (any_of HT_.out (by kernel_rfl)) (fun _ _ _ h => h) (Or.inl ⟨by rfl, ?_⟩) ?_ ?_
            rotate_left
            · intro w'
              go_simp
              with_reducible rfl
            rotate_left
            · simp only [Act.put, List.setIfInBounds_toArray, List.set_cons_zero, List.set_cons_succ, i64_w, i32_w]
              rfl
            refine pure_ (i := 8) (N := some 42) (v := ?_) (a' := ?_) #[true, true, true, true, true, true, true, true, true, false, false, false, false, false, false, false] rfl rfl (any_of HT_.out (by kernel_rfl)) (fun _ _ _ h => h) (Or.inl ⟨by rfl, ?_⟩) ?_ ?_
            rotate_left
            · intro w'
              go_simp
              with_reducible rfl
            rotate_left
            · simp only [Act.put, List.setIfInBounds_toArray, List.set_cons_zero, List.set_cons_succ, i64_w, i32_w]
              rfl
            refine pure_ (i := 11) (N := some 45) (v := ?_) (a' := ?_) #[true, true, true, true, true, true, true, true, true, false, false, true, false, false, false, false] rfl rfl (any_of HT_.out (by kernel_rfl)) (fun _ _ _ h => h) (Or.inl ⟨by rfl, ?_⟩) ?_ ?_
            rotate_left
            · intro w'
              go_simp
              with_reducible rfl
            rotate_left
            · simp only [Act.put, List.setIfInBounds_toArray, List.set_cons_zero, List.set_cons_succ, i64_w, i32_w]
              rfl
            refine take_ (i := 9) (N := some 43) (v := ?_) (a' := ?_) #[true, true, true, true, true, true, true, true, true, true, false, true, false, false, false, false] rfl rfl (take_ofW HT_.out HW_.out (by kernel_rfl)) (fun _ _ _ h => h) (Or.inl ⟨by rfl, ?_⟩) hHeld ?_ ?_
            rotate_left
            · rintro w' ⟨s0, s1, s2, s3, s4, s5, s6, s7⟩
              go_simp
              with_reducible rfl
            rotate_left
            · simp only [Act.put, List.setIfInBounds_toArray, List.set_cons_zero, List.set_cons_succ, i64_w, i32_w]
              rfl
            refine take_ (i := 12) (N := some 46) (v := ?_) (a' := ?_) #[true, true, true, true, true, true, true, true, true, true, false, true, true, false, false, false] rfl rfl (take_ofW HT_.out HW_.out (by kernel_rfl)) (fun _ _ _ h => h) (Or.inl ⟨by rfl, ?_⟩) hHeld ?_ ?_
            rotate_left
            · rintro w' ⟨s0, s1, s2, s3, s4, s5, s6, s7⟩
              go_simp
              with_reducible rfl
            rotate_left
            · simp only [Act.put, List.setIfInBounds_toArray, List.set_cons_zero, List.set_cons_succ, i64_w, i32_w]
              rfl
            refine one_ (i := 10) (N := some 44) #[true, true, true, true, true, true, true, true, true, true, true, true, true, false, false, false] rfl rfl (one_of HT_.out (by kernel_rfl)) (by decide) (fun K hK => ?_)
            refine goes_ Try.func10 (by kernel_rfl) rfl #[.agg #[.int .i64 t336, .int .i64 t337, .slice Ao28 t338.length co28, .slice Ao29 t341.length co29]] (by rfl) rfl rfl ar_ ?_
            with_reducible refine (impl_EarFree.calls k t336 t337 _ _ t338 _ _ t341 t348 _ ?side1 ?side2 ?side3 ?side4 A12.out).mono ?_
            (case side1 => exact kC_ (Kd.R_reads' HO340.out).2.2)
            (case side2 => exact (Kd.R_reads' HO340.out).2.1)
            (case side3 => exact kC_ (Kd.R_reads' HO343.out).2.2)
            (case side4 => exact (Kd.R_reads' HO343.out).2.1)
            rintro e w32 ⟨rfl, hb⟩
            refine ⟨_, rfl, ?_⟩
            have n0_ := Aside0.mk (Kd.R_below (kR_ HO327.out) hb)
            have n1_ := Aside0.mk (Kd.Q_below (by (with_reducible repeat (first | apply Kd.Q_alloc | apply Kd.Q_drewN | apply Kd.Q_drew)); exact HO330.out) hb)
            have n2_ := Aside0.mk (Kd.R_below (kR_ HO340.out) hb)
            have n3_ := Aside0.mk (Kd.R_below (kR_ HO343.out) hb)
            have n4_ := Aside0.mk (Kd.R_below (kR_ HO346.out) hb)
            have n5_ := Aside0.mk (blk_below (g := gb331) (o := .cells #[.int .i64 t323, .int .i64 t324, .slice Ao16 t325.length co16, .slice Ao17 t328.length co17] 25 (0, 0)) (kb_ BK331.out) hb)
            have n6_ := Aside0.mk (blk_below (g := gb347) (o := .cells #[.int .i64 t336, .int .i64 t337, .slice Ao28 t338.length co28, .slice Ao29 t341.length co29] 25 (0, 0)) (kb_ BK347.out) hb)
            have n7_ := Aside0.mk (below_step (hb2_ HB.out GE331.out GE347.out) hb)
            clear HO327
            clear HO330
            clear HO340
            clear HO343
            clear HO346
            clear BK331
            clear BK347
            clear HB
            have HO327 := n0_
            have HO330 := n1_
            have HO340 := n2_
            have HO343 := n3_
            have HO346 := n4_
            have BK331 := n5_
            have BK347 := n6_
            have HB := n7_
            clear n0_ n1_ n2_ n3_ n4_ n5_ n6_ n7_
            (try clear hb)
            (try clear hb2)
            (try clear hk)
            (try clear hi)
            refine hK.out _ _ ⟨(blk_cell BK331.out 0).trans rfl, (blk_cell BK331.out 1).trans rfl, (blk_cell BK331.out 2).trans rfl, (blk_cell BK331.out 3).trans rfl, (blk_cell BK347.out 0).trans rfl, (blk_cell BK347.out 1).trans rfl, (blk_cell BK347.out 2).trans rfl, (blk_cell BK347.out 3).trans rfl⟩ (fun hHeld => ?_)
            clear hK K
            refine norm_ (a' := ?_) ?_ ?_
            rotate_left
            · show Act.put _ (some 44) _ = _
              simp only [Act.put, List.setIfInBounds_toArray, List.set_cons_zero, List.set_cons_succ, i64_w, i32_w]
              rfl
            refine pure_ (i := 13) (N := some 47) (v := ?_) (a' := ?_) #[true, true, true, true, true, true, true, true, true, true, true, true, true, true, false, false] rfl rfl (any_of HT_.out (by kernel_rfl)) (fun _ _ _ h => h) (Or.inl ⟨by rfl, ?_⟩) ?_ ?_
            rotate_left
            · intro w'
              go_simp
              with_reducible rfl
            rotate_left
            · simp only [Act.put, List.setIfInBounds_toArray, List.set_cons_zero, List.set_cons_succ, i64_w, i32_w]
              rfl
            refine pure_ (i := 14) (N := some 48) (v := ?_) (a' := ?_) #[true, true, true, true, true, true, true, true, true, true, true, true, true, true, true, false] rfl rfl (any_of HT_.out (by kernel_rfl)) (fun _ _ _ h => h) (Or.inl ⟨by rfl, ?_⟩) ?_ ?_
            rotate_left
            · intro w'
              go_simp
              with_reducible rfl
            rotate_left
            · simp only [Act.put, List.setIfInBounds_toArray, List.set_cons_zero, List.set_cons_succ, i64_w, i32_w]
              rfl
            refine pure_ (i := 15) (N := some 2) (v := ?_) (a' := ?_) #[true, true, true, true, true, true, true, true, true, true, true, true, true, true, true, true] rfl rfl (any_of HT_.out (by kernel_rfl)) (fun _ _ _ h => h) (Or.inl ⟨by rfl, ?_⟩) ?_ ?_
            rotate_left
            · intro w'
              go_simp
              with_reducible rfl
            rotate_left
            · simp only [Act.put, List.setIfInBounds_toArray, List.set_cons_zero, List.set_cons_succ, i64_w, i32_w]
              rfl
            refine done_ (done_of HT_.out (by kernel_rfl)) ?_
            try go_wp2
            go_ret
            exact ⟨by first | rfl | (simp [errW_none, errW_some] <;> rfl) | (simp [*, errW_none, errW_some] <;> rfl), by repeat (first | (with_reducible first | exact HB.out | apply below_alloc | apply pw_below_drewN | apply below_drew1 | refine below_set ?_ GE331.out | refine below_set ?_ GE347.out) | exact HB.out)⟩
          · rw [if_neg c11] at H
            have c11b0 : decide (t332 ≤ t324) = false := decide_eq_false c11
            clear c11
            exact absurd (Option.some.inj H) (by rw [HLW.out]; exact Bool.false_ne_true)
        · rw [if_neg c10] at H
          have c10b0 : decide (0 ≤ t332) = false := decide_eq_false c10
          clear c10
          exact absurd (Option.some.inj H) (by rw [HLW.out]; exact Bool.false_ne_true)
      · replace c8 := Bool.eq_false_iff.mpr c8
        subst c8
        have H1 : (if t332 = 0 then ((laws_alive.f k).bind fun t335 => (some t335)) else (some false)) = some r := by rw [if_neg (show ¬ (false = true) by decide)] at H; exact H
        clear H
        have H := H1
        clear H1
        by_cases c33 : t332 = 0
        · rw [if_pos c33] at H
          have c33b0 : (t332 == 0) = true := beq_iff_eq.mpr c33
          have c33b1 : (t332 != 0) = false := bne_eq_false_iff_eq.mpr c33
          clear c33
          replace H := Option.bind_eq_some_iff.mp H
          obtain ⟨t335, A340, H⟩ := H
          replace H : (some t335) = some r := H
          have A34 := Aside0.mk A340
          clear A340
          obtain rfl := Option.some.inj H
          go_enter Try.func3, Try.ntmps3
          go_wp2_with (first | ((with_reducible refine gate_callee (f := 9) rfl ?_); refine goesL_ (some 11) rfl rfl Try.func9 (by kernel_rfl) rfl #[.slice A0 l0.length c0] rfl ar_ ?_; (with_reducible refine (spec_DrawEarFree.calls k _ _ l0 t323 t324 t325 t328 _ ?side1 ?side2 A3.out).mono ?_); (case side1 => exact kC_ HR0.out); (case side2 => exact HC0.out); rintro e w35 ⟨v326, v329, rfl, ho0, ho1, hb⟩; refine ⟨_, rfl, ?_⟩; have n0_ := Aside0.mk (Kd.R_lower ho0 (below_size (hb0_ HB.out))); have n1_ := Aside0.mk (Kd.Q_lower ho1 (below_size (hb0_ HB.out))); have n2_ := Aside0.mk (below_step (hb0_ HB.out) hb); clear HB; have HO327 := n0_; have HO330 := n1_; have HB := n2_; clear n0_ n1_ n2_; (try clear hb); (try clear hb2); (try clear hk); (try clear hi); (try clear ho0); (try clear ho1)) | ((with_reducible refine gate_dst (N := 3) rfl ?_); refine box_event ?hg (N := 3) ?hd (cs := #[.int .i64 0, .int .i64 0, .slice none 0 0, .slice none 0 0]) (t := 25) ?hr ?_; (case hd => rfl); (case hg => rfl); (case hr => first | (go_simp; done) | (go_simp; rfl)); intro gb331 hg w36 hbox hb; have n0_ := Aside0.mk (Kd.R_below (kR_ HO327.out) hb); have n1_ := Aside0.mk (Kd.Q_below (by (with_reducible repeat (first | apply Kd.Q_alloc | apply Kd.Q_drewN | apply Kd.Q_drew)); exact HO330.out) hb); have n2_ := Aside0.mk (below_step (hb0_ HB.out) hb); have n3_ := Aside0.mk (hbox); have n4_ := Aside0.mk ((by rw [hg]; exact (below_size (hb0_ HB.out)) : w.heap.size ≤ gb331)); have n5_ := Aside0.mk ((by rw [hg]; exact (below_size (hb0_ HB.out)) : w.heap.size ≤ gb331)); clear HO327; clear HO330; clear HB; have HO327 := n0_; have HO330 := n1_; have HB := n2_; have BK331 := n3_; have GW331 := n4_; have GE331 := n5_; clear n0_ n1_ n2_ n3_ n4_ n5_; clear hb hbox hg; have hcz37_0 : w36.cell? ⟨gb331, 0, none⟩ = some (.int .i64 0) := (blk_cell BK331.out 0).trans rfl; have hcz37_1 : w36.cell? ⟨gb331, 1, none⟩ = some (.int .i64 0) := (blk_cell BK331.out 1).trans rfl; have hcz37_2 : w36.cell? ⟨gb331, 2, none⟩ = some (.slice none 0 0) := (blk_cell BK331.out 2).trans rfl; have hcz37_3 : w36.cell? ⟨gb331, 3, none⟩ = some (.slice none 0 0) := (blk_cell BK331.out 3).trans rfl; have hfz37_0 := blk_frozen BK331.out 0; have hfz37_1 := blk_frozen BK331.out 1; have hfz37_2 := blk_frozen BK331.out 2; have hfz37_3 := blk_frozen BK331.out 3; obtain ⟨Ao38, co38, eo38⟩ := Kd.R_slice HO327.out; subst eo38; obtain ⟨Ao39, co39, eo39, _⟩ := Kd.Q_slice HO330.out; subst eo39) | ((with_reducible refine gate_callee (f := 10) rfl ?_); refine goesL_ (some 13) rfl rfl Try.func10 (by kernel_rfl) rfl #[.agg #[.int .i64 t323, .int .i64 t324, .slice Ao38 t325.length co38, .slice Ao39 t328.length co39]] rfl ar_ ?_; (with_reducible refine (impl_EarFree.calls k t323 t324 _ _ t325 _ _ t328 t332 _ ?side1 ?side2 ?side3 ?side4 A4.out).mono ?_); (case side1 => refine (Kd.R_reads' (e := 5) (base := w.heap.size) (ok := fun k_ => True) (n := t325.length) (c := co38) ?_).2.2; exact (by refine kR_ ?_; exact (Kd.R_mono (Kd.R_f gb331 3 (.slice Ao39 t328.length co39) (Kd.R_f gb331 2 (.slice Ao38 t325.length co38) (Kd.R_f gb331 1 (.int .i64 t324) (Kd.R_f gb331 0 (.int .i64 t323) (Kd.R_types HO327.out BK331.out (by decide)))))) (fun _ h_ => op1_ h_)))); (case side2 => exact (Kd.R_reads' HO327.out).2.1); (case side3 => refine (Kd.Q_reads' (e := 70) (base := w.heap.size) (ok := fun k_ => True) (n := t328.length) (c := co39) ?_).2.2; exact (by (with_reducible repeat (first | apply Kd.Q_alloc | apply Kd.Q_drewN | apply Kd.Q_drew)); exact (Kd.Q_mono (Kd.Q_far (p := ⟨gb331, 3, none⟩) (Kd.Q_far (p := ⟨gb331, 2, none⟩) (Kd.Q_far (p := ⟨gb331, 1, none⟩) (Kd.Q_far (p := ⟨gb331, 0, none⟩) (Kd.Q_types HO330.out BK331.out (by decide)) (fun _ hk => hk.2) (.int .i64 t323)) (fun _ hk => hk.2) (.int .i64 t324)) (fun _ hk => hk.2) (.slice Ao38 t325.length co38)) (fun _ hk => hk.2) (.slice Ao39 t328.length co39)) (fun _ h_ => op1_ h_)))); (case side4 => exact (Kd.Q_reads' HO330.out).2.1); rintro e w40 ⟨rfl, hb⟩; refine ⟨_, rfl, ?_⟩; have n0_ := Aside0.mk (Kd.R_below (by refine kR_ ?_; exact (Kd.R_mono (Kd.R_f gb331 3 (.slice Ao39 t328.length co39) (Kd.R_f gb331 2 (.slice Ao38 t325.length co38) (Kd.R_f gb331 1 (.int .i64 t324) (Kd.R_f gb331 0 (.int .i64 t323) (Kd.R_types HO327.out BK331.out (by decide)))))) (fun _ h_ => op1_ h_))) hb); have n1_ := Aside0.mk (Kd.Q_below (by (with_reducible repeat (first | apply Kd.Q_alloc | apply Kd.Q_drewN | apply Kd.Q_drew)); exact (Kd.Q_mono (Kd.Q_far (p := ⟨gb331, 3, none⟩) (Kd.Q_far (p := ⟨gb331, 2, none⟩) (Kd.Q_far (p := ⟨gb331, 1, none⟩) (Kd.Q_far (p := ⟨gb331, 0, none⟩) (Kd.Q_types HO330.out BK331.out (by decide)) (fun _ hk => hk.2) (.int .i64 t323)) (fun _ hk => hk.2) (.int .i64 t324)) (fun _ hk => hk.2) (.slice Ao38 t325.length co38)) (fun _ hk => hk.2) (.slice Ao39 t328.length co39)) (fun _ h_ => op1_ h_))) hb); have n2_ := Aside0.mk (blk_below (g := gb331) (o := .cells #[.int .i64 t323, .int .i64 t324, .slice Ao38 t325.length co38, .slice Ao39 t328.length co39] 25 (0, 0)) (by refine kb_ ?_; refine blk_put (cs := #[.int .i64 t323, .int .i64 t324, .slice Ao38 t325.length co38, .slice none 0 0]) ?_ 3 _ rfl; refine kb_ ?_; refine blk_put (cs := #[.int .i64 t323, .int .i64 t324, .slice none 0 0, .slice none 0 0]) ?_ 2 _ rfl; refine kb_ ?_; refine blk_put (cs := #[.int .i64 t323, .int .i64 0, .slice none 0 0, .slice none 0 0]) ?_ 1 _ rfl; refine kb_ ?_; refine blk_put (cs := #[.int .i64 0, .int .i64 0, .slice none 0 0, .slice none 0 0]) ?_ 0 _ rfl; refine kb_ ?_; exact BK331.out) hb); have n3_ := Aside0.mk (below_step (hb1_ HB.out GE331.out) hb); clear HO327; clear HO330; clear BK331; clear HB; have HO327 := n0_; have HO330 := n1_; have BK331 := n2_; have HB := n3_; clear n0_ n1_ n2_ n3_; (try clear hb); (try clear hb2); (try clear hk); (try clear hi); have hcz41_0 : w40.cell? ⟨gb331, 0, none⟩ = some (.int .i64 t323) := (blk_cell BK331.out 0).trans rfl; have hcz41_1 : w40.cell? ⟨gb331, 1, none⟩ = some (.int .i64 t324) := (blk_cell BK331.out 1).trans rfl; have hcz41_2 : w40.cell? ⟨gb331, 2, none⟩ = some (.slice Ao38 t325.length co38) := (blk_cell BK331.out 2).trans rfl; have hcz41_3 : w40.cell? ⟨gb331, 3, none⟩ = some (.slice Ao39 t328.length co39) := (blk_cell BK331.out 3).trans rfl; have hfz41_0 := blk_frozen BK331.out 0; have hfz41_1 := blk_frozen BK331.out 1; have hfz41_2 := blk_frozen BK331.out 2; have hfz41_3 := blk_frozen BK331.out 3) | ((with_reducible refine gate_callee (f := 11) rfl ?_); refine goesL_ (some 16) rfl rfl Try.func11 (by kernel_rfl) rfl #[.agg #[.int .i64 t323, .int .i64 t324, .slice Ao38 t325.length co38, .slice Ao39 t328.length co39]] rfl ar_ ?_; (with_reducible refine (spec_EarFree.calls k t323 t324 _ _ t325 _ _ t328 t333 _ ?side1 ?side2 ?side3 ?side4 A5.out).mono ?_); (case side1 => exact kC_ (Kd.R_reads' HO327.out).2.2); (case side2 => exact (Kd.R_reads' HO327.out).2.1); (case side3 => exact kC_ (Kd.Q_reads' HO330.out).2.2); (case side4 => exact (Kd.Q_reads' HO330.out).2.1); rintro e w42 ⟨rfl, hb⟩; refine ⟨_, rfl, ?_⟩; have n0_ := Aside0.mk (Kd.R_below (kR_ HO327.out) hb); have n1_ := Aside0.mk (Kd.Q_below (by (with_reducible repeat (first | apply Kd.Q_alloc | apply Kd.Q_drewN | apply Kd.Q_drew)); exact HO330.out) hb); have n2_ := Aside0.mk (blk_below (g := gb331) (o := .cells #[.int .i64 t323, .int .i64 t324, .slice Ao38 t325.length co38, .slice Ao39 t328.length co39] 25 (0, 0)) (kb_ BK331.out) hb); have n3_ := Aside0.mk (below_step (hb1_ HB.out GE331.out) hb); clear HO327; clear HO330; clear BK331; clear HB; have HO327 := n0_; have HO330 := n1_; have BK331 := n2_; have HB := n3_; clear n0_ n1_ n2_ n3_; (try clear hb); (try clear hb2); (try clear hk); (try clear hi); have hcz43_0 : w42.cell? ⟨gb331, 0, none⟩ = some (.int .i64 t323) := (blk_cell BK331.out 0).trans rfl; have hcz43_1 : w42.cell? ⟨gb331, 1, none⟩ = some (.int .i64 t324) := (blk_cell BK331.out 1).trans rfl; have hcz43_2 : w42.cell? ⟨gb331, 2, none⟩ = some (.slice Ao38 t325.length co38) := (blk_cell BK331.out 2).trans rfl; have hcz43_3 : w42.cell? ⟨gb331, 3, none⟩ = some (.slice Ao39 t328.length co39) := (blk_cell BK331.out 3).trans rfl; have hfz43_0 := blk_frozen BK331.out 0; have hfz43_1 := blk_frozen BK331.out 1; have hfz43_2 := blk_frozen BK331.out 2; have hfz43_3 := blk_frozen BK331.out 3) | ((with_reducible refine gate_callee (f := 12) rfl ?_); refine goesL_ (some 19) rfl rfl Try.func12 (by kernel_rfl) rfl #[.agg #[.int .i64 t323, .int .i64 t324, .slice Ao38 t325.length co38, .slice Ao39 t328.length co39]] rfl ar_ ?_; (with_reducible refine (impl_EarOk.calls k t323 t324 _ _ t325 _ _ t328 false _ ?side1 ?side2 ?side3 ?side4 A7.out).mono ?_); (case side1 => exact kC_ (Kd.R_reads' HO327.out).2.2); (case side2 => exact (Kd.R_reads' HO327.out).2.1); (case side3 => exact kC_ (Kd.Q_reads' HO330.out).2.2); (case side4 => exact (Kd.Q_reads' HO330.out).2.1); rintro e w44 ⟨rfl, hb⟩; refine ⟨_, rfl, ?_⟩; have n0_ := Aside0.mk (Kd.R_below (kR_ HO327.out) hb); have n1_ := Aside0.mk (Kd.Q_below (by (with_reducible repeat (first | apply Kd.Q_alloc | apply Kd.Q_drewN | apply Kd.Q_drew)); exact HO330.out) hb); have n2_ := Aside0.mk (blk_below (g := gb331) (o := .cells #[.int .i64 t323, .int .i64 t324, .slice Ao38 t325.length co38, .slice Ao39 t328.length co39] 25 (0, 0)) (kb_ BK331.out) hb); have n3_ := Aside0.mk (below_step (hb1_ HB.out GE331.out) hb); clear HO327; clear HO330; clear BK331; clear HB; have HO327 := n0_; have HO330 := n1_; have BK331 := n2_; have HB := n3_; clear n0_ n1_ n2_ n3_; (try clear hb); (try clear hb2); (try clear hk); (try clear hi)) | (go_at_call 13; (with_reducible refine (laws_alive.calls k  t335 _ A34.out).mono ?_); rintro e w45 ⟨rfl, hb⟩; have n0_ := Aside0.mk (Kd.R_below (kR_ HO327.out) hb); have n1_ := Aside0.mk (Kd.Q_below (by (with_reducible repeat (first | apply Kd.Q_alloc | apply Kd.Q_drewN | apply Kd.Q_drew)); exact HO330.out) hb); have n2_ := Aside0.mk (blk_below (g := gb331) (o := .cells #[.int .i64 t323, .int .i64 t324, .slice Ao38 t325.length co38, .slice Ao39 t328.length co39] 25 (0, 0)) (kb_ BK331.out) hb); have n3_ := Aside0.mk (below_step (hb1_ HB.out GE331.out) hb); clear HO327; clear HO330; clear BK331; clear HB; have HO327 := n0_; have HO330 := n1_; have BK331 := n2_; have HB := n3_; clear n0_ n1_ n2_ n3_; (try clear hb); (try clear hb2); (try clear hk); (try clear hi)))
          go_ret
          exact ⟨by first | rfl | (simp [errW_none, errW_some] <;> rfl) | (simp [*, errW_none, errW_some] <;> rfl), by repeat (first | (with_reducible first | exact HB.out | apply below_alloc | apply pw_below_drewN | apply below_drew1 | refine below_set ?_ GE331.out) | exact HB.out)⟩
        · rw [if_neg c33] at H
          have c33b0 : (t332 == 0) = false := beq_eq_false_iff_ne.mpr c33
          have c33b1 : (t332 != 0) = true := bne_iff_ne.mpr c33
          exact absurd (Option.some.inj H) (by rw [HLW.out]; exact Bool.false_ne_true)
    · rw [if_neg c6] at H
      have c6b0 : (t332 == t333) = false := beq_eq_false_iff_ne.mpr c6
      have c6b1 : (t332 != t333) = true := bne_iff_ne.mpr c6
      exact absurd (Option.some.inj H) (by rw [HLW.out]; exact Bool.false_ne_true)

/-- THE ONE PURE STATEMENT of laws_FnEarFree: yours. -/
def laws_FnEarFree.Pure : Prop := ∀ (l0 : List Int), l0.length ≤ maxLen → l0.length * 1 ≤ 140737488351232 → (∀ x ∈ l0, (Lit.int .u8 x).wf = true) → ∃ k, laws_FnEarFree.f k l0 = some true
theorem laws_FnEarFree.walk (P : laws_FnEarFree.Pure) (a0 : Option Addr) (len0 cap0 : Nat) (z0 : List Int) (w : World) (w0 : (a0 = none ∧ len0 = 0 ∧ cap0 = 0 ∧ z0 = []) ∨ ∃ x, a0 = some x ∧ len0 ≤ cap0 ∧ cap0 ≤ maxLen ∧ z0.length = cap0 ∧ (∀ i, i < z0.length → w.cell? (x.add i) = some (.int .u8 (z0.getD i 0))) ∧ ∀ n ∈ z0, (Lit.int .u8 n).wf = true) (y0 : len0 * 1 ≤ 140737488351232) :
    Calls Try.prog 3 #[.slice a0 len0 cap0] w fun e w' => e = .returned (.bool true) ∧ Below w.heap.size w w' := by
  obtain ⟨l0, rfl, hr0, hm0, hw0, hc0⟩ := ReadsInt.ofRowC w0
  obtain ⟨k, h⟩ := P l0 hm0 y0 hw0
  refine (laws_FnEarFree.calls k _ _ l0 true w (Kd.C_of_reads (d := (0 : Int)) (h1 := fun _ => rfl) hr0) hc0 h rfl).mono ?_
  rintro e w' ⟨rfl, hd⟩
  exact ⟨rfl, hd⟩

end Go.Proofs.Ytjiodkbbmhhccaa.PFnEarFree
