/- Printed by wip/xp/xprint.sh out of the translation, for this claim: what each function answers, as a plain function, and that the machine does just that. No condition. -/
import Derived.Test.YtjiodkbbmhhccaaPFnMouthNextx0
import Derived.Test.YtjiodkbbmhhccaaPFnMouthNextx2
import Derived.Test.YtjiodkbbmhhccaaPFnMouthNextx5
namespace Go.Proofs.Ytjiodkbbmhhccaa.PFnMouthNext
open Go.RowKit Go.Proofs.YtjiodkbbmhhccaaW.PrintWords Go.Proofs.YtjiodkbbmhhccaaW.PrintLast Go.Proofs.YtjiodkbbmhhccaaW.PrintMore
attribute [local go_sem] max2_int min2_int max_two min_two max_three min_three max_four min_four   -- for this text's walks alone
set_option linter.unusedVariables false
set_option linter.unusedSimpArgs false

/-! ### impl_rangesOk: function 64 -/
mutual
def impl_rangesOk.l0 : Nat → Int → List (S86) → Int → List (S86) → Int → Int → Option ((List (S86)))
 | 0, _, _, _, _, _, _ => none
 | k + 1, x2, x7, x8, x12, x13, x14 => if x14 < x13 then (if 0 ≤ x14 then (if x14 < (x12.length : Int) then (if ((rd_T86 x12 x14).f0) > x8 then (if ((rd_T86 x12 x14).f1) > ((rd_T86 x12 x14).f0) then (if ((rd_T86 x12 x14).f1) ≤ x2 then (impl_rangesOk.j1 k x2 x7 x8 x12 x13 x14 (decide ((x7.length : Int) < 2)) ((rd_T86 x12 x14).f0) ((rd_T86 x12 x14).f1)) else (impl_rangesOk.j1 k x2 x7 x8 x12 x13 x14 false ((rd_T86 x12 x14).f0) ((rd_T86 x12 x14).f1))) else (impl_rangesOk.j1 k x2 x7 x8 x12 x13 x14 false ((rd_T86 x12 x14).f0) ((rd_T86 x12 x14).f1))) else (impl_rangesOk.j1 k x2 x7 x8 x12 x13 x14 false ((rd_T86 x12 x14).f0) ((rd_T86 x12 x14).f1))) else (none)) else (none)) else ((impl_Range_79.f x7).bind fun t328 => (some t328))
def impl_rangesOk.j1 : Nat → Int → List (S86) → Int → List (S86) → Int → Int → Bool → Int → Int → Option ((List (S86)))
 | 0, _, _, _, _, _, _, _, _, _ => none
 | k + 1, x2, x7, x8, x12, x13, x14, x39, x333000, x333001 => if x39 = true then (if x7.length < 8796093022208 then (impl_rangesOk.l0 k x2 (x7 ++ [(⟨x333000, x333001⟩ : S86)]) x333001 x12 x13 (wrap64 (x14 + 1))) else (none)) else (impl_rangesOk.l0 k x2 x7 x8 x12 x13 (wrap64 (x14 + 1)))
end
def impl_rangesOk.f (k : Nat) (l0 : List (S86)) (a1 : Int) (a2 : Int) : Option ((List (S86))) := impl_rangesOk.l0 k a2 ([] : List (S86)) a1 l0 (l0.length : Int) 0
theorem impl_rangesOk.mono_l : ∀ k, (∀ y0 y1 y2 y3 y4 y5, LeO (impl_rangesOk.l0 k y0 y1 y2 y3 y4 y5) (impl_rangesOk.l0 (k + 1) y0 y1 y2 y3 y4 y5)) ∧ (∀ y0 y1 y2 y3 y4 y5 y6 y7 y8, LeO (impl_rangesOk.j1 k y0 y1 y2 y3 y4 y5 y6 y7 y8) (impl_rangesOk.j1 (k + 1) y0 y1 y2 y3 y4 y5 y6 y7 y8))
 | 0 => ⟨fun _ _ _ _ _ _ r h => by simp [impl_rangesOk.l0] at h, fun _ _ _ _ _ _ _ _ _ r h => by simp [impl_rangesOk.j1] at h⟩
 | k + 1 => by
  obtain ⟨ih0, ih1⟩ := impl_rangesOk.mono_l k
  refine ⟨?_, ?_⟩
  ·intro y0 y1 y2 y3 y4 y5
   unfold impl_rangesOk.l0
   repeat' first
   | (with_reducible exact ih0 _ _ _ _ _ _)
   | (with_reducible exact ih1 _ _ _ _ _ _ _ _ _)
   | (with_reducible exact LeO.refl _)
   | (with_reducible exact LeO.none _)
   | (with_reducible refine LeO.ite ?_ ?_)
   | (with_reducible refine LeO.bind ?_ (fun _ => ?_))
   | exact ih0 _ _ _ _ _ _
   | exact ih1 _ _ _ _ _ _ _ _ _
   | exact LeO.none _
   | refine LeO.ite ?_ ?_
   | refine LeO.bind ?_ (fun _ => ?_)
  ·intro y0 y1 y2 y3 y4 y5 y6 y7 y8
   unfold impl_rangesOk.j1
   repeat' first
   | (with_reducible exact ih0 _ _ _ _ _ _)
   | (with_reducible exact ih1 _ _ _ _ _ _ _ _ _)
   | (with_reducible exact LeO.refl _)
   | (with_reducible exact LeO.none _)
   | (with_reducible refine LeO.ite ?_ ?_)
   | (with_reducible refine LeO.bind ?_ (fun _ => ?_))
   | exact ih0 _ _ _ _ _ _
   | exact ih1 _ _ _ _ _ _ _ _ _
   | exact LeO.none _
   | refine LeO.ite ?_ ?_
   | refine LeO.bind ?_ (fun _ => ?_)
theorem impl_rangesOk.mono : ∀ a0 a1 a2 k, LeO (impl_rangesOk.f k a0 a1 a2) (impl_rangesOk.f (k + 1) a0 a1 a2) := by
 intro a0 a1 a2 k
 obtain ⟨ih0, ih1⟩ := impl_rangesOk.mono_l k
 unfold impl_rangesOk.f
 repeat' first
   | (with_reducible exact ih0 _ _ _ _ _ _)
   | (with_reducible exact ih1 _ _ _ _ _ _ _ _ _)
   | (with_reducible exact LeO.refl _)
   | (with_reducible exact LeO.none _)
   | (with_reducible refine LeO.ite ?_ ?_)
   | (with_reducible refine LeO.bind ?_ (fun _ => ?_))
   | exact ih0 _ _ _ _ _ _
   | exact ih1 _ _ _ _ _ _ _ _ _
   | exact LeO.none _
   | refine LeO.ite ?_ ?_
   | refine LeO.bind ?_ (fun _ => ?_)
set_option maxHeartbeats 8000000 in
set_option maxRecDepth 100000 in
theorem impl_rangesOk.calls (k : Nat) (A0 : Option Addr) (c0 : Nat) (l0 : List (S86)) (a1 : Int) (a2 : Int) (r : List (S86)) (w : World) (hr0 : Kd.C k86 w A0 l0.length l0) (hc0 : l0.length ≤ c0) (h : impl_rangesOk.f k l0 a1 a2 = some r) :
  Calls Try.prog 64 #[.slice A0 l0.length c0, .int .i64 a1, .int .i64 a2] w fun e w' => ∃ v0_ : Value, e = .returned (v0_) ∧ Kd.R k86 86 w' w.heap.size (fun _ => True) v0_ r ∧ Below w.heap.size w w' := by
 have hu86 := Try.underlying86; have HR0 := Aside0.mk hr0; have HC0 := Aside0.mk hc0; clear hr0 hc0
 have HB := Aside0.mk (Below.refl w.heap.size w)
 have H : (impl_rangesOk.l0 k a2 ([] : List (S86)) a1 l0 (l0.length : Int) 0) = some r := h
 clear h
 have H' := Aside0.mk H
 clear H
 go_enter Try.func64, Try.ntmps64
 go_wp2
 go_loopg [7, 8, 14] k (fun kq v7 v8 v14 w' => ∃ (x7_1 : List (S86)) (x8_1 : Int) (x14_1 : Int), v8 = .int .i64 x8_1 ∧ v14 = .int .i64 x14_1 ∧ Aside0 (impl_rangesOk.l0 kq a2 x7_1 x8_1 l0 (l0.length : Int) x14_1 = some r) ∧ Aside0 (kq ≤ k) ∧ Aside0 (Kd.R k86 86 w' w.heap.size (fun _ => True) v7 x7_1) ∧ Aside0 (Below w.heap.size w w'))
 case atStart => exact ⟨(([] : List (S86))), (a1), (0), (by first | rfl | (simp; done) | (simp [*]; done)), (by first | rfl | (simp; done) | (simp [*]; done)), H', ⟨Nat.le_refl _⟩, ⟨by first | exact Kd.R_nil _ _ _ _ _ | exact Kd.N_nil _ _ _ _ _ | exact Kd.V_nil _ _ _ _ _ | exact Kd.Q_nil _ _ _ _ _ | exact Kd.S_nil _ _ _ _ _⟩, ⟨by repeat (first | (with_reducible first | exact HB.out | apply below_alloc | apply pw_below_drewN | apply below_drew1) | exact HB.out)⟩⟩
 case round =>
  clear H'; (try clear p2)
  obtain ⟨x7_1, x8_1, x14_1, rfl, rfl, HA, HK1, HO_7, HB⟩ := hrel
  cases gk with
  | zero => exact absurd HA.out (by simp [impl_rangesOk.l0])
  | succ k1 =>
   have H := HA.out; clear HA
   simp only [impl_rangesOk.l0] at H
   by_cases c4 : x14_1 < (l0.length : Int)
   ·rw [if_pos c4] at H
    have c4b0 : decide (x14_1 < (l0.length : Int)) = true := decide_eq_true c4
    clear c4
    by_cases c5 : 0 ≤ x14_1
    ·rw [if_pos c5] at H
     have c5b0 : decide (0 ≤ x14_1) = true := decide_eq_true c5
     clear c5
     by_cases c6 : x14_1 < (l0.length : Int)
     ·rw [if_pos c6] at H
      have c6b0 : decide (x14_1 < (l0.length : Int)) = true := decide_eq_true c6
      clear c6; have HC7 := Aside0.mk H; clear H
      have p331 : 0 ≤ (x14_1 : Int) := of_decide_eq_true (by first | (with_reducible assumption) | assumption)
      have q331 : x14_1 < (l0.length : Int) := of_decide_eq_true (by first | (with_reducible assumption) | assumption)
      obtain ⟨ad331, e331, hx331_0, hx331_1⟩ := at_T86 HR0.out x14_1 p331 q331
      cases e331
      replace hx331_0 := (HB.out.cell (World.block_lt_of_cell? w _ hx331_0)).trans hx331_0
      replace hx331_1 := (HB.out.cell (World.block_lt_of_cell? w _ hx331_1)).trans hx331_1
      replace p331 := eq_true p331
      replace q331 := eq_true q331
      go_upto_region 6 with (first | ((with_reducible refine gate_dst (N := 10) rfl ?_); (try (refine gate_guard (by rfl) ?_; dsimp only)); refine box_event ?hg (N := 10) ?hd (cs := #[.int .i64 0, .int .i64 0]) (t := 86) ?hr ?_; (case hd => rfl); (case hg => rfl); (case hr => first | (go_simp; done) | (go_simp; rfl)); intro gb332 hg w8 hbox hb; have n0_ := Aside0.mk (Kd.R_below (Kd.R_elderB (kR_ HO_7.out) gb332 (Nat.le_of_eq hg.symm)) hb); have n1_ := Aside0.mk (below_step (hb0_ HB.out) hb); have n2_ := Aside0.mk (hbox); have n3_ := Aside0.mk ((by rw [hg]; exact (below_size (hb0_ HB.out)) : w.heap.size ≤ gb332)); have n4_ := Aside0.mk ((by rw [hg]; exact (below_size (hb0_ HB.out)) : w.heap.size ≤ gb332)); clear HO_7; clear HB; have HO_7 := n0_; have HB := n1_; have BK332 := n2_; have GW332 := n3_; have GE332 := n4_; clear n0_ n1_ n2_ n3_ n4_; clear hb hbox hg; have hcz9_0 : w8.cell? ⟨gb332, 0, none⟩ = some (.int .i64 0) := (blk_cell BK332.out 0).trans rfl; have hcz9_1 : w8.cell? ⟨gb332, 1, none⟩ = some (.int .i64 0) := (blk_cell BK332.out 1).trans rfl; have hfz9_0 := blk_frozen BK332.out 0; have hfz9_1 := blk_frozen BK332.out 1))
      (try simp only [Act.put, List.setIfInBounds_toArray, List.set_cons_zero, List.set_cons_succ])
      go_cut [39] (fun v39 wc => ∃ (kq : Nat) (x39_6 : Bool), v39 = .bool x39_6 ∧ Aside0 (impl_rangesOk.j1 kq a2 x7_1 x8_1 l0 (l0.length : Int) x14_1 x39_6 ((rd_T86 l0 x14_1).f0) ((rd_T86 l0 x14_1).f1) = some r) ∧ Aside0 (kq ≤ k1) ∧ Aside0 (Kd.R k86 86 wc w.heap.size (fun k_ => k_ ≠ gb332) u7 x7_1) ∧ Aside0 (wc.heap[gb332]? = some (.cells #[.int .i64 ((rd_T86 l0 x14_1).f0), .int .i64 ((rd_T86 l0 x14_1).f1)] 86 (0, 0))) ∧ Aside0 (Below w.heap.size w wc))
      case first =>
       have H := HC7.out; clear HC7
       by_cases c10 : ((rd_T86 l0 x14_1).f0) > x8_1
       ·rw [if_pos c10] at H
        have c10b0 : decide (x8_1 < ((rd_T86 l0 x14_1).f0)) = true := decide_eq_true c10
        clear c10
        (first | rw [c10b0] | (simp only [i64_w, i32_w]; rw [c10b0]) | skip)
        by_cases c11 : ((rd_T86 l0 x14_1).f1) > ((rd_T86 l0 x14_1).f0)
        ·rw [if_pos c11] at H
         have c11b0 : decide (((rd_T86 l0 x14_1).f0) < ((rd_T86 l0 x14_1).f1)) = true := decide_eq_true c11
         clear c11
         by_cases c12 : ((rd_T86 l0 x14_1).f1) ≤ a2
         ·rw [if_pos c12] at H
          have c12b0 : decide (((rd_T86 l0 x14_1).f1) ≤ a2) = true := decide_eq_true c12
          clear c12
          have H' := Aside0.mk H
          clear H; have hcz13_0 : w8.cell? ⟨gb332, 0, none⟩ = some (.int .i64 0) := (blk_cell BK332.out 0).trans rfl; have hcz13_1 : w8.cell? ⟨gb332, 1, none⟩ = some (.int .i64 0) := (blk_cell BK332.out 1).trans rfl; have hfz13_0 := blk_frozen BK332.out 0; have hfz13_1 := blk_frozen BK332.out 1
          obtain ⟨Ao14, co14, eo14⟩ := Kd.R_slice HO_7.out
          subst eo14
          go_wp2
          go_meet
          case rel => exact ⟨_, (decide ((x7_1.length : Int) < 2)), (by first | rfl | (simp; done) | (simp [*]; done)), H', ⟨by have := HK1.out; first | omega | exact Nat.le_refl _⟩, ⟨by refine kR_ ?_; exact Kd.R_mono (Kd.R_f gb332 1 (.int .i64 ((rd_T86 l0 x14_1).f1)) (Kd.R_f gb332 0 (.int .i64 ((rd_T86 l0 x14_1).f0)) (Kd.R_mono HO_7.out (fun k_ hk => (⟨hk, hk.2⟩ : _ ∧ k_ ≠ gb332))))) (fun _ hk => hk.1.2)⟩, ⟨by refine kb_ ?_; refine blk_put (cs := #[.int .i64 ((rd_T86 l0 x14_1).f0), .int .i64 0]) ?_ 1 _ rfl; refine kb_ ?_; refine blk_put (cs := #[.int .i64 0, .int .i64 0]) ?_ 0 _ rfl; refine kb_ ?_; exact BK332.out⟩, ⟨by repeat (first | (with_reducible first | exact HB.out | apply below_alloc | apply pw_below_drewN | apply below_drew1 | refine below_set ?_ GE332.out) | exact HB.out)⟩⟩
         ·rw [if_neg c12] at H
          have c12b0 : decide (((rd_T86 l0 x14_1).f1) ≤ a2) = false := decide_eq_false c12
          clear c12
          have H' := Aside0.mk H
          clear H; have hcz15_0 : w8.cell? ⟨gb332, 0, none⟩ = some (.int .i64 0) := (blk_cell BK332.out 0).trans rfl; have hcz15_1 : w8.cell? ⟨gb332, 1, none⟩ = some (.int .i64 0) := (blk_cell BK332.out 1).trans rfl; have hfz15_0 := blk_frozen BK332.out 0; have hfz15_1 := blk_frozen BK332.out 1
          go_wp2
          go_meet
          case rel => exact ⟨_, (false), (by first | rfl | (simp; done) | (simp [*]; done)), H', ⟨by have := HK1.out; first | omega | exact Nat.le_refl _⟩, ⟨by refine kR_ ?_; exact Kd.R_mono (Kd.R_f gb332 1 (.int .i64 ((rd_T86 l0 x14_1).f1)) (Kd.R_f gb332 0 (.int .i64 ((rd_T86 l0 x14_1).f0)) (Kd.R_mono HO_7.out (fun k_ hk => (⟨hk, hk.2⟩ : _ ∧ k_ ≠ gb332))))) (fun _ hk => hk.1.2)⟩, ⟨by refine kb_ ?_; refine blk_put (cs := #[.int .i64 ((rd_T86 l0 x14_1).f0), .int .i64 0]) ?_ 1 _ rfl; refine kb_ ?_; refine blk_put (cs := #[.int .i64 0, .int .i64 0]) ?_ 0 _ rfl; refine kb_ ?_; exact BK332.out⟩, ⟨by repeat (first | (with_reducible first | exact HB.out | apply below_alloc | apply pw_below_drewN | apply below_drew1 | refine below_set ?_ GE332.out) | exact HB.out)⟩⟩
        ·rw [if_neg c11] at H
         have c11b0 : decide (((rd_T86 l0 x14_1).f0) < ((rd_T86 l0 x14_1).f1)) = false := decide_eq_false c11
         clear c11
         have H' := Aside0.mk H
         clear H; have hcz16_0 : w8.cell? ⟨gb332, 0, none⟩ = some (.int .i64 0) := (blk_cell BK332.out 0).trans rfl; have hcz16_1 : w8.cell? ⟨gb332, 1, none⟩ = some (.int .i64 0) := (blk_cell BK332.out 1).trans rfl; have hfz16_0 := blk_frozen BK332.out 0; have hfz16_1 := blk_frozen BK332.out 1
         go_wp2
         go_meet
         case rel => exact ⟨_, (false), (by first | rfl | (simp; done) | (simp [*]; done)), H', ⟨by have := HK1.out; first | omega | exact Nat.le_refl _⟩, ⟨by refine kR_ ?_; exact Kd.R_mono (Kd.R_f gb332 1 (.int .i64 ((rd_T86 l0 x14_1).f1)) (Kd.R_f gb332 0 (.int .i64 ((rd_T86 l0 x14_1).f0)) (Kd.R_mono HO_7.out (fun k_ hk => (⟨hk, hk.2⟩ : _ ∧ k_ ≠ gb332))))) (fun _ hk => hk.1.2)⟩, ⟨by refine kb_ ?_; refine blk_put (cs := #[.int .i64 ((rd_T86 l0 x14_1).f0), .int .i64 0]) ?_ 1 _ rfl; refine kb_ ?_; refine blk_put (cs := #[.int .i64 0, .int .i64 0]) ?_ 0 _ rfl; refine kb_ ?_; exact BK332.out⟩, ⟨by repeat (first | (with_reducible first | exact HB.out | apply below_alloc | apply pw_below_drewN | apply below_drew1 | refine below_set ?_ GE332.out) | exact HB.out)⟩⟩
       ·rw [if_neg c10] at H
        have c10b0 : decide (x8_1 < ((rd_T86 l0 x14_1).f0)) = false := decide_eq_false c10
        clear c10
        (first | rw [c10b0] | (simp only [i64_w, i32_w]; rw [c10b0]) | skip)
        have H' := Aside0.mk H
        clear H; have hcz17_0 : w8.cell? ⟨gb332, 0, none⟩ = some (.int .i64 0) := (blk_cell BK332.out 0).trans rfl; have hcz17_1 : w8.cell? ⟨gb332, 1, none⟩ = some (.int .i64 0) := (blk_cell BK332.out 1).trans rfl; have hfz17_0 := blk_frozen BK332.out 0; have hfz17_1 := blk_frozen BK332.out 1
        go_wp2
        go_meet
        case rel => exact ⟨_, (false), (by first | rfl | (simp; done) | (simp [*]; done)), H', ⟨by have := HK1.out; first | omega | exact Nat.le_refl _⟩, ⟨by refine kR_ ?_; exact Kd.R_mono (Kd.R_f gb332 1 (.int .i64 ((rd_T86 l0 x14_1).f1)) (Kd.R_f gb332 0 (.int .i64 ((rd_T86 l0 x14_1).f0)) (Kd.R_mono HO_7.out (fun k_ hk => (⟨hk, hk.2⟩ : _ ∧ k_ ≠ gb332))))) (fun _ hk => hk.1.2)⟩, ⟨by refine kb_ ?_; refine blk_put (cs := #[.int .i64 ((rd_T86 l0 x14_1).f0), .int .i64 0]) ?_ 1 _ rfl; refine kb_ ?_; refine blk_put (cs := #[.int .i64 0, .int .i64 0]) ?_ 0 _ rfl; refine kb_ ?_; exact BK332.out⟩, ⟨by repeat (first | (with_reducible first | exact HB.out | apply below_alloc | apply pw_below_drewN | apply below_drew1 | refine below_set ?_ GE332.out) | exact HB.out)⟩⟩
      case rest =>
       clear HC7; (try clear c1); (try clear p2); (try clear p3); (try clear q3); (try clear hx3); (try clear c4); (try clear c4b0); (try clear c5); (try clear c5b0); (try clear c6); (try clear c6b0); (try clear c10); (try clear c10b0); (try clear c11); (try clear c11b0); (try clear c12); (try clear c12b0); (try clear hcz13_0); (try clear hcz13_1); (try clear hcz15_0); (try clear hcz15_1); (try clear hcz16_0); (try clear hcz16_1); (try clear hcz17_0); (try clear hcz17_1); (try clear hcz9_0); (try clear hcz9_1); (try clear hfz13_0); (try clear hfz13_1); (try clear hfz15_0); (try clear hfz15_1); (try clear hfz16_0); (try clear hfz16_1); (try clear hfz17_0); (try clear hfz17_1); (try clear hfz9_0); (try clear hfz9_1); (try clear hx331_0); (try clear hx331_1); (try clear p2); (try clear p331); (try clear q331)
       obtain ⟨kq, x39_6, rfl, HA, HJ6, HO_7, BK332, HB⟩ := hcut
       cases kq with
       | zero => exact absurd HA.out (by simp [impl_rangesOk.j1])
       | succ kj6 =>
        have H := HA.out; clear HA
        simp only [impl_rangesOk.j1] at H
        by_cases c18 : x39_6 = true
        ·subst c18
         have H1 : (if x7_1.length < 8796093022208 then (impl_rangesOk.l0 kj6 a2 (x7_1 ++ [(⟨((rd_T86 l0 x14_1).f0), ((rd_T86 l0 x14_1).f1)⟩ : S86)]) ((rd_T86 l0 x14_1).f1) l0 (l0.length : Int) (wrap64 (x14_1 + 1))) else (none)) = some r := by rw [if_pos rfl] at H; exact H
         clear H; have H := H1; clear H1
         by_cases c19 : x7_1.length < 8796093022208
         ·rw [if_pos c19] at H
          have LMc19 := Aside0.mk c19; clear c19
          obtain ⟨y333, hy333⟩ : ∃ y_ : List (S86), y_ = (x7_1 ++ [(⟨((rd_T86 l0 x14_1).f0), ((rd_T86 l0 x14_1).f1)⟩ : S86)]) := ⟨_, rfl⟩
          replace H : (impl_rangesOk.l0 kj6 a2 y333 ((rd_T86 l0 x14_1).f1) l0 (l0.length : Int) (wrap64 (x14_1 + 1))) = some r := by first | (rw [hy333]; with_reducible exact H) | (have H2_ := (Option.bind_some _ _).symm.trans H; rw [hy333]; with_reducible exact H2_) | (have H2_ := (Option.bind_some _ _).symm.trans H; with_reducible exact H2_) | with_reducible exact H | (rw [hy333]; exact H) | exact H
          have Ny333 := Aside0.mk hy333; clear hy333
          have H' := Aside0.mk H
          clear H; have hcz20_0 : wc.cell? ⟨gb332, 0, none⟩ = some (.int .i64 ((rd_T86 l0 x14_1).f0)) := (blk_cell BK332.out 0).trans rfl; have hcz20_1 : wc.cell? ⟨gb332, 1, none⟩ = some (.int .i64 ((rd_T86 l0 x14_1).f1)) := (blk_cell BK332.out 1).trans rfl; have hfz20_0 := blk_frozen BK332.out 0; have hfz20_1 := blk_frozen BK332.out 1
          go_wp2_with (first | ((with_reducible refine gate_builtin (b := .append) (xs := #[.tmp 40, .tmp 42]) rfl ?_); (try (refine gate_guard (by rfl) ?_; dsimp only)); at_builtin; refine Kd.R_append k86 (w0 := w) w.heap.size rfl (.tmp 40) (.tmp 42) 45 86 (.agg #[(.int .i64 0), (.int .i64 0)]) 16 rfl Try.underlying45 info86 rfl (by decide) (by omega) u7 x7_1 (⟨((rd_T86 l0 x14_1).f0), ((rd_T86 l0 x14_1).f1)⟩ : S86) [.int .i64 ((rd_T86 l0 x14_1).f0), .int .i64 ((rd_T86 l0 x14_1).f1)] (fun k_ => k_ ≠ gb332) (fun _ => False) rfl rfl ?aP (fun _ hk => hk.elim) ?aF ?aO ?aB ?aS ?aL ?_; (case aP => exact k86_mkM _ _ _ (⟨((rd_T86 l0 x14_1).f0), ((rd_T86 l0 x14_1).f1)⟩ : S86)); (case aB => exact (hb1_ HB.out GE332.out)); (case aF => exact (fun k_ hk => Kd.freshB (g := gb332) (o := .cells #[.int .i64 ((rd_T86 l0 x14_1).f0), .int .i64 ((rd_T86 l0 x14_1).f1)] 86 (0, 0)) (kb_ BK332.out) k_ hk)); (case aO => exact (kR_ HO_7.out)); (case aS => exact (below_size (hb1_ HB.out GE332.out))); (case aL => have := LMc19.out; omega); intro v334 w21 ho hb hg hat; rw [← Ny333.out] at ho; have n0_ := Aside0.mk (blk_grown (g := gb332) (o := .cells #[.int .i64 ((rd_T86 l0 x14_1).f0), .int .i64 ((rd_T86 l0 x14_1).f1)] 86 (0, 0)) (kb_ BK332.out) hg (Kd.R_away HO_7.out (fun _ hk => hk))); have n1_ := Aside0.mk (hb); have n2_ := Aside0.mk (ho); clear BK332; clear HB; clear HO_7; have BK332 := n0_; have HB := n1_; have HO335 := n2_; clear n0_ n1_ n2_; clear ho hb hg hat; have hcz22_0 : w21.cell? ⟨gb332, 0, none⟩ = some (.int .i64 ((rd_T86 l0 x14_1).f0)) := (blk_cell BK332.out 0).trans rfl; have hcz22_1 : w21.cell? ⟨gb332, 1, none⟩ = some (.int .i64 ((rd_T86 l0 x14_1).f1)) := (blk_cell BK332.out 1).trans rfl; have hfz22_0 := blk_frozen BK332.out 0; have hfz22_1 := blk_frozen BK332.out 1))
          go_roundg kj6
          case measure => have := HK1.out; have := HJ6.out; omega
          case rel => exact ⟨(y333), (((rd_T86 l0 x14_1).f1)), (wrap64 (x14_1 + 1)), (by first | rfl | (simp; done) | (simp [*]; done)), (by first | rfl | (simp; done) | (simp [*]; done)), H', ⟨by have := HK1.out; have := HJ6.out; omega⟩, ⟨by refine kR_ ?_; exact Kd.R_mono HO335.out (fun _ hk => trivial)⟩, ⟨by repeat (first | (with_reducible first | exact HB.out | apply below_alloc | apply pw_below_drewN | apply below_drew1 | refine below_set ?_ GE332.out) | exact HB.out)⟩⟩
         ·rw [if_neg c19] at H
          exact absurd H (by simp)
        ·replace c18 := Bool.eq_false_iff.mpr c18
         subst c18
         have H1 : (impl_rangesOk.l0 kj6 a2 x7_1 x8_1 l0 (l0.length : Int) (wrap64 (x14_1 + 1))) = some r := by rw [if_neg (show ¬ (false = true) by decide)] at H; exact H
         clear H; have H := H1; clear H1
         have H' := Aside0.mk H
         clear H
         go_wp2
         go_roundg kj6
         case measure => have := HK1.out; have := HJ6.out; omega
         case rel => exact ⟨(x7_1), (x8_1), (wrap64 (x14_1 + 1)), (by first | rfl | (simp; done) | (simp [*]; done)), (by first | rfl | (simp; done) | (simp [*]; done)), H', ⟨by have := HK1.out; have := HJ6.out; omega⟩, ⟨by refine kR_ ?_; exact Kd.R_mono HO_7.out (fun _ hk => trivial)⟩, ⟨by repeat (first | (with_reducible first | exact HB.out | apply below_alloc | apply pw_below_drewN | apply below_drew1 | refine below_set ?_ GE332.out) | exact HB.out)⟩⟩
     ·rw [if_neg c6] at H
      exact absurd H (by simp)
    ·rw [if_neg c5] at H
     exact absurd H (by simp)
   ·rw [if_neg c4] at H
    have c4b0 : decide (x14_1 < (l0.length : Int)) = false := decide_eq_false c4
    clear c4
    replace H := Option.bind_eq_some_iff.mp H
    obtain ⟨t328, A230, H⟩ := H
    replace H : (some t328) = some r := H
    have A23 := Aside0.mk A230; clear A230
    obtain rfl := Option.some.inj H
    obtain ⟨Ao24, co24, eo24⟩ := Kd.R_slice HO_7.out
    subst eo24
    go_wp2_with (first | ((with_reducible refine gate_callee (f := 79) rfl ?_); refine goesL_ (some 48) rfl rfl Try.func79 (by kernel_rfl) rfl #[.slice Ao24 x7_1.length co24] rfl ar_ ?_; (with_reducible refine (impl_Range_79.calls _ _ x7_1 t328 _ ?side1 ?side2 A23.out).mono ?_); (case side1 => exact kC_ (Kd.R_reads' HO_7.out).2.2); (case side2 => exact (Kd.R_reads' HO_7.out).2.1); rintro e w25 ⟨v329, rfl, ho0, hb⟩; refine ⟨_, rfl, ?_⟩; have n0_ := Aside0.mk (Kd.R_elder' (kR_ HO_7.out) (Kd.R_base ho0) hb); have n1_ := Aside0.mk (Kd.R_lower (Kd.R_new' ho0 (Kd.R_lt (kR_ HO_7.out))) (below_size (hb0_ HB.out))); have n2_ := Aside0.mk (below_step (hb0_ HB.out) hb); clear HO_7; clear HB; have HO_7 := n0_; have HO330 := n1_; have HB := n2_; clear n0_ n1_ n2_; (try clear hb); (try clear hb2); (try clear hk); (try clear hi); (try clear ho0)))
    go_ret
    exact ⟨_, by first | rfl | (simp [errW_none, errW_some] <;> rfl) | (simp [*, errW_none, errW_some] <;> rfl), by refine kR_ ?_; exact Kd.R_mono HO330.out (fun _ hk => trivial), by repeat (first | (with_reducible first | exact HB.out | apply below_alloc | apply pw_below_drewN | apply below_drew1) | exact HB.out)⟩

/-! ### impl_MouthOk: function 31 -/
def impl_MouthOk.f (k : Nat) (a0_0 : Int) (l0_1 : List Int) (a0_2 : Int) (a0_3 : Int) (l0_4 : List (S86)) : Option (Bool) := (impl_in.f a0_0 0 1000000).bind fun t337 => (if t337 = true then (if (l0_1.length : Int) ≤ 32 then ((impl_in.f a0_2 0 (l0_1.length : Int)).bind fun t338 => (if t338 = true then ((impl_in.f a0_3 0 255).bind fun t339 => (if t339 = true then (if (l0_4.length : Int) ≤ 2 then ((impl_rangesOk.f k l0_4 a0_0 (wrap64 (a0_0 + a0_2))).bind fun t340 => ((impl_Range_63.f k t340 l0_4).bind fun t343 => (some t343))) else (some false)) else (some false))) else (some false))) else (some false)) else (some false))
theorem impl_MouthOk.mono : ∀ a0 a1 a2 a3 a4 k, LeO (impl_MouthOk.f k a0 a1 a2 a3 a4) (impl_MouthOk.f (k + 1) a0 a1 a2 a3 a4) := by
 intro a0 a1 a2 a3 a4 k
 unfold impl_MouthOk.f
 repeat' first
   | (with_reducible exact impl_Range_63.mono _ _ _)
   | (with_reducible exact impl_rangesOk.mono _ _ _ _)
   | (with_reducible exact LeO.refl _)
   | (with_reducible exact LeO.none _)
   | (with_reducible refine LeO.ite ?_ ?_)
   | (with_reducible refine LeO.bind ?_ (fun _ => ?_))
   | exact impl_Range_63.mono _ _ _
   | exact impl_rangesOk.mono _ _ _ _
   | exact LeO.none _
   | refine LeO.ite ?_ ?_
   | refine LeO.bind ?_ (fun _ => ?_)
def impl_MouthOk.T1 : Bool × List (List Nat × List Nat) := (true, [([], []), ([0], [0]), ([1], [1]), ([2, 2], [2]), ([3], [3]), ([4, 3], [3, 4]), ([5, 3], [3, 5]), ([6, 3], [3, 6]), ([3, 7], [3, 7]), ([8, 3], [8]), ([9], [9]), ([10, 9], [9, 10]), ([9], [9]), ([12, 9], [9, 12]), ([13, 9], [9, 13]), ([11, 14, 9, 9], [9, 11, 14]), ([9, 15], [9, 15]), ([16, 15], [16]), ([17], [17]), ([18, 17], [17, 18]), ([19, 17, 17], [17, 19]), ([17, 20], [17, 20]), ([21, 20], [21]), ([22], [22]), ([23, 22], [22, 23]), ([24, 22], [22, 24]), ([25, 22], [22, 25]), ([22, 26], [22, 26]), ([27, 22], [27]), ([28], [28]), ([29, 28], [28, 29]), ([28], [28]), ([31, 28], [28, 31]), ([28], [28]), ([33, 28], [28, 33]), ([28], [28]), ([35, 28], [28, 35]), ([34, 36, 28], [28, 34, 36]), ([30, 32, 37, 28, 28], [28, 30, 32, 37]), ([28], [28]), ([39, 28], [28, 39]), ([38, 40, 38, 28], [28, 38, 40]), ([28, 41], [28, 41]), ([42, 41, 0, 1, 2, 3, 4, 5, 6, 7, 8, 9, 10, 11, 12, 13, 14, 15, 16, 17, 18, 19, 20, 21, 22, 23, 24, 25, 26, 27, 28, 29, 30, 31, 32, 33, 34, 35, 36, 37, 38, 39, 40, 41, 42], [42])])
def impl_MouthOk.B1 : List Nat := [0, 1, 3, 7, 15, 31, 63, 127, 255, 511, 1023, 2047, 1023, 5119, 13311, 32767, 65535, 131071, 262143, 524287, 1048575, 2097151, 4194303, 8388607, 16777215, 33554431, 67108863, 134217727, 268435455, 536870911, 1073741823, 536870911, 2684354559, 536870911, 9126805503, 536870911, 34896609279, 129385889791, 274877906943, 536870911, 550292684799, 2199023255551, 4398046511103, 8796093022207]
theorem impl_MouthOk.tab1 : rtab .any (opsOf Try.f31 1) = impl_MouthOk.T1 := by kernel_rfl
theorem impl_MouthOk.bits1 : waitsOk impl_MouthOk.T1.2 impl_MouthOk.B1 = true := by kernel_rfl
set_option maxHeartbeats 8000000 in
set_option maxRecDepth 100000 in
theorem impl_MouthOk.calls (k : Nat) (a0_0 : Int) (A0_1 : Option Addr) (c0_1 : Nat) (l0_1 : List Int) (a0_2 : Int) (a0_3 : Int) (A0_4 : Option Addr) (c0_4 : Nat) (l0_4 : List (S86)) (r : Bool) (w : World) (hr0_1 : Kd.C (Kd.int .u8) w A0_1 l0_1.length l0_1) (hc0_1 : l0_1.length ≤ c0_1) (hr0_4 : Kd.C k86 w A0_4 l0_4.length l0_4) (hc0_4 : l0_4.length ≤ c0_4) (h : impl_MouthOk.f k a0_0 l0_1 a0_2 a0_3 l0_4 = some r) :
  Calls Try.prog 31 #[.agg #[.int .i64 a0_0, .slice A0_1 l0_1.length c0_1, .int .i64 a0_2, .int .i64 a0_3, .slice A0_4 l0_4.length c0_4]] w fun e w' => e = .returned (.bool r) ∧ Below w.heap.size w w' := by
 have hu47 := Try.underlying47; have HR0_1 := Aside0.mk hr0_1; have HC0_1 := Aside0.mk hc0_1; clear hr0_1 hc0_1; have HR0_4 := Aside0.mk hr0_4; have HC0_4 := Aside0.mk hc0_4; clear hr0_4 hc0_4
 have HB := Aside0.mk (Below.refl w.heap.size w)
 have H : ((impl_in.f a0_0 0 1000000).bind fun t337 => (if t337 = true then (if (l0_1.length : Int) ≤ 32 then ((impl_in.f a0_2 0 (l0_1.length : Int)).bind fun t338 => (if t338 = true then ((impl_in.f a0_3 0 255).bind fun t339 => (if t339 = true then (if (l0_4.length : Int) ≤ 2 then ((impl_rangesOk.f k l0_4 a0_0 (wrap64 (a0_0 + a0_2))).bind fun t340 => ((impl_Range_63.f k t340 l0_4).bind fun t343 => (some t343))) else (some false)) else (some false))) else (some false))) else (some false)) else (some false))) = some r := h
 clear h
 replace H := Option.bind_eq_some_iff.mp H
 obtain ⟨t337, A20, H⟩ := H
 replace H : (if t337 = true then (if (l0_1.length : Int) ≤ 32 then ((impl_in.f a0_2 0 (l0_1.length : Int)).bind fun t338 => (if t338 = true then ((impl_in.f a0_3 0 255).bind fun t339 => (if t339 = true then (if (l0_4.length : Int) ≤ 2 then ((impl_rangesOk.f k l0_4 a0_0 (wrap64 (a0_0 + a0_2))).bind fun t340 => ((impl_Range_63.f k t340 l0_4).bind fun t343 => (some t343))) else (some false)) else (some false))) else (some false))) else (some false)) else (some false)) = some r := H
 have A2 := Aside0.mk A20; clear A20
 by_cases c3 : t337 = true
 ·subst c3
  have H1 : (if (l0_1.length : Int) ≤ 32 then ((impl_in.f a0_2 0 (l0_1.length : Int)).bind fun t338 => (if t338 = true then ((impl_in.f a0_3 0 255).bind fun t339 => (if t339 = true then (if (l0_4.length : Int) ≤ 2 then ((impl_rangesOk.f k l0_4 a0_0 (wrap64 (a0_0 + a0_2))).bind fun t340 => ((impl_Range_63.f k t340 l0_4).bind fun t343 => (some t343))) else (some false)) else (some false))) else (some false))) else (some false)) = some r := by rw [if_pos rfl] at H; exact H
  clear H; have H := H1; clear H1
  by_cases c4 : (l0_1.length : Int) ≤ 32
  ·rw [if_pos c4] at H
   have c4b0 : decide ((l0_1.length : Int) ≤ 32) = true := decide_eq_true c4
   have c4b1 : decide (l0_1.length ≤ 32) = true := decide_eq_true (by omega)
   clear c4
   replace H := Option.bind_eq_some_iff.mp H
   obtain ⟨t338, A50, H⟩ := H
   replace H : (if t338 = true then ((impl_in.f a0_3 0 255).bind fun t339 => (if t339 = true then (if (l0_4.length : Int) ≤ 2 then ((impl_rangesOk.f k l0_4 a0_0 (wrap64 (a0_0 + a0_2))).bind fun t340 => ((impl_Range_63.f k t340 l0_4).bind fun t343 => (some t343))) else (some false)) else (some false))) else (some false)) = some r := H
   have A5 := Aside0.mk A50; clear A50
   by_cases c6 : t338 = true
   ·subst c6
    have H1 : ((impl_in.f a0_3 0 255).bind fun t339 => (if t339 = true then (if (l0_4.length : Int) ≤ 2 then ((impl_rangesOk.f k l0_4 a0_0 (wrap64 (a0_0 + a0_2))).bind fun t340 => ((impl_Range_63.f k t340 l0_4).bind fun t343 => (some t343))) else (some false)) else (some false))) = some r := by rw [if_pos rfl] at H; exact H
    clear H; have H := H1; clear H1
    replace H := Option.bind_eq_some_iff.mp H
    obtain ⟨t339, A70, H⟩ := H
    replace H : (if t339 = true then (if (l0_4.length : Int) ≤ 2 then ((impl_rangesOk.f k l0_4 a0_0 (wrap64 (a0_0 + a0_2))).bind fun t340 => ((impl_Range_63.f k t340 l0_4).bind fun t343 => (some t343))) else (some false)) else (some false)) = some r := H
    have A7 := Aside0.mk A70; clear A70
    by_cases c8 : t339 = true
    ·subst c8
     have H1 : (if (l0_4.length : Int) ≤ 2 then ((impl_rangesOk.f k l0_4 a0_0 (wrap64 (a0_0 + a0_2))).bind fun t340 => ((impl_Range_63.f k t340 l0_4).bind fun t343 => (some t343))) else (some false)) = some r := by rw [if_pos rfl] at H; exact H
     clear H; have H := H1; clear H1
     by_cases c9 : (l0_4.length : Int) ≤ 2
     ·rw [if_pos c9] at H
      have c9b0 : decide ((l0_4.length : Int) ≤ 2) = true := decide_eq_true c9
      have c9b1 : decide (l0_4.length ≤ 2) = true := decide_eq_true (by omega)
      clear c9
      replace H := Option.bind_eq_some_iff.mp H
      obtain ⟨t340, A100, H⟩ := H
      replace H : ((impl_Range_63.f k t340 l0_4).bind fun t343 => (some t343)) = some r := H
      have A10 := Aside0.mk A100; clear A100
      replace H := Option.bind_eq_some_iff.mp H
      obtain ⟨t343, A110, H⟩ := H
      replace H : (some t343) = some r := H
      have A11 := Aside0.mk A110; clear A110
      obtain rfl := Option.some.inj H
      go_enter Try.func31, Try.ntmps31
      try go_wp2_with (first | ((with_reducible refine gate_dst (N := 1) rfl ?_); (try (refine gate_guard (by rfl) ?_; dsimp only)); refine box_event ?hg (N := 1) ?hd (cs := #[.int .i64 a0_0, .slice A0_1 l0_1.length c0_1, .int .i64 a0_2, .int .i64 a0_3, .slice A0_4 l0_4.length c0_4]) (t := 47) ?hr ?_; (case hd => rfl); (case hg => rfl); (case hr => first | (go_simp; done) | (go_simp; rfl)); intro gb336 hg w12 hbox hb; have n0_ := Aside0.mk (below_step (hb0_ HB.out) hb); have n1_ := Aside0.mk (hbox); have n2_ := Aside0.mk ((by rw [hg]; exact (below_size (hb0_ HB.out)) : w.heap.size ≤ gb336)); have n3_ := Aside0.mk ((by rw [hg]; exact (below_size (hb0_ HB.out)) : w.heap.size ≤ gb336)); clear HB; have HB := n0_; have BK336 := n1_; have GW336 := n2_; have GE336 := n3_; clear n0_ n1_ n2_ n3_; clear hb hbox hg))
      have n0_ := Aside0.mk (blk_drew BK336.out); have n1_ := Aside0.mk (below_drew1 HB.out); clear BK336 HB; have BK336 := n0_; have HB := n1_; clear n0_ n1_
      refine start_ (n := 44) (S := fun w' => w'.cell? ⟨gb336, 0, none⟩ = some (.int .i64 a0_0) ∧ w'.cell? ⟨gb336, 1, none⟩ = some (.slice A0_1 l0_1.length c0_1) ∧ w'.cell? ⟨gb336, 2, none⟩ = some (.int .i64 a0_2) ∧ w'.cell? ⟨gb336, 3, none⟩ = some (.int .i64 a0_3) ∧ w'.cell? ⟨gb336, 4, none⟩ = some (.slice A0_4 l0_4.length c0_4)) (ds := []) #[false, false, false, false, false, false, false, false, false, false, false, false, false, false, false, false, false, false, false, false, false, false, false, false, false, false, false, false, false, false, false, false, false, false, false, false, false, false, false, false, false, false, false, false] (by kernel_rfl) rfl rfl ⟨(blk_cell BK336.out 0).trans rfl, (blk_cell BK336.out 1).trans rfl, (blk_cell BK336.out 2).trans rfl, (blk_cell BK336.out 3).trans rfl, (blk_cell BK336.out 4).trans rfl⟩ (fun hHeld => ?_); refine with_tabW impl_MouthOk.tab1 impl_MouthOk.bits1 (fun HT_ HW_ => ?_)
      generalize w12.drew = w13 at BK336 HB hHeld ⊢
      refine pu_ (i := 0) (N := some 3) HT_ ?_; refine tk_ (i := 1) (N := some 4) HT_ HW_ hHeld ?_
      refine on_ (i := 2) (N := some 5) HT_ (fun K hK => ?_)
      refine goes_ Try.func44 (by kernel_rfl) rfl #[.int .i64 a0_0, .int .i64 0, .int .i64 1000000] (by rfl) rfl rfl ar_ ?_
      with_reducible refine (impl_in.calls a0_0 0 1000000 true _ A2.out).mono ?_
      rintro e w' ⟨rfl, ⟨nd, rfl⟩⟩
      refine ⟨_, rfl, ?_⟩
      refine hK.out _ _ ⟨(blk_cell BK336.out 0).trans rfl, (blk_cell BK336.out 1).trans rfl, (blk_cell BK336.out 2).trans rfl, (blk_cell BK336.out 3).trans rfl, (blk_cell BK336.out 4).trans rfl⟩ (fun hHeld => ?_)
      clear hK K; refine nm_ 5 ?_; refine pu_ (i := 3) (N := some 6) HT_ ?_; refine pu_ (i := 4) (N := some 7) HT_ ?_; refine tk_ (i := 5) (N := some 8) HT_ HW_ hHeld ?_; refine pu_ (i := 6) (N := some 9) HT_ ?_; refine pu_ (i := 7) (N := some 10) HT_ ?_; refine pu_ (i := 8) (N := some 11) HT_ ?_; refine pu_ (i := 9) (N := some 12) HT_ ?_; refine pu_ (i := 10) (N := some 13) HT_ ?_; refine pu_ (i := 12) (N := some 15) HT_ ?_; refine tk_ (i := 11) (N := some 14) HT_ HW_ hHeld ?_; refine tk_ (i := 13) (N := some 16) HT_ HW_ hHeld ?_; refine pu_ (i := 14) (N := some 17) HT_ ?_
      refine on_ (i := 15) (N := some 18) HT_ (fun K hK => ?_)
      refine goes_ Try.func44 (by kernel_rfl) rfl #[.int .i64 a0_2, .int .i64 0, .int .i64 (l0_1.length : Int)] (by rfl) rfl rfl ar_ ?_
      with_reducible refine (impl_in.calls a0_2 0 (l0_1.length : Int) true _ A5.out).mono ?_
      rintro e w' ⟨rfl, ⟨nd, rfl⟩⟩
      refine ⟨_, rfl, ?_⟩
      refine hK.out _ _ ⟨(blk_cell BK336.out 0).trans rfl, (blk_cell BK336.out 1).trans rfl, (blk_cell BK336.out 2).trans rfl, (blk_cell BK336.out 3).trans rfl, (blk_cell BK336.out 4).trans rfl⟩ (fun hHeld => ?_)
      clear hK K; refine nm_ 18 ?_; refine pu_ (i := 16) (N := some 19) HT_ ?_; refine pu_ (i := 17) (N := some 20) HT_ ?_; refine pu_ (i := 18) (N := some 21) HT_ ?_; refine tk_ (i := 19) (N := some 22) HT_ HW_ hHeld ?_
      refine on_ (i := 20) (N := some 23) HT_ (fun K hK => ?_)
      refine goes_ Try.func44 (by kernel_rfl) rfl #[.int .i64 a0_3, .int .i64 0, .int .i64 255] (by rfl) rfl rfl ar_ ?_
      with_reducible refine (impl_in.calls a0_3 0 255 true _ A7.out).mono ?_
      rintro e w' ⟨rfl, ⟨nd, rfl⟩⟩
      refine ⟨_, rfl, ?_⟩
      refine hK.out _ _ ⟨(blk_cell BK336.out 0).trans rfl, (blk_cell BK336.out 1).trans rfl, (blk_cell BK336.out 2).trans rfl, (blk_cell BK336.out 3).trans rfl, (blk_cell BK336.out 4).trans rfl⟩ (fun hHeld => ?_)
      clear hK K; refine nm_ 23 ?_; refine pu_ (i := 21) (N := some 24) HT_ ?_; refine pu_ (i := 22) (N := some 25) HT_ ?_; refine pu_ (i := 23) (N := some 26) HT_ ?_; refine tk_ (i := 24) (N := some 27) HT_ HW_ hHeld ?_; refine pu_ (i := 25) (N := some 28) HT_ ?_; refine pu_ (i := 26) (N := some 29) HT_ ?_; refine pu_ (i := 27) (N := some 30) HT_ ?_; refine pu_ (i := 28) (N := some 31) HT_ ?_; refine pu_ (i := 29) (N := some 32) HT_ ?_; refine pu_ (i := 31) (N := some 34) HT_ ?_; refine pu_ (i := 33) (N := some 36) HT_ ?_; refine pu_ (i := 35) (N := some 38) HT_ ?_; refine pu_ (i := 39) (N := some 42) HT_ ?_; refine tk_ (i := 30) (N := some 33) HT_ HW_ hHeld ?_; refine tk_ (i := 32) (N := some 35) HT_ HW_ hHeld ?_; refine tk_ (i := 34) (N := some 37) HT_ HW_ hHeld ?_; refine tk_ (i := 36) (N := some 39) HT_ HW_ hHeld ?_; refine pu_ (i := 37) (N := some 40) HT_ ?_; refine tk_ (i := 40) (N := some 43) HT_ HW_ hHeld ?_
      refine on_ (i := 38) (N := some 41) HT_ (fun K hK => ?_)
      refine goes_ Try.func64 (by kernel_rfl) rfl #[.slice A0_4 l0_4.length c0_4, .int .i64 a0_0, .int .i64 (wrap64 (a0_0 + a0_2))] (by rfl) rfl rfl ar_ ?_
      with_reducible refine (impl_rangesOk.calls k _ _ l0_4 a0_0 (wrap64 (a0_0 + a0_2)) t340 _ ?side1 ?side2 A10.out).mono ?_
      (case side1 => exact kC_ (Kd.C_below HR0_4.out (hb1_ HB.out GE336.out)))
      (case side2 => exact HC0_4.out)
      rintro e w14 ⟨v341, rfl, ho0, hb⟩
      refine ⟨_, rfl, ?_⟩
      have n0_ := Aside0.mk (Kd.R_lower ho0 (below_size (hb1_ HB.out GE336.out))); have n1_ := Aside0.mk (blk_below (g := gb336) (o := .cells #[.int .i64 a0_0, .slice A0_1 l0_1.length c0_1, .int .i64 a0_2, .int .i64 a0_3, .slice A0_4 l0_4.length c0_4] 47 (0, 0)) (kb_ BK336.out) hb); have n2_ := Aside0.mk (below_step (hb1_ HB.out GE336.out) hb); clear BK336 HB; have HO342 := n0_; have BK336 := n1_; have HB := n2_; clear n0_ n1_ n2_; (try clear hb); (try clear hb2); (try clear hk); (try clear hi); (try clear ho0)
      obtain ⟨Ao15, co15, eo15⟩ := Kd.R_slice HO342.out
      (first | subst eo15 | (injection eo15 with f1_ f2_ f3_; have f4_ := f1_.symm; have f5_ := f3_.symm; clear f1_ f2_ f3_; subst f4_; subst f5_))
      refine hK.out _ _ ⟨(blk_cell BK336.out 0).trans rfl, (blk_cell BK336.out 1).trans rfl, (blk_cell BK336.out 2).trans rfl, (blk_cell BK336.out 3).trans rfl, (blk_cell BK336.out 4).trans rfl⟩ (fun hHeld => ?_)
      clear hK K; refine nm_ 41 ?_
      refine on_ (i := 41) (N := some 44) HT_ (fun K hK => ?_)
      refine goes_ Try.func63 (by kernel_rfl) rfl #[.slice Ao15 t340.length co15, .slice A0_4 l0_4.length c0_4] (by rfl) rfl rfl ar_ ?_
      with_reducible refine (impl_Range_63.calls k _ _ t340 _ _ l0_4 t343 _ ?side1 ?side2 ?side3 ?side4 A11.out).mono ?_
      (case side1 => exact kC_ (Kd.R_reads' HO342.out).2.2)
      (case side2 => exact (Kd.R_reads' HO342.out).2.1)
      (case side3 => exact kC_ (Kd.C_below HR0_4.out HB.out))
      (case side4 => exact HC0_4.out)
      rintro e w' ⟨rfl, ⟨nd, rfl⟩⟩
      refine ⟨_, rfl, ?_⟩
      refine hK.out _ _ ⟨(blk_cell BK336.out 0).trans rfl, (blk_cell BK336.out 1).trans rfl, (blk_cell BK336.out 2).trans rfl, (blk_cell BK336.out 3).trans rfl, (blk_cell BK336.out 4).trans rfl⟩ (fun hHeld => ?_)
      clear hK K; refine nm_ 44 ?_; refine pu_ (i := 42) (N := some 45) HT_ ?_; refine pu_ (i := 43) (N := some 2) HT_ ?_
      refine done_ (done_of HT_.out (by kernel_rfl)) ?_
      try go_wp2
      go_ret
      exact ⟨by first | rfl | (simp [errW_none, errW_some] <;> rfl) | (simp [*, errW_none, errW_some] <;> rfl), by repeat (first | (with_reducible first | exact HB.out | apply below_alloc | apply pw_below_drewN | apply below_drew1 | refine below_set ?_ GE336.out) | exact HB.out)⟩
     ·rw [if_neg c9] at H
      have c9b0 : decide ((l0_4.length : Int) ≤ 2) = false := decide_eq_false c9
      have c9b1 : decide (l0_4.length ≤ 2) = false := decide_eq_false (by omega)
      clear c9
      obtain rfl := Option.some.inj H
      go_enter Try.func31, Try.ntmps31
      try go_wp2_with (first | ((with_reducible refine gate_dst (N := 1) rfl ?_); (try (refine gate_guard (by rfl) ?_; dsimp only)); refine box_event ?hg (N := 1) ?hd (cs := #[.int .i64 a0_0, .slice A0_1 l0_1.length c0_1, .int .i64 a0_2, .int .i64 a0_3, .slice A0_4 l0_4.length c0_4]) (t := 47) ?hr ?_; (case hd => rfl); (case hg => rfl); (case hr => first | (go_simp; done) | (go_simp; rfl)); intro gb336 hg w16 hbox hb; have n0_ := Aside0.mk (below_step (hb0_ HB.out) hb); have n1_ := Aside0.mk (hbox); have n2_ := Aside0.mk ((by rw [hg]; exact (below_size (hb0_ HB.out)) : w.heap.size ≤ gb336)); have n3_ := Aside0.mk ((by rw [hg]; exact (below_size (hb0_ HB.out)) : w.heap.size ≤ gb336)); clear HB; have HB := n0_; have BK336 := n1_; have GW336 := n2_; have GE336 := n3_; clear n0_ n1_ n2_ n3_; clear hb hbox hg))
      have n0_ := Aside0.mk (blk_drew BK336.out); have n1_ := Aside0.mk (below_drew1 HB.out); clear BK336 HB; have BK336 := n0_; have HB := n1_; clear n0_ n1_
      refine start_ (n := 44) (S := fun w' => w'.cell? ⟨gb336, 0, none⟩ = some (.int .i64 a0_0) ∧ w'.cell? ⟨gb336, 1, none⟩ = some (.slice A0_1 l0_1.length c0_1) ∧ w'.cell? ⟨gb336, 2, none⟩ = some (.int .i64 a0_2) ∧ w'.cell? ⟨gb336, 3, none⟩ = some (.int .i64 a0_3) ∧ w'.cell? ⟨gb336, 4, none⟩ = some (.slice A0_4 l0_4.length c0_4)) (ds := []) #[false, false, false, false, false, false, false, false, false, false, false, false, false, false, false, false, false, false, false, false, false, false, false, false, false, false, false, false, false, false, false, false, false, false, false, false, false, false, false, false, false, false, false, false] (by kernel_rfl) rfl rfl ⟨(blk_cell BK336.out 0).trans rfl, (blk_cell BK336.out 1).trans rfl, (blk_cell BK336.out 2).trans rfl, (blk_cell BK336.out 3).trans rfl, (blk_cell BK336.out 4).trans rfl⟩ (fun hHeld => ?_); refine with_tabW impl_MouthOk.tab1 impl_MouthOk.bits1 (fun HT_ HW_ => ?_)
      generalize w16.drew = w17 at BK336 HB hHeld ⊢
      refine pu_ (i := 0) (N := some 3) HT_ ?_; refine tk_ (i := 1) (N := some 4) HT_ HW_ hHeld ?_
      refine on_ (i := 2) (N := some 5) HT_ (fun K hK => ?_)
      refine goes_ Try.func44 (by kernel_rfl) rfl #[.int .i64 a0_0, .int .i64 0, .int .i64 1000000] (by rfl) rfl rfl ar_ ?_
      with_reducible refine (impl_in.calls a0_0 0 1000000 true _ A2.out).mono ?_
      rintro e w' ⟨rfl, ⟨nd, rfl⟩⟩
      refine ⟨_, rfl, ?_⟩
      refine hK.out _ _ ⟨(blk_cell BK336.out 0).trans rfl, (blk_cell BK336.out 1).trans rfl, (blk_cell BK336.out 2).trans rfl, (blk_cell BK336.out 3).trans rfl, (blk_cell BK336.out 4).trans rfl⟩ (fun hHeld => ?_)
      clear hK K; refine nm_ 5 ?_; refine pu_ (i := 3) (N := some 6) HT_ ?_; refine pu_ (i := 4) (N := some 7) HT_ ?_; refine tk_ (i := 5) (N := some 8) HT_ HW_ hHeld ?_; refine pu_ (i := 6) (N := some 9) HT_ ?_; refine pu_ (i := 7) (N := some 10) HT_ ?_; refine pu_ (i := 8) (N := some 11) HT_ ?_; refine pu_ (i := 9) (N := some 12) HT_ ?_; refine pu_ (i := 10) (N := some 13) HT_ ?_; refine pu_ (i := 12) (N := some 15) HT_ ?_; refine tk_ (i := 11) (N := some 14) HT_ HW_ hHeld ?_; refine tk_ (i := 13) (N := some 16) HT_ HW_ hHeld ?_; refine pu_ (i := 14) (N := some 17) HT_ ?_
      refine on_ (i := 15) (N := some 18) HT_ (fun K hK => ?_)
      refine goes_ Try.func44 (by kernel_rfl) rfl #[.int .i64 a0_2, .int .i64 0, .int .i64 (l0_1.length : Int)] (by rfl) rfl rfl ar_ ?_
      with_reducible refine (impl_in.calls a0_2 0 (l0_1.length : Int) true _ A5.out).mono ?_
      rintro e w' ⟨rfl, ⟨nd, rfl⟩⟩
      refine ⟨_, rfl, ?_⟩
      refine hK.out _ _ ⟨(blk_cell BK336.out 0).trans rfl, (blk_cell BK336.out 1).trans rfl, (blk_cell BK336.out 2).trans rfl, (blk_cell BK336.out 3).trans rfl, (blk_cell BK336.out 4).trans rfl⟩ (fun hHeld => ?_)
      clear hK K; refine nm_ 18 ?_; refine pu_ (i := 16) (N := some 19) HT_ ?_; refine pu_ (i := 17) (N := some 20) HT_ ?_; refine pu_ (i := 18) (N := some 21) HT_ ?_; refine tk_ (i := 19) (N := some 22) HT_ HW_ hHeld ?_
      refine on_ (i := 20) (N := some 23) HT_ (fun K hK => ?_)
      refine goes_ Try.func44 (by kernel_rfl) rfl #[.int .i64 a0_3, .int .i64 0, .int .i64 255] (by rfl) rfl rfl ar_ ?_
      with_reducible refine (impl_in.calls a0_3 0 255 true _ A7.out).mono ?_
      rintro e w' ⟨rfl, ⟨nd, rfl⟩⟩
      refine ⟨_, rfl, ?_⟩
      refine hK.out _ _ ⟨(blk_cell BK336.out 0).trans rfl, (blk_cell BK336.out 1).trans rfl, (blk_cell BK336.out 2).trans rfl, (blk_cell BK336.out 3).trans rfl, (blk_cell BK336.out 4).trans rfl⟩ (fun hHeld => ?_)
      clear hK K; refine nm_ 23 ?_; refine pu_ (i := 21) (N := some 24) HT_ ?_; refine pu_ (i := 22) (N := some 25) HT_ ?_; refine pu_ (i := 23) (N := some 26) HT_ ?_; refine tk_ (i := 24) (N := some 27) HT_ HW_ hHeld ?_; refine pu_ (i := 25) (N := some 28) HT_ ?_; refine pu_ (i := 26) (N := some 29) HT_ ?_; refine pu_ (i := 27) (N := some 30) HT_ ?_; refine pu_ (i := 28) (N := some 31) HT_ ?_; refine pn_ (i := 29) (N := some 32) HT_ ?_; refine pn_ (i := 30) (N := some 33) HT_ ?_; refine pn_ (i := 31) (N := some 34) HT_ ?_; refine pn_ (i := 32) (N := some 35) HT_ ?_; refine pn_ (i := 33) (N := some 36) HT_ ?_; refine pn_ (i := 34) (N := some 37) HT_ ?_; refine pn_ (i := 35) (N := some 38) HT_ ?_; refine pn_ (i := 36) (N := some 39) HT_ ?_; refine pn_ (i := 37) (N := some 40) HT_ ?_; refine pn_ (i := 38) (N := some 41) HT_ ?_; refine pn_ (i := 39) (N := some 42) HT_ ?_; refine pn_ (i := 40) (N := some 43) HT_ ?_; refine pn_ (i := 41) (N := some 44) HT_ ?_; refine pu_ (i := 42) (N := some 45) HT_ ?_; refine pu_ (i := 43) (N := some 2) HT_ ?_
      refine done_ (done_of HT_.out (by kernel_rfl)) ?_
      try go_wp2
      go_ret
      exact ⟨by first | rfl | (simp [errW_none, errW_some] <;> rfl) | (simp [*, errW_none, errW_some] <;> rfl), by repeat (first | (with_reducible first | exact HB.out | apply below_alloc | apply pw_below_drewN | apply below_drew1 | refine below_set ?_ GE336.out) | exact HB.out)⟩
    ·replace c8 := Bool.eq_false_iff.mpr c8
     subst c8
     have H1 : (some false) = some r := by rw [if_neg (show ¬ (false = true) by decide)] at H; exact H
     clear H; have H := H1; clear H1
     obtain rfl := Option.some.inj H
     go_enter Try.func31, Try.ntmps31
     try go_wp2_with (first | ((with_reducible refine gate_dst (N := 1) rfl ?_); (try (refine gate_guard (by rfl) ?_; dsimp only)); refine box_event ?hg (N := 1) ?hd (cs := #[.int .i64 a0_0, .slice A0_1 l0_1.length c0_1, .int .i64 a0_2, .int .i64 a0_3, .slice A0_4 l0_4.length c0_4]) (t := 47) ?hr ?_; (case hd => rfl); (case hg => rfl); (case hr => first | (go_simp; done) | (go_simp; rfl)); intro gb336 hg w18 hbox hb; have n0_ := Aside0.mk (below_step (hb0_ HB.out) hb); have n1_ := Aside0.mk (hbox); have n2_ := Aside0.mk ((by rw [hg]; exact (below_size (hb0_ HB.out)) : w.heap.size ≤ gb336)); have n3_ := Aside0.mk ((by rw [hg]; exact (below_size (hb0_ HB.out)) : w.heap.size ≤ gb336)); clear HB; have HB := n0_; have BK336 := n1_; have GW336 := n2_; have GE336 := n3_; clear n0_ n1_ n2_ n3_; clear hb hbox hg))
     have n0_ := Aside0.mk (blk_drew BK336.out); have n1_ := Aside0.mk (below_drew1 HB.out); clear BK336 HB; have BK336 := n0_; have HB := n1_; clear n0_ n1_
     refine start_ (n := 44) (S := fun w' => w'.cell? ⟨gb336, 0, none⟩ = some (.int .i64 a0_0) ∧ w'.cell? ⟨gb336, 1, none⟩ = some (.slice A0_1 l0_1.length c0_1) ∧ w'.cell? ⟨gb336, 2, none⟩ = some (.int .i64 a0_2) ∧ w'.cell? ⟨gb336, 3, none⟩ = some (.int .i64 a0_3) ∧ w'.cell? ⟨gb336, 4, none⟩ = some (.slice A0_4 l0_4.length c0_4)) (ds := []) #[false, false, false, false, false, false, false, false, false, false, false, false, false, false, false, false, false, false, false, false, false, false, false, false, false, false, false, false, false, false, false, false, false, false, false, false, false, false, false, false, false, false, false, false] (by kernel_rfl) rfl rfl ⟨(blk_cell BK336.out 0).trans rfl, (blk_cell BK336.out 1).trans rfl, (blk_cell BK336.out 2).trans rfl, (blk_cell BK336.out 3).trans rfl, (blk_cell BK336.out 4).trans rfl⟩ (fun hHeld => ?_); refine with_tabW impl_MouthOk.tab1 impl_MouthOk.bits1 (fun HT_ HW_ => ?_)
     generalize w18.drew = w19 at BK336 HB hHeld ⊢
     refine pu_ (i := 0) (N := some 3) HT_ ?_; refine tk_ (i := 1) (N := some 4) HT_ HW_ hHeld ?_
     refine on_ (i := 2) (N := some 5) HT_ (fun K hK => ?_)
     refine goes_ Try.func44 (by kernel_rfl) rfl #[.int .i64 a0_0, .int .i64 0, .int .i64 1000000] (by rfl) rfl rfl ar_ ?_
     with_reducible refine (impl_in.calls a0_0 0 1000000 true _ A2.out).mono ?_
     rintro e w' ⟨rfl, ⟨nd, rfl⟩⟩
     refine ⟨_, rfl, ?_⟩
     refine hK.out _ _ ⟨(blk_cell BK336.out 0).trans rfl, (blk_cell BK336.out 1).trans rfl, (blk_cell BK336.out 2).trans rfl, (blk_cell BK336.out 3).trans rfl, (blk_cell BK336.out 4).trans rfl⟩ (fun hHeld => ?_)
     clear hK K; refine nm_ 5 ?_; refine pu_ (i := 3) (N := some 6) HT_ ?_; refine pu_ (i := 4) (N := some 7) HT_ ?_; refine tk_ (i := 5) (N := some 8) HT_ HW_ hHeld ?_; refine pu_ (i := 6) (N := some 9) HT_ ?_; refine pu_ (i := 7) (N := some 10) HT_ ?_; refine pu_ (i := 8) (N := some 11) HT_ ?_; refine pu_ (i := 9) (N := some 12) HT_ ?_; refine pu_ (i := 10) (N := some 13) HT_ ?_; refine pu_ (i := 12) (N := some 15) HT_ ?_; refine tk_ (i := 11) (N := some 14) HT_ HW_ hHeld ?_; refine tk_ (i := 13) (N := some 16) HT_ HW_ hHeld ?_; refine pu_ (i := 14) (N := some 17) HT_ ?_
     refine on_ (i := 15) (N := some 18) HT_ (fun K hK => ?_)
     refine goes_ Try.func44 (by kernel_rfl) rfl #[.int .i64 a0_2, .int .i64 0, .int .i64 (l0_1.length : Int)] (by rfl) rfl rfl ar_ ?_
     with_reducible refine (impl_in.calls a0_2 0 (l0_1.length : Int) true _ A5.out).mono ?_
     rintro e w' ⟨rfl, ⟨nd, rfl⟩⟩
     refine ⟨_, rfl, ?_⟩
     refine hK.out _ _ ⟨(blk_cell BK336.out 0).trans rfl, (blk_cell BK336.out 1).trans rfl, (blk_cell BK336.out 2).trans rfl, (blk_cell BK336.out 3).trans rfl, (blk_cell BK336.out 4).trans rfl⟩ (fun hHeld => ?_)
     clear hK K; refine nm_ 18 ?_; refine pu_ (i := 16) (N := some 19) HT_ ?_; refine pu_ (i := 17) (N := some 20) HT_ ?_; refine pu_ (i := 18) (N := some 21) HT_ ?_; refine tk_ (i := 19) (N := some 22) HT_ HW_ hHeld ?_
     refine on_ (i := 20) (N := some 23) HT_ (fun K hK => ?_)
     refine goes_ Try.func44 (by kernel_rfl) rfl #[.int .i64 a0_3, .int .i64 0, .int .i64 255] (by rfl) rfl rfl ar_ ?_
     with_reducible refine (impl_in.calls a0_3 0 255 false _ A7.out).mono ?_
     rintro e w' ⟨rfl, ⟨nd, rfl⟩⟩
     refine ⟨_, rfl, ?_⟩
     refine hK.out _ _ ⟨(blk_cell BK336.out 0).trans rfl, (blk_cell BK336.out 1).trans rfl, (blk_cell BK336.out 2).trans rfl, (blk_cell BK336.out 3).trans rfl, (blk_cell BK336.out 4).trans rfl⟩ (fun hHeld => ?_)
     clear hK K; refine nm_ 23 ?_; refine pu_ (i := 21) (N := some 24) HT_ ?_; refine pu_ (i := 22) (N := some 25) HT_ ?_; refine pn_ (i := 23) (N := some 26) HT_ ?_; refine pn_ (i := 24) (N := some 27) HT_ ?_; refine pn_ (i := 25) (N := some 28) HT_ ?_; refine pn_ (i := 26) (N := some 29) HT_ ?_; refine pu_ (i := 27) (N := some 30) HT_ ?_; refine pu_ (i := 28) (N := some 31) HT_ ?_; refine pn_ (i := 29) (N := some 32) HT_ ?_; refine pn_ (i := 30) (N := some 33) HT_ ?_; refine pn_ (i := 31) (N := some 34) HT_ ?_; refine pn_ (i := 32) (N := some 35) HT_ ?_; refine pn_ (i := 33) (N := some 36) HT_ ?_; refine pn_ (i := 34) (N := some 37) HT_ ?_; refine pn_ (i := 35) (N := some 38) HT_ ?_; refine pn_ (i := 36) (N := some 39) HT_ ?_; refine pn_ (i := 37) (N := some 40) HT_ ?_; refine pn_ (i := 38) (N := some 41) HT_ ?_; refine pn_ (i := 39) (N := some 42) HT_ ?_; refine pn_ (i := 40) (N := some 43) HT_ ?_; refine pn_ (i := 41) (N := some 44) HT_ ?_; refine pu_ (i := 42) (N := some 45) HT_ ?_; refine pu_ (i := 43) (N := some 2) HT_ ?_
     refine done_ (done_of HT_.out (by kernel_rfl)) ?_
     try go_wp2
     go_ret
     exact ⟨by first | rfl | (simp [errW_none, errW_some] <;> rfl) | (simp [*, errW_none, errW_some] <;> rfl), by repeat (first | (with_reducible first | exact HB.out | apply below_alloc | apply pw_below_drewN | apply below_drew1 | refine below_set ?_ GE336.out) | exact HB.out)⟩
   ·replace c6 := Bool.eq_false_iff.mpr c6
    subst c6
    have H1 : (some false) = some r := by rw [if_neg (show ¬ (false = true) by decide)] at H; exact H
    clear H; have H := H1; clear H1
    obtain rfl := Option.some.inj H
    go_enter Try.func31, Try.ntmps31
    try go_wp2_with (first | ((with_reducible refine gate_dst (N := 1) rfl ?_); (try (refine gate_guard (by rfl) ?_; dsimp only)); refine box_event ?hg (N := 1) ?hd (cs := #[.int .i64 a0_0, .slice A0_1 l0_1.length c0_1, .int .i64 a0_2, .int .i64 a0_3, .slice A0_4 l0_4.length c0_4]) (t := 47) ?hr ?_; (case hd => rfl); (case hg => rfl); (case hr => first | (go_simp; done) | (go_simp; rfl)); intro gb336 hg w20 hbox hb; have n0_ := Aside0.mk (below_step (hb0_ HB.out) hb); have n1_ := Aside0.mk (hbox); have n2_ := Aside0.mk ((by rw [hg]; exact (below_size (hb0_ HB.out)) : w.heap.size ≤ gb336)); have n3_ := Aside0.mk ((by rw [hg]; exact (below_size (hb0_ HB.out)) : w.heap.size ≤ gb336)); clear HB; have HB := n0_; have BK336 := n1_; have GW336 := n2_; have GE336 := n3_; clear n0_ n1_ n2_ n3_; clear hb hbox hg))
    have n0_ := Aside0.mk (blk_drew BK336.out); have n1_ := Aside0.mk (below_drew1 HB.out); clear BK336 HB; have BK336 := n0_; have HB := n1_; clear n0_ n1_
    refine start_ (n := 44) (S := fun w' => w'.cell? ⟨gb336, 0, none⟩ = some (.int .i64 a0_0) ∧ w'.cell? ⟨gb336, 1, none⟩ = some (.slice A0_1 l0_1.length c0_1) ∧ w'.cell? ⟨gb336, 2, none⟩ = some (.int .i64 a0_2) ∧ w'.cell? ⟨gb336, 3, none⟩ = some (.int .i64 a0_3) ∧ w'.cell? ⟨gb336, 4, none⟩ = some (.slice A0_4 l0_4.length c0_4)) (ds := []) #[false, false, false, false, false, false, false, false, false, false, false, false, false, false, false, false, false, false, false, false, false, false, false, false, false, false, false, false, false, false, false, false, false, false, false, false, false, false, false, false, false, false, false, false] (by kernel_rfl) rfl rfl ⟨(blk_cell BK336.out 0).trans rfl, (blk_cell BK336.out 1).trans rfl, (blk_cell BK336.out 2).trans rfl, (blk_cell BK336.out 3).trans rfl, (blk_cell BK336.out 4).trans rfl⟩ (fun hHeld => ?_); refine with_tabW impl_MouthOk.tab1 impl_MouthOk.bits1 (fun HT_ HW_ => ?_)
    generalize w20.drew = w21 at BK336 HB hHeld ⊢
    refine pu_ (i := 0) (N := some 3) HT_ ?_; refine tk_ (i := 1) (N := some 4) HT_ HW_ hHeld ?_
    refine on_ (i := 2) (N := some 5) HT_ (fun K hK => ?_)
    refine goes_ Try.func44 (by kernel_rfl) rfl #[.int .i64 a0_0, .int .i64 0, .int .i64 1000000] (by rfl) rfl rfl ar_ ?_
    with_reducible refine (impl_in.calls a0_0 0 1000000 true _ A2.out).mono ?_
    rintro e w' ⟨rfl, ⟨nd, rfl⟩⟩
    refine ⟨_, rfl, ?_⟩
    refine hK.out _ _ ⟨(blk_cell BK336.out 0).trans rfl, (blk_cell BK336.out 1).trans rfl, (blk_cell BK336.out 2).trans rfl, (blk_cell BK336.out 3).trans rfl, (blk_cell BK336.out 4).trans rfl⟩ (fun hHeld => ?_)
    clear hK K; refine nm_ 5 ?_; refine pu_ (i := 3) (N := some 6) HT_ ?_; refine pu_ (i := 4) (N := some 7) HT_ ?_; refine tk_ (i := 5) (N := some 8) HT_ HW_ hHeld ?_; refine pu_ (i := 6) (N := some 9) HT_ ?_; refine pu_ (i := 7) (N := some 10) HT_ ?_; refine pu_ (i := 8) (N := some 11) HT_ ?_; refine pu_ (i := 9) (N := some 12) HT_ ?_; refine pu_ (i := 10) (N := some 13) HT_ ?_; refine pu_ (i := 12) (N := some 15) HT_ ?_; refine tk_ (i := 11) (N := some 14) HT_ HW_ hHeld ?_; refine tk_ (i := 13) (N := some 16) HT_ HW_ hHeld ?_; refine pu_ (i := 14) (N := some 17) HT_ ?_
    refine on_ (i := 15) (N := some 18) HT_ (fun K hK => ?_)
    refine goes_ Try.func44 (by kernel_rfl) rfl #[.int .i64 a0_2, .int .i64 0, .int .i64 (l0_1.length : Int)] (by rfl) rfl rfl ar_ ?_
    with_reducible refine (impl_in.calls a0_2 0 (l0_1.length : Int) false _ A5.out).mono ?_
    rintro e w' ⟨rfl, ⟨nd, rfl⟩⟩
    refine ⟨_, rfl, ?_⟩
    refine hK.out _ _ ⟨(blk_cell BK336.out 0).trans rfl, (blk_cell BK336.out 1).trans rfl, (blk_cell BK336.out 2).trans rfl, (blk_cell BK336.out 3).trans rfl, (blk_cell BK336.out 4).trans rfl⟩ (fun hHeld => ?_)
    clear hK K; refine nm_ 18 ?_; refine pu_ (i := 16) (N := some 19) HT_ ?_; refine pu_ (i := 17) (N := some 20) HT_ ?_; refine pn_ (i := 18) (N := some 21) HT_ ?_; refine pn_ (i := 19) (N := some 22) HT_ ?_; refine pn_ (i := 20) (N := some 23) HT_ ?_; refine pu_ (i := 21) (N := some 24) HT_ ?_; refine pu_ (i := 22) (N := some 25) HT_ ?_; refine pn_ (i := 23) (N := some 26) HT_ ?_; refine pn_ (i := 24) (N := some 27) HT_ ?_; refine pn_ (i := 25) (N := some 28) HT_ ?_; refine pn_ (i := 26) (N := some 29) HT_ ?_; refine pu_ (i := 27) (N := some 30) HT_ ?_; refine pu_ (i := 28) (N := some 31) HT_ ?_; refine pn_ (i := 29) (N := some 32) HT_ ?_; refine pn_ (i := 30) (N := some 33) HT_ ?_; refine pn_ (i := 31) (N := some 34) HT_ ?_; refine pn_ (i := 32) (N := some 35) HT_ ?_; refine pn_ (i := 33) (N := some 36) HT_ ?_; refine pn_ (i := 34) (N := some 37) HT_ ?_; refine pn_ (i := 35) (N := some 38) HT_ ?_; refine pn_ (i := 36) (N := some 39) HT_ ?_; refine pn_ (i := 37) (N := some 40) HT_ ?_; refine pn_ (i := 38) (N := some 41) HT_ ?_; refine pn_ (i := 39) (N := some 42) HT_ ?_; refine pn_ (i := 40) (N := some 43) HT_ ?_; refine pn_ (i := 41) (N := some 44) HT_ ?_; refine pu_ (i := 42) (N := some 45) HT_ ?_; refine pu_ (i := 43) (N := some 2) HT_ ?_
    refine done_ (done_of HT_.out (by kernel_rfl)) ?_
    try go_wp2
    go_ret
    exact ⟨by first | rfl | (simp [errW_none, errW_some] <;> rfl) | (simp [*, errW_none, errW_some] <;> rfl), by repeat (first | (with_reducible first | exact HB.out | apply below_alloc | apply pw_below_drewN | apply below_drew1 | refine below_set ?_ GE336.out) | exact HB.out)⟩
  ·rw [if_neg c4] at H
   have c4b0 : decide ((l0_1.length : Int) ≤ 32) = false := decide_eq_false c4
   have c4b1 : decide (l0_1.length ≤ 32) = false := decide_eq_false (by omega)
   clear c4
   obtain rfl := Option.some.inj H
   go_enter Try.func31, Try.ntmps31
   try go_wp2_with (first | ((with_reducible refine gate_dst (N := 1) rfl ?_); (try (refine gate_guard (by rfl) ?_; dsimp only)); refine box_event ?hg (N := 1) ?hd (cs := #[.int .i64 a0_0, .slice A0_1 l0_1.length c0_1, .int .i64 a0_2, .int .i64 a0_3, .slice A0_4 l0_4.length c0_4]) (t := 47) ?hr ?_; (case hd => rfl); (case hg => rfl); (case hr => first | (go_simp; done) | (go_simp; rfl)); intro gb336 hg w22 hbox hb; have n0_ := Aside0.mk (below_step (hb0_ HB.out) hb); have n1_ := Aside0.mk (hbox); have n2_ := Aside0.mk ((by rw [hg]; exact (below_size (hb0_ HB.out)) : w.heap.size ≤ gb336)); have n3_ := Aside0.mk ((by rw [hg]; exact (below_size (hb0_ HB.out)) : w.heap.size ≤ gb336)); clear HB; have HB := n0_; have BK336 := n1_; have GW336 := n2_; have GE336 := n3_; clear n0_ n1_ n2_ n3_; clear hb hbox hg))
   have n0_ := Aside0.mk (blk_drew BK336.out); have n1_ := Aside0.mk (below_drew1 HB.out); clear BK336 HB; have BK336 := n0_; have HB := n1_; clear n0_ n1_
   refine start_ (n := 44) (S := fun w' => w'.cell? ⟨gb336, 0, none⟩ = some (.int .i64 a0_0) ∧ w'.cell? ⟨gb336, 1, none⟩ = some (.slice A0_1 l0_1.length c0_1) ∧ w'.cell? ⟨gb336, 2, none⟩ = some (.int .i64 a0_2) ∧ w'.cell? ⟨gb336, 3, none⟩ = some (.int .i64 a0_3) ∧ w'.cell? ⟨gb336, 4, none⟩ = some (.slice A0_4 l0_4.length c0_4)) (ds := []) #[false, false, false, false, false, false, false, false, false, false, false, false, false, false, false, false, false, false, false, false, false, false, false, false, false, false, false, false, false, false, false, false, false, false, false, false, false, false, false, false, false, false, false, false] (by kernel_rfl) rfl rfl ⟨(blk_cell BK336.out 0).trans rfl, (blk_cell BK336.out 1).trans rfl, (blk_cell BK336.out 2).trans rfl, (blk_cell BK336.out 3).trans rfl, (blk_cell BK336.out 4).trans rfl⟩ (fun hHeld => ?_); refine with_tabW impl_MouthOk.tab1 impl_MouthOk.bits1 (fun HT_ HW_ => ?_)
   generalize w22.drew = w23 at BK336 HB hHeld ⊢
   refine pu_ (i := 0) (N := some 3) HT_ ?_; refine tk_ (i := 1) (N := some 4) HT_ HW_ hHeld ?_
   refine on_ (i := 2) (N := some 5) HT_ (fun K hK => ?_)
   refine goes_ Try.func44 (by kernel_rfl) rfl #[.int .i64 a0_0, .int .i64 0, .int .i64 1000000] (by rfl) rfl rfl ar_ ?_
   with_reducible refine (impl_in.calls a0_0 0 1000000 true _ A2.out).mono ?_
   rintro e w' ⟨rfl, ⟨nd, rfl⟩⟩
   refine ⟨_, rfl, ?_⟩
   refine hK.out _ _ ⟨(blk_cell BK336.out 0).trans rfl, (blk_cell BK336.out 1).trans rfl, (blk_cell BK336.out 2).trans rfl, (blk_cell BK336.out 3).trans rfl, (blk_cell BK336.out 4).trans rfl⟩ (fun hHeld => ?_)
   clear hK K; refine nm_ 5 ?_; refine pu_ (i := 3) (N := some 6) HT_ ?_; refine pu_ (i := 4) (N := some 7) HT_ ?_; refine tk_ (i := 5) (N := some 8) HT_ HW_ hHeld ?_; refine pu_ (i := 6) (N := some 9) HT_ ?_; refine pu_ (i := 7) (N := some 10) HT_ ?_; refine pu_ (i := 8) (N := some 11) HT_ ?_; refine pu_ (i := 9) (N := some 12) HT_ ?_; refine pn_ (i := 10) (N := some 13) HT_ ?_; refine pn_ (i := 11) (N := some 14) HT_ ?_; refine pn_ (i := 12) (N := some 15) HT_ ?_; refine pn_ (i := 13) (N := some 16) HT_ ?_; refine pn_ (i := 14) (N := some 17) HT_ ?_; refine pn_ (i := 15) (N := some 18) HT_ ?_; refine pu_ (i := 16) (N := some 19) HT_ ?_; refine pu_ (i := 17) (N := some 20) HT_ ?_; refine pn_ (i := 18) (N := some 21) HT_ ?_; refine pn_ (i := 19) (N := some 22) HT_ ?_; refine pn_ (i := 20) (N := some 23) HT_ ?_; refine pu_ (i := 21) (N := some 24) HT_ ?_; refine pu_ (i := 22) (N := some 25) HT_ ?_; refine pn_ (i := 23) (N := some 26) HT_ ?_; refine pn_ (i := 24) (N := some 27) HT_ ?_; refine pn_ (i := 25) (N := some 28) HT_ ?_; refine pn_ (i := 26) (N := some 29) HT_ ?_; refine pu_ (i := 27) (N := some 30) HT_ ?_; refine pu_ (i := 28) (N := some 31) HT_ ?_; refine pn_ (i := 29) (N := some 32) HT_ ?_; refine pn_ (i := 30) (N := some 33) HT_ ?_; refine pn_ (i := 31) (N := some 34) HT_ ?_; refine pn_ (i := 32) (N := some 35) HT_ ?_; refine pn_ (i := 33) (N := some 36) HT_ ?_; refine pn_ (i := 34) (N := some 37) HT_ ?_; refine pn_ (i := 35) (N := some 38) HT_ ?_; refine pn_ (i := 36) (N := some 39) HT_ ?_; refine pn_ (i := 37) (N := some 40) HT_ ?_; refine pn_ (i := 38) (N := some 41) HT_ ?_; refine pn_ (i := 39) (N := some 42) HT_ ?_; refine pn_ (i := 40) (N := some 43) HT_ ?_; refine pn_ (i := 41) (N := some 44) HT_ ?_; refine pu_ (i := 42) (N := some 45) HT_ ?_; refine pu_ (i := 43) (N := some 2) HT_ ?_
   refine done_ (done_of HT_.out (by kernel_rfl)) ?_
   try go_wp2
   go_ret
   exact ⟨by first | rfl | (simp [errW_none, errW_some] <;> rfl) | (simp [*, errW_none, errW_some] <;> rfl), by repeat (first | (with_reducible first | exact HB.out | apply below_alloc | apply pw_below_drewN | apply below_drew1 | refine below_set ?_ GE336.out) | exact HB.out)⟩
 ·replace c3 := Bool.eq_false_iff.mpr c3
  subst c3
  have H1 : (some false) = some r := by rw [if_neg (show ¬ (false = true) by decide)] at H; exact H
  clear H; have H := H1; clear H1
  obtain rfl := Option.some.inj H
  go_enter Try.func31, Try.ntmps31
  try go_wp2_with (first | ((with_reducible refine gate_dst (N := 1) rfl ?_); (try (refine gate_guard (by rfl) ?_; dsimp only)); refine box_event ?hg (N := 1) ?hd (cs := #[.int .i64 a0_0, .slice A0_1 l0_1.length c0_1, .int .i64 a0_2, .int .i64 a0_3, .slice A0_4 l0_4.length c0_4]) (t := 47) ?hr ?_; (case hd => rfl); (case hg => rfl); (case hr => first | (go_simp; done) | (go_simp; rfl)); intro gb336 hg w24 hbox hb; have n0_ := Aside0.mk (below_step (hb0_ HB.out) hb); have n1_ := Aside0.mk (hbox); have n2_ := Aside0.mk ((by rw [hg]; exact (below_size (hb0_ HB.out)) : w.heap.size ≤ gb336)); have n3_ := Aside0.mk ((by rw [hg]; exact (below_size (hb0_ HB.out)) : w.heap.size ≤ gb336)); clear HB; have HB := n0_; have BK336 := n1_; have GW336 := n2_; have GE336 := n3_; clear n0_ n1_ n2_ n3_; clear hb hbox hg))
  have n0_ := Aside0.mk (blk_drew BK336.out); have n1_ := Aside0.mk (below_drew1 HB.out); clear BK336 HB; have BK336 := n0_; have HB := n1_; clear n0_ n1_
  refine start_ (n := 44) (S := fun w' => w'.cell? ⟨gb336, 0, none⟩ = some (.int .i64 a0_0) ∧ w'.cell? ⟨gb336, 1, none⟩ = some (.slice A0_1 l0_1.length c0_1) ∧ w'.cell? ⟨gb336, 2, none⟩ = some (.int .i64 a0_2) ∧ w'.cell? ⟨gb336, 3, none⟩ = some (.int .i64 a0_3) ∧ w'.cell? ⟨gb336, 4, none⟩ = some (.slice A0_4 l0_4.length c0_4)) (ds := []) #[false, false, false, false, false, false, false, false, false, false, false, false, false, false, false, false, false, false, false, false, false, false, false, false, false, false, false, false, false, false, false, false, false, false, false, false, false, false, false, false, false, false, false, false] (by kernel_rfl) rfl rfl ⟨(blk_cell BK336.out 0).trans rfl, (blk_cell BK336.out 1).trans rfl, (blk_cell BK336.out 2).trans rfl, (blk_cell BK336.out 3).trans rfl, (blk_cell BK336.out 4).trans rfl⟩ (fun hHeld => ?_); refine with_tabW impl_MouthOk.tab1 impl_MouthOk.bits1 (fun HT_ HW_ => ?_)
  generalize w24.drew = w25 at BK336 HB hHeld ⊢
  refine pu_ (i := 0) (N := some 3) HT_ ?_; refine tk_ (i := 1) (N := some 4) HT_ HW_ hHeld ?_
  refine on_ (i := 2) (N := some 5) HT_ (fun K hK => ?_)
  refine goes_ Try.func44 (by kernel_rfl) rfl #[.int .i64 a0_0, .int .i64 0, .int .i64 1000000] (by rfl) rfl rfl ar_ ?_
  with_reducible refine (impl_in.calls a0_0 0 1000000 false _ A2.out).mono ?_
  rintro e w' ⟨rfl, ⟨nd, rfl⟩⟩
  refine ⟨_, rfl, ?_⟩
  refine hK.out _ _ ⟨(blk_cell BK336.out 0).trans rfl, (blk_cell BK336.out 1).trans rfl, (blk_cell BK336.out 2).trans rfl, (blk_cell BK336.out 3).trans rfl, (blk_cell BK336.out 4).trans rfl⟩ (fun hHeld => ?_)
  clear hK K; refine nm_ 5 ?_; refine pu_ (i := 3) (N := some 6) HT_ ?_; refine pn_ (i := 4) (N := some 7) HT_ ?_; refine pn_ (i := 5) (N := some 8) HT_ ?_; refine pn_ (i := 6) (N := some 9) HT_ ?_; refine pn_ (i := 7) (N := some 10) HT_ ?_; refine pu_ (i := 8) (N := some 11) HT_ ?_; refine pu_ (i := 9) (N := some 12) HT_ ?_; refine pn_ (i := 10) (N := some 13) HT_ ?_; refine pn_ (i := 11) (N := some 14) HT_ ?_; refine pn_ (i := 12) (N := some 15) HT_ ?_; refine pn_ (i := 13) (N := some 16) HT_ ?_; refine pn_ (i := 14) (N := some 17) HT_ ?_; refine pn_ (i := 15) (N := some 18) HT_ ?_; refine pu_ (i := 16) (N := some 19) HT_ ?_; refine pu_ (i := 17) (N := some 20) HT_ ?_; refine pn_ (i := 18) (N := some 21) HT_ ?_; refine pn_ (i := 19) (N := some 22) HT_ ?_; refine pn_ (i := 20) (N := some 23) HT_ ?_; refine pu_ (i := 21) (N := some 24) HT_ ?_; refine pu_ (i := 22) (N := some 25) HT_ ?_; refine pn_ (i := 23) (N := some 26) HT_ ?_; refine pn_ (i := 24) (N := some 27) HT_ ?_; refine pn_ (i := 25) (N := some 28) HT_ ?_; refine pn_ (i := 26) (N := some 29) HT_ ?_; refine pu_ (i := 27) (N := some 30) HT_ ?_; refine pu_ (i := 28) (N := some 31) HT_ ?_; refine pn_ (i := 29) (N := some 32) HT_ ?_; refine pn_ (i := 30) (N := some 33) HT_ ?_; refine pn_ (i := 31) (N := some 34) HT_ ?_; refine pn_ (i := 32) (N := some 35) HT_ ?_; refine pn_ (i := 33) (N := some 36) HT_ ?_; refine pn_ (i := 34) (N := some 37) HT_ ?_; refine pn_ (i := 35) (N := some 38) HT_ ?_; refine pn_ (i := 36) (N := some 39) HT_ ?_; refine pn_ (i := 37) (N := some 40) HT_ ?_; refine pn_ (i := 38) (N := some 41) HT_ ?_; refine pn_ (i := 39) (N := some 42) HT_ ?_; refine pn_ (i := 40) (N := some 43) HT_ ?_; refine pn_ (i := 41) (N := some 44) HT_ ?_; refine pu_ (i := 42) (N := some 45) HT_ ?_; refine pu_ (i := 43) (N := some 2) HT_ ?_
  refine done_ (done_of HT_.out (by kernel_rfl)) ?_
  try go_wp2
  go_ret
  exact ⟨by first | rfl | (simp [errW_none, errW_some] <;> rfl) | (simp [*, errW_none, errW_some] <;> rfl), by repeat (first | (with_reducible first | exact HB.out | apply below_alloc | apply pw_below_drewN | apply below_drew1 | refine below_set ?_ GE336.out) | exact HB.out)⟩

/-! ### slices_Clip_byte_byte: function 75, by hand -/
theorem slices_Clip_byte_byte.calls (A0 : Option Addr) (c0 n0 : Nat) (w : World) (hc : n0 ≤ c0) : Calls Try.prog 75 #[.slice A0 n0 c0] w fun e w' => e = .returned (.slice A0 n0 n0) ∧ w' = w := by
  go_enter Try.func75, Try.ntmps75
  go_wp2
  go_ret
  exact ⟨rfl, rfl⟩

/-! ### impl_clone_byte: function 47, by hand -/
def impl_clone_byte.f (l0 : List Int) : Option (List Int) := if l0.length * 1 ≤ 140737488355328 then some l0 else none
theorem impl_clone_byte.calls (A0 : Option Addr) (c0 : Nat) (l0 : List Int) (r : List Int) (w : World) (hr0 : Kd.C (Kd.int .u8) w A0 l0.length l0) (hc0 : l0.length ≤ c0) (h : impl_clone_byte.f l0 = some r) :
    Calls Try.prog 47 #[.slice A0 l0.length c0] w fun e w' => ∃ v0_ : Value, e = .returned (v0_) ∧ Kd.R (Kd.int .u8) 5 w' w.heap.size (fun _ => True) v0_ r ∧ Below w.heap.size w w' := by
  obtain ⟨hle, rfl⟩ : l0.length * 1 ≤ 140737488355328 ∧ l0 = r := by
    unfold impl_clone_byte.f at h; split at h
    · exact ⟨by assumption, Option.some.inj h⟩
    · cases h
  have hm := hr0.2.1
  have HR := Aside0.mk hr0; clear hr0 h
  by_cases h0 : l0.length = 0
  · have hb : ((l0.length : Int) == 0) = true := by simp [h0]
    have HL : Aside0 (l0 = []) := ⟨List.eq_nil_of_length_eq_zero h0⟩
    clear h0
    go_enter Try.func47, Try.ntmps47
    go_wp2
    go_ret
    refine ⟨_, rfl, ?_, Below.refl _ _⟩
    rw [HL.out]; exact Kd.R_nil _ _ _ _ _
  · have hb : ((l0.length : Int) == 0) = false := by simp; intro hh; exact h0 (by simp [hh])
    clear h0
    go_enter Try.func47, Try.ntmps47
    go_wp2_with (first
      | ((with_reducible refine gate_dst (N := 7) rfl ?_); refine Kd.R_append_rows (Kd.int .u8) (Rr := (Kd.int .u8).K w) w.heap.size rfl _ _ 22 5 (.int .u8 0) 1 rfl Try.underlying22 info5 rfl (by decide) (by decide) (.slice none 0 0) [] l0 A0 l0.length c0 (fun _ => True) (fun _ => True) rfl rfl (Kd.R_nil _ _ _ _ _) HR.out (fun x cs h => h) (fun k _ => ⟨trivial, by simp [Value.ownBlock]⟩) (fun _ _ => trivial) (Below.refl _ _) (Nat.le_refl _) (by simpa using hle) ?_; intro v1 w1 ho hb1 hg hat; rw [List.nil_append] at ho; obtain ⟨A1, c1, hv1, hc1, _⟩ := Kd.R_reads ho; have HO := Aside0.mk ho; clear ho hat hg; have HB := Aside0.mk hb1; clear hb1; subst hv1)
      | (go_at_call 75; (with_reducible refine (slices_Clip_byte_byte.calls _ _ _ _ hc1).mono ?_); rintro e w' ⟨rfl, rfl⟩))
    go_ret
    exact ⟨_, rfl, Kd.R_clip HO.out (Nat.le_refl _) hc1, HB.out⟩

/-! ### impl_Mouth_copy: function 57 -/
def impl_Mouth_copy.f (a0_0 : Int) (l0_1 : List Int) (a0_2 : Int) (a0_3 : Int) (l0_4 : List (S86)) : Option (Int × List Int × Int × Int × (List (S86))) := (impl_clone_byte.f l0_1).bind fun t346 => ((impl_Range_79.f l0_4).bind fun t349 => (some (a0_0, t346, a0_2, a0_3, t349)))
def impl_Mouth_copy.T1 : Bool × List (List Nat × List Nat) := (true, [([], []), ([0], [0]), ([1], [1]), ([], []), ([3], [3]), ([4, 2], [4]), ([0, 1, 2, 3, 4], []), ([6, 2, 5, 0, 1, 2, 3, 4], [2, 6]), ([0, 1, 2, 3, 4, 5, 6, 7], []), ([8, 5, 7, 0, 1, 2, 3, 4, 5, 6, 7], [5, 8])])
def impl_Mouth_copy.B1 : List Nat := [0, 1, 3, 0, 8, 31, 31, 127, 255, 511]
theorem impl_Mouth_copy.tab1 : rtab .any (opsOf Try.f57 1) = impl_Mouth_copy.T1 := by kernel_rfl
theorem impl_Mouth_copy.bits1 : waitsOk impl_Mouth_copy.T1.2 impl_Mouth_copy.B1 = true := by kernel_rfl
set_option maxHeartbeats 8000000 in
set_option maxRecDepth 100000 in
theorem impl_Mouth_copy.calls (a0_0 : Int) (A0_1 : Option Addr) (c0_1 : Nat) (l0_1 : List Int) (a0_2 : Int) (a0_3 : Int) (A0_4 : Option Addr) (c0_4 : Nat) (l0_4 : List (S86)) (r1 : Int) (r2 : List Int) (r3 : Int) (r4 : Int) (r5 : List (S86)) (w : World) (hr0_1 : Kd.C (Kd.int .u8) w A0_1 l0_1.length l0_1) (hc0_1 : l0_1.length ≤ c0_1) (hr0_4 : Kd.C k86 w A0_4 l0_4.length l0_4) (hc0_4 : l0_4.length ≤ c0_4) (h : impl_Mouth_copy.f a0_0 l0_1 a0_2 a0_3 l0_4 = some (r1, r2, r3, r4, r5)) :
  Calls Try.prog 57 #[.agg #[.int .i64 a0_0, .slice A0_1 l0_1.length c0_1, .int .i64 a0_2, .int .i64 a0_3, .slice A0_4 l0_4.length c0_4]] w fun e w' => ∃ v1_ v4_ : Value, e = .returned (.agg #[.int .i64 r1, v1_, .int .i64 r3, .int .i64 r4, v4_]) ∧ Kd.R (Kd.int .u8) 5 w' w.heap.size (fun _ => True) v1_ r2 ∧ Kd.R k86 86 w' w.heap.size (fun _ => True) v4_ r5 ∧ Below w.heap.size w w' := by
 have hu47 := Try.underlying47; have HR0_1 := Aside0.mk hr0_1; have HC0_1 := Aside0.mk hc0_1; clear hr0_1 hc0_1; have HR0_4 := Aside0.mk hr0_4; have HC0_4 := Aside0.mk hc0_4; clear hr0_4 hc0_4
 have HB := Aside0.mk (Below.refl w.heap.size w)
 have H : ((impl_clone_byte.f l0_1).bind fun t346 => ((impl_Range_79.f l0_4).bind fun t349 => (some (a0_0, t346, a0_2, a0_3, t349)))) = some (r1, r2, r3, r4, r5) := h
 clear h
 replace H := Option.bind_eq_some_iff.mp H
 obtain ⟨t346, A20, H⟩ := H
 replace H : ((impl_Range_79.f l0_4).bind fun t349 => (some (a0_0, t346, a0_2, a0_3, t349))) = some (r1, r2, r3, r4, r5) := H
 have A2 := Aside0.mk A20; clear A20
 replace H := Option.bind_eq_some_iff.mp H
 obtain ⟨t349, A30, H⟩ := H
 replace H : (some (a0_0, t346, a0_2, a0_3, t349)) = some (r1, r2, r3, r4, r5) := H
 have A3 := Aside0.mk A30; clear A30
 simp only [Option.some.injEq, Prod.mk.injEq] at H
 obtain ⟨rfl, rfl, rfl, rfl, rfl⟩ := H
 go_enter Try.func57, Try.ntmps57
 try go_wp2_with (first | ((with_reducible refine gate_dst (N := 1) rfl ?_); refine box_event ?hg (N := 1) ?hd (cs := #[.int .i64 a0_0, .slice A0_1 l0_1.length c0_1, .int .i64 a0_2, .int .i64 a0_3, .slice A0_4 l0_4.length c0_4]) (t := 47) ?hr ?_; (case hd => rfl); (case hg => rfl); (case hr => first | (go_simp; done) | (go_simp; rfl)); intro gb344 hg w4 hbox hb; have n0_ := Aside0.mk (below_step (hb0_ HB.out) hb); have n1_ := Aside0.mk (hbox); have n2_ := Aside0.mk ((by rw [hg]; exact (below_size (hb0_ HB.out)) : w.heap.size ≤ gb344)); have n3_ := Aside0.mk ((by rw [hg]; exact (below_size (hb0_ HB.out)) : w.heap.size ≤ gb344)); clear HB; have HB := n0_; have BK344 := n1_; have GW344 := n2_; have GE344 := n3_; clear n0_ n1_ n2_ n3_; clear hb hbox hg) | ((with_reducible refine gate_dst (N := 2) rfl ?_); refine box_event ?hg (N := 2) ?hd (cs := #[.int .i64 0, .slice none 0 0, .int .i64 0, .int .i64 0, .slice none 0 0]) (t := 47) ?hr ?_; (case hd => rfl); (case hg => rfl); (case hr => first | (go_simp; done) | (go_simp; rfl)); intro gb345 hg w5 hbox hb; have n0_ := Aside0.mk (blk_below (g := gb344) (o := .cells #[.int .i64 a0_0, .slice A0_1 l0_1.length c0_1, .int .i64 a0_2, .int .i64 a0_3, .slice A0_4 l0_4.length c0_4] 47 (0, 0)) (kb_ BK344.out) hb); have n1_ := Aside0.mk (below_step (hb1_ HB.out GE344.out) hb); have n2_ := Aside0.mk (hbox); have n3_ := Aside0.mk ((by rw [hg]; exact (below_size (hb1_ HB.out GE344.out)) : w.heap.size ≤ gb345)); have n4_ := Aside0.mk ((by rw [hg]; exact (below_size (hb1_ HB.out GE344.out)) : w.heap.size ≤ gb345)); have n5_ := Aside0.mk ((by rw [hg]; exact Nat.ne_of_lt (blk_lt (g := gb344) (o := .cells #[.int .i64 a0_0, .slice A0_1 l0_1.length c0_1, .int .i64 a0_2, .int .i64 a0_3, .slice A0_4 l0_4.length c0_4] 47 (0, 0)) (kb_ BK344.out)) : gb344 ≠ gb345)); have n6_ := Aside0.mk ((by rw [hg]; exact Nat.ne_of_gt (blk_lt (g := gb344) (o := .cells #[.int .i64 a0_0, .slice A0_1 l0_1.length c0_1, .int .i64 a0_2, .int .i64 a0_3, .slice A0_4 l0_4.length c0_4] 47 (0, 0)) (kb_ BK344.out)) : gb345 ≠ gb344)); clear BK344; clear HB; have BK344 := n0_; have HB := n1_; have BK345 := n2_; have GW345 := n3_; have GE345 := n4_; have NB344_345 := n5_; have NB345_344 := n6_; clear n0_ n1_ n2_ n3_ n4_ n5_ n6_; clear hb hbox hg))
 have n0_ := Aside0.mk (blk_drew BK344.out); have n1_ := Aside0.mk (blk_drew BK345.out); have n2_ := Aside0.mk (below_drew1 HB.out); clear BK344 BK345 HB; have BK344 := n0_; have BK345 := n1_; have HB := n2_; clear n0_ n1_ n2_
 refine start_ (n := 10) (S := fun w' => w'.cell? ⟨gb344, 0, none⟩ = some (.int .i64 a0_0) ∧ w'.cell? ⟨gb344, 1, none⟩ = some (.slice A0_1 l0_1.length c0_1) ∧ w'.cell? ⟨gb344, 2, none⟩ = some (.int .i64 a0_2) ∧ w'.cell? ⟨gb344, 3, none⟩ = some (.int .i64 a0_3) ∧ w'.cell? ⟨gb344, 4, none⟩ = some (.slice A0_4 l0_4.length c0_4)) (ds := [7, 9]) #[false, false, false, false, false, false, false, false, false, false] (by kernel_rfl) rfl rfl ⟨(blk_cell BK344.out 0).trans rfl, (blk_cell BK344.out 1).trans rfl, (blk_cell BK344.out 2).trans rfl, (blk_cell BK344.out 3).trans rfl, (blk_cell BK344.out 4).trans rfl⟩ (fun hHeld => ?_); refine with_tabW impl_Mouth_copy.tab1 impl_Mouth_copy.bits1 (fun HT_ HW_ => ?_)
 generalize w5.drew = w6 at BK344 BK345 HB hHeld ⊢
 refine pu_ (i := 0) (N := some 3) HT_ ?_; refine pu_ (i := 3) (N := some 6) HT_ ?_; refine tk_ (i := 1) (N := some 4) HT_ HW_ hHeld ?_; refine tk_ (i := 4) (N := some 7) HT_ HW_ hHeld ?_
 refine on_ (i := 2) (N := some 5) HT_ (fun K hK => ?_)
 refine goes_ Try.func47 (by kernel_rfl) rfl #[.slice A0_1 l0_1.length c0_1] (by rfl) rfl rfl ar_ ?_
 with_reducible refine (impl_clone_byte.calls _ _ l0_1 t346 _ ?side1 ?side2 A2.out).mono ?_
 (case side1 => exact kC_ (Kd.C_below HR0_1.out HB.out))
 (case side2 => exact HC0_1.out)
 rintro e w7 ⟨v347, rfl, ho0, hb⟩
 refine ⟨_, rfl, ?_⟩
 have n0_ := Aside0.mk (Kd.R_lower ho0 (below_size (hb2_ HB.out GE344.out GE345.out))); have n1_ := Aside0.mk (blk_below (g := gb344) (o := .cells #[.int .i64 a0_0, .slice A0_1 l0_1.length c0_1, .int .i64 a0_2, .int .i64 a0_3, .slice A0_4 l0_4.length c0_4] 47 (0, 0)) (kb_ BK344.out) hb); have n2_ := Aside0.mk (blk_below (g := gb345) (o := .cells #[.int .i64 0, .slice none 0 0, .int .i64 0, .int .i64 0, .slice none 0 0] 47 (0, 0)) (kb_ BK345.out) hb); have n3_ := Aside0.mk (below_step (hb2_ HB.out GE344.out GE345.out) hb); clear BK344 BK345 HB; have HO348 := n0_; have BK344 := n1_; have BK345 := n2_; have HB := n3_; clear n0_ n1_ n2_ n3_; (try clear hb); (try clear hb2); (try clear hk); (try clear hi); (try clear ho0)
 refine hK.out _ _ ⟨(blk_cell BK344.out 0).trans rfl, (blk_cell BK344.out 1).trans rfl, (blk_cell BK344.out 2).trans rfl, (blk_cell BK344.out 3).trans rfl, (blk_cell BK344.out 4).trans rfl⟩ (fun hHeld => ?_)
 clear hK K; refine nm_ 5 ?_; refine pu_ (i := 6) (N := some 9) HT_ ?_
 refine on_ (i := 5) (N := some 8) HT_ (fun K hK => ?_)
 refine goes_ Try.func79 (by kernel_rfl) rfl #[.slice A0_4 l0_4.length c0_4] (by rfl) rfl rfl ar_ ?_
 with_reducible refine (impl_Range_79.calls _ _ l0_4 t349 _ ?side1 ?side2 A3.out).mono ?_
 (case side1 => exact kC_ (Kd.C_below HR0_4.out HB.out))
 (case side2 => exact HC0_4.out)
 rintro e w8 ⟨v350, rfl, ho0, hb⟩
 refine ⟨_, rfl, ?_⟩
 have n0_ := Aside0.mk (Kd.R_below (kR_ HO348.out) hb); have n1_ := Aside0.mk (Kd.R_lower ho0 (below_size (hb2_ HB.out GE344.out GE345.out))); have n2_ := Aside0.mk (blk_below (g := gb344) (o := .cells #[.int .i64 a0_0, .slice A0_1 l0_1.length c0_1, .int .i64 a0_2, .int .i64 a0_3, .slice A0_4 l0_4.length c0_4] 47 (0, 0)) (kb_ BK344.out) hb); have n3_ := Aside0.mk (blk_below (g := gb345) (o := .cells #[.int .i64 0, .slice none 0 0, .int .i64 0, .int .i64 0, .slice none 0 0] 47 (0, 0)) (kb_ BK345.out) hb); have n4_ := Aside0.mk (below_step (hb2_ HB.out GE344.out GE345.out) hb); clear HO348 BK344 BK345 HB; have HO348 := n0_; have HO351 := n1_; have BK344 := n2_; have BK345 := n3_; have HB := n4_; clear n0_ n1_ n2_ n3_ n4_; (try clear hb); (try clear hb2); (try clear hk); (try clear hi); (try clear ho0)
 obtain ⟨Ao9, co9, eo9⟩ := Kd.R_slice HO348.out
 (first | subst eo9 | (injection eo9 with f1_ f2_ f3_; have f4_ := f1_.symm; have f5_ := f3_.symm; clear f1_ f2_ f3_; subst f4_; subst f5_))
 obtain ⟨Ao11, co11, eo11⟩ := Kd.R_slice HO351.out
 (first | subst eo11 | (injection eo11 with f1_ f2_ f3_; have f4_ := f1_.symm; have f5_ := f3_.symm; clear f1_ f2_ f3_; subst f4_; subst f5_))
 refine hK.out _ _ ⟨(blk_cell BK344.out 0).trans rfl, (blk_cell BK344.out 1).trans rfl, (blk_cell BK344.out 2).trans rfl, (blk_cell BK344.out 3).trans rfl, (blk_cell BK344.out 4).trans rfl⟩ (fun hHeld => ?_)
 clear hK K; refine nm_ 8 ?_
 refine last_ (i := 7) (N := none) #[true, true, true, true, true, true, true, true, false, false] rfl rfl (one_of HT_.out (by kernel_rfl)) (by decide) (fun K hK => ?_)
 have hs10 : w8.cell? ⟨gb344, 1, none⟩ = some (.slice A0_1 l0_1.length c0_1) := (blk_cell BK344.out 1).trans rfl
 have hfs10 := blk_frozen BK344.out 1
 have hns10_1 := NB345_344.out; have hms10_1 := NB344_345.out
 refine skip_ (w1 := ?_) (by rfl) rfl ?_ ?_
 rotate_left
 ·go_simp
  rfl
 refine hK.out _ _ ?_
 clear hK K; refine pu_ (i := 8) (N := some 10) HT_ ?_
 refine last_ (i := 9) (N := none) #[true, true, true, true, true, true, true, true, true, true] rfl rfl (one_of HT_.out (by kernel_rfl)) (by decide) (fun K hK => ?_)
 have hs12 : w8.cell? ⟨gb344, 4, none⟩ = some (.slice A0_4 l0_4.length c0_4) := (blk_cell BK344.out 4).trans rfl
 have hfs12 := blk_frozen BK344.out 4
 have hns12_1 := NB345_344.out; have hms12_1 := NB344_345.out
 refine skip_ (w1 := ?_) (by rfl) rfl ?_ ?_
 rotate_left
 ·go_simp
  rfl
 refine hK.out _ _ ?_
 clear hK K
 refine done_ (done_of HT_.out (by kernel_rfl)) ?_
 have hnb13 := NB344_345.out; have hnc13 := NB345_344.out; have hcz14_0 : w8.cell? ⟨gb344, 0, none⟩ = some (.int .i64 a0_0) := (blk_cell BK344.out 0).trans rfl; have hcz14_1 : w8.cell? ⟨gb344, 1, none⟩ = some (.slice A0_1 l0_1.length c0_1) := (blk_cell BK344.out 1).trans rfl; have hcz14_2 : w8.cell? ⟨gb344, 2, none⟩ = some (.int .i64 a0_2) := (blk_cell BK344.out 2).trans rfl; have hcz14_3 : w8.cell? ⟨gb344, 3, none⟩ = some (.int .i64 a0_3) := (blk_cell BK344.out 3).trans rfl; have hcz14_4 : w8.cell? ⟨gb344, 4, none⟩ = some (.slice A0_4 l0_4.length c0_4) := (blk_cell BK344.out 4).trans rfl; have hfz14_0 := blk_frozen BK344.out 0; have hfz14_1 := blk_frozen BK344.out 1; have hfz14_2 := blk_frozen BK344.out 2; have hfz14_3 := blk_frozen BK344.out 3; have hfz14_4 := blk_frozen BK344.out 4; have hcz15_0 : w8.cell? ⟨gb345, 0, none⟩ = some (.int .i64 0) := (blk_cell BK345.out 0).trans rfl; have hcz15_1 : w8.cell? ⟨gb345, 1, none⟩ = some (.slice none 0 0) := (blk_cell BK345.out 1).trans rfl; have hcz15_2 : w8.cell? ⟨gb345, 2, none⟩ = some (.int .i64 0) := (blk_cell BK345.out 2).trans rfl; have hcz15_3 : w8.cell? ⟨gb345, 3, none⟩ = some (.int .i64 0) := (blk_cell BK345.out 3).trans rfl; have hcz15_4 : w8.cell? ⟨gb345, 4, none⟩ = some (.slice none 0 0) := (blk_cell BK345.out 4).trans rfl; have hfz15_0 := blk_frozen BK345.out 0; have hfz15_1 := blk_frozen BK345.out 1; have hfz15_2 := blk_frozen BK345.out 2; have hfz15_3 := blk_frozen BK345.out 3; have hfz15_4 := blk_frozen BK345.out 4
 try go_wp2
 refine bodyPost_ret (results_cell_row rfl _ _ gb345 47 #[.int .i64 a0_0, .slice Ao9 t346.length co9, .int .i64 a0_2, .int .i64 a0_3, .slice Ao11 t349.length co11] (0, 0) _ rfl (by refine kb_ ?_; refine blk_put (cs := #[.int .i64 a0_0, .slice Ao9 t346.length co9, .int .i64 a0_2, .int .i64 a0_3, .slice none 0 0]) ?_ 4 _ rfl; refine kb_ ?_; refine blk_put (cs := #[.int .i64 a0_0, .slice Ao9 t346.length co9, .int .i64 a0_2, .int .i64 0, .slice none 0 0]) ?_ 3 _ rfl; refine kb_ ?_; refine blk_put (cs := #[.int .i64 a0_0, .slice Ao9 t346.length co9, .int .i64 0, .int .i64 0, .slice none 0 0]) ?_ 2 _ rfl; refine kb_ ?_; refine blk_put (cs := #[.int .i64 a0_0, .slice none 0 0, .int .i64 0, .int .i64 0, .slice none 0 0]) ?_ 1 _ rfl; refine kb_ ?_; refine blk_put (cs := #[.int .i64 0, .slice none 0 0, .int .i64 0, .int .i64 0, .slice none 0 0]) ?_ 0 _ rfl; refine kb_ ?_; refine blk_far ?_ NB345_344.out _; refine kb_ ?_; refine blk_far ?_ NB345_344.out _; refine kb_ ?_; exact BK345.out) Try.underlying47 rfl (by kernel_rfl)) rfl ?_
 exact ⟨_, _, by first | rfl | (simp [errW_none, errW_some] <;> rfl) | (simp [*, errW_none, errW_some] <;> rfl), by refine kR_ ?_; exact Kd.R_mono (Kd.R_f gb345 4 (.slice Ao11 t349.length co11) (Kd.R_f gb345 3 (.int .i64 a0_3) (Kd.R_f gb345 2 (.int .i64 a0_2) (Kd.R_f gb345 1 (.slice Ao9 t346.length co9) (Kd.R_f gb345 0 (.int .i64 a0_0) (Kd.R_far (p := ⟨gb344, 4, none⟩) (Kd.R_far (p := ⟨gb344, 1, none⟩) (Kd.R_types (Kd.R_types HO348.out BK344.out (by decide)) BK345.out (by decide)) (fun _ hk => hk.1.2) (.slice Ao9 t346.length co9)) (fun _ hk => hk.1.2) (.slice Ao11 t349.length co11))))))) (fun _ hk => trivial), by refine kR_ ?_; exact Kd.R_mono (Kd.R_f gb345 4 (.slice Ao11 t349.length co11) (Kd.R_f gb345 3 (.int .i64 a0_3) (Kd.R_f gb345 2 (.int .i64 a0_2) (Kd.R_f gb345 1 (.slice Ao9 t346.length co9) (Kd.R_f gb345 0 (.int .i64 a0_0) (Kd.R_far (p := ⟨gb344, 4, none⟩) (Kd.R_far (p := ⟨gb344, 1, none⟩) (Kd.R_types (Kd.R_types HO351.out BK344.out (by decide)) BK345.out (by decide)) (fun _ hk => hk.1.2) (.slice Ao9 t346.length co9)) (fun _ hk => hk.1.2) (.slice Ao11 t349.length co11))))))) (fun _ hk => trivial), by repeat (first | (with_reducible first | exact HB.out | apply below_alloc | apply pw_below_drewN | apply below_drew1 | refine below_set ?_ GE344.out | refine below_set ?_ GE345.out) | exact HB.out)⟩

/-! ### impl_Mouth_next: function 58, by hand -/
def impl_Mouth_next.f (a0 : Int) (l1 : List Int) (a2 : Int) (a3 : Int) (l4 : List (S86)) (a5 : Int) : Option (Int × List Int × Int) :=
  if mn (mn a5 (wrap64 ((l1.length : Int) - a2))) (wrap64 (a3 - a2)) ≤ 0 then some (wrap64 (a0 + a2), [], a2)
  else if 0 ≤ a2 then (if a2 ≤ wrap64 (a2 + mn (mn a5 (wrap64 ((l1.length : Int) - a2))) (wrap64 (a3 - a2))) then (if wrap64 (a2 + mn (mn a5 (wrap64 ((l1.length : Int) - a2))) (wrap64 (a3 - a2))) ≤ (l1.length : Int) then
    (impl_clone_byte.f ((l1.take (wrap64 (a2 + mn (mn a5 (wrap64 ((l1.length : Int) - a2))) (wrap64 (a3 - a2)))).toNat).drop a2.toNat)).bind fun y => some (wrap64 (a0 + a2), y, wrap64 (a2 + mn (mn a5 (wrap64 ((l1.length : Int) - a2))) (wrap64 (a3 - a2)))) else none) else none) else none
theorem impl_Mouth_next.set_same {w : World} {g i : Nat} {t : TypeId} {cs : Array Value} {v : Value} (hb : w.heap[g]? = some (.cells cs t (0, 0))) (hv : cs[i]? = some v) : w.setCell ⟨g, i, none⟩ v = w := by
  have h1 : cs.setIfInBounds i v = cs := by
    apply Array.ext_getElem?
    intro k
    rw [Array.getElem?_setIfInBounds]
    split
    · rename_i e; subst e; split
      · exact hv.symm
      · rename_i hn; rw [Array.getElem?_eq_none (by omega)]
    · rfl
  have h2 : ∀ f : Obj → Obj, (∀ o, w.heap[g]? = some o → f o = o) → w.heap.modify g f = w.heap := by
    intro f hf
    apply Array.ext_getElem?
    intro k
    rw [Array.getElem?_modify]
    split
    · rename_i e; subst e
      cases ho : w.heap[g]? with
      | none => rfl
      | some o => simp only [Option.map_some]; rw [hf o ho]
    · rfl
  have h3 : (w.setCell ⟨g, i, none⟩ v).heap = w.heap := by
    unfold World.setCell
    dsimp only
    refine h2 _ ?_
    intro o ho
    rw [hb] at ho
    cases ho
    show Obj.cells (cs.setIfInBounds i v) t (0, 0) = _
    rw [h1]
  calc w.setCell ⟨g, i, none⟩ v = { w with heap := (w.setCell ⟨g, i, none⟩ v).heap } := rfl
    _ = { w with heap := w.heap } := by rw [h3]
    _ = w := rfl
theorem impl_Mouth_next.calls (a0 : Int) (A1 : Option Addr) (c1 : Nat) (l1 : List Int) (a2 : Int) (a3 : Int) (A4 : Option Addr) (c4 : Nat) (l4 : List (S86)) (a5 : Int) (r1 : Int) (r2 : List Int) (r3 : Int) (w : World) (hr1 : Kd.C (Kd.int .u8) w A1 l1.length l1) (hc1 : l1.length ≤ c1) (hr4 : Kd.C k86 w A4 l4.length l4) (hc4 : l4.length ≤ c4) (h : impl_Mouth_next.f a0 l1 a2 a3 l4 a5 = some (r1, r2, r3)) {g : Nat} (hb : w.heap[g]? = some (.cells #[.int .i64 a0, .slice A1 l1.length c1, .int .i64 a2, .int .i64 a3, .slice A4 l4.length c4] 47 (0, 0))) :
    Calls Try.prog 58 #[.pointer (some ⟨g, 0, none⟩), .int .i64 a5] w fun e w' => ∃ (w1 : World) (v1_ : Value), e = .returned (.tuple #[.int .i64 r1, v1_]) ∧ Kd.R (Kd.int .u8) 5 w1 w.heap.size (fun _ => True) v1_ r2 ∧ Below w.heap.size w w1 ∧ w' = w1.setCell ⟨g, 2, none⟩ (.int .i64 r3) := by
  unfold impl_Mouth_next.f at h
  have HR1 := Aside0.mk hr1; clear hr1
  have HC1 := Aside0.mk hc1; clear hc1
  clear hr4 hc4
  have BK := Aside0.mk hb; clear hb
  obtain ⟨j, hj⟩ : ∃ j : Int, mn a5 (wrap64 ((l1.length : Int) - a2)) = j := ⟨_, rfl⟩
  rw [hj] at h
  obtain ⟨n, hn⟩ : ∃ n : Int, mn j (wrap64 (a3 - a2)) = n := ⟨_, rfl⟩
  rw [hn] at h
  have hj_ : (if wrap64 ((l1.length : Int) - a2) < a5 then wrap64 ((l1.length : Int) - a2) else a5) = j := hj
  have hn_ : (if wrap64 (a3 - a2) < j then wrap64 (a3 - a2) else j) = n := hn
  clear hj hn
  have hcz0 : w.cell? ⟨g, 0, none⟩ = some (.int .i64 a0) := (blk_cell BK.out 0).trans rfl
  have hcz1 : w.cell? ⟨g, 1, none⟩ = some (.slice A1 l1.length c1) := (blk_cell BK.out 1).trans rfl
  have hcz2 : w.cell? ⟨g, 2, none⟩ = some (.int .i64 a2) := (blk_cell BK.out 2).trans rfl
  have hcz3 : w.cell? ⟨g, 3, none⟩ = some (.int .i64 a3) := (blk_cell BK.out 3).trans rfl
  by_cases k1 : n ≤ 0
  · rw [if_pos k1] at h
    simp only [Option.some.injEq, Prod.mk.injEq] at h
    obtain ⟨rfl, rfl, rfl⟩ := h
    have cb : decide (n ≤ 0) = true := decide_eq_true k1
    clear k1
    go_enter Try.func58, Try.ntmps58
    go_wp2
    repeat (go_quiet (fail); try go_wp2)
    go_ret2
    refine ⟨_, _, rfl, Kd.R_nil _ _ _ _ _, pw_below_drewN (Below.refl _ _) _, (impl_Mouth_next.set_same (v := .int .i64 a2) (i := 2) (cs := #[.int .i64 a0, .slice A1 l1.length c1, .int .i64 a2, .int .i64 a3, .slice A4 l4.length c4]) (t := 47) (show (w.drewN _).heap[g]? = _ from BK.out) rfl).symm⟩
  · rw [if_neg k1] at h
    have cb : decide (n ≤ 0) = false := decide_eq_false k1
    by_cases k2 : 0 ≤ a2
    · rw [if_pos k2] at h
      by_cases k3 : a2 ≤ wrap64 (a2 + n)
      · rw [if_pos k3] at h
        by_cases k4 : wrap64 (a2 + n) ≤ (l1.length : Int)
        · rw [if_pos k4] at h
          replace h := Option.bind_eq_some_iff.mp h
          obtain ⟨y, hA, h⟩ := h
          have A2 := Aside0.mk hA; clear hA
          simp only [Option.some.injEq, Prod.mk.injEq] at h
          obtain ⟨rfl, rfl, rfl⟩ := h
          clear k1
          go_enter Try.func58, Try.ntmps58
          go_wp2
          repeat (go_quiet (fail); try go_wp2)
          obtain ⟨i0, hi0, _, hsz, _⟩ := info_parts info5
          obtain ⟨A9, hcut, hA9, hC9⟩ := print_mid_of (P := Try.prog) (Value.int .u8) 0 22 5 .i64 .i64 Try.underlying22 hi0 hsz A1 c1 l1 a2 (wrap64 (a2 + n)) k2 k3 k4 HC1.out
          generalize List.drop a2.toNat (List.take (wrap64 (a2 + n)).toNat l1) = yy at hcut hA9 hC9 A2
          have HR9 := Aside0.mk (Kd.C_of_reads (h1 := fun _ => rfl) (hA9 _ (Kd.reads_of_C HR1.out)))
          clear hi0 hsz hA9
          refine start_ (n := 17) (S := fun w' => w'.cell? ⟨g, 1, none⟩ = some (.slice A1 l1.length c1) ∧ w'.cell? ⟨g, 2, none⟩ = some (.int .i64 a2)) (ds := []) #[false, false, false, false, false, false, false, false, false, false, false, false, false, false, false, false, false] (by kernel_rfl) rfl rfl ⟨hcz1, hcz2⟩ (fun hHeld => ?_)
          refine pure_ (i := 0) (N := some 42) (v := ?_) (a' := ?_) #[true, false, false, false, false, false, false, false, false, false, false, false, false, false, false, false, false] rfl rfl (by kernel_rfl) (fun _ _ _ h => h) (Or.inl ⟨by rfl, ?_⟩) ?_ ?_
          rotate_left
          · intro w'
            go_simp
            with_reducible rfl
          rotate_left
          · simp only [Act.put, List.setIfInBounds_toArray, List.set_cons_zero, List.set_cons_succ, i64_w, i32_w]
            rfl
          refine pure_ (i := 1) (N := some 43) (v := ?_) (a' := ?_) #[true, true, false, false, false, false, false, false, false, false, false, false, false, false, false, false, false] rfl rfl (by kernel_rfl) (fun _ _ _ h => h) (Or.inl ⟨by rfl, ?_⟩) ?_ ?_
          rotate_left
          · intro w'
            go_simp
            with_reducible rfl
          rotate_left
          · simp only [Act.put, List.setIfInBounds_toArray, List.set_cons_zero, List.set_cons_succ, i64_w, i32_w]
            rfl
          refine pure_ (i := 2) (N := some 44) (v := ?_) (a' := ?_) #[true, true, true, false, false, false, false, false, false, false, false, false, false, false, false, false, false] rfl rfl (by kernel_rfl) (fun _ _ _ h => h) (Or.inl ⟨by rfl, ?_⟩) ?_ ?_
          rotate_left
          · intro w'
            go_simp
            with_reducible rfl
          rotate_left
          · simp only [Act.put, List.setIfInBounds_toArray, List.set_cons_zero, List.set_cons_succ, i64_w, i32_w]
            rfl
          refine pure_ (i := 4) (N := some 46) (v := ?_) (a' := ?_) #[true, true, true, false, true, false, false, false, false, false, false, false, false, false, false, false, false] rfl rfl (by kernel_rfl) (fun _ _ _ h => h) (Or.inl ⟨by rfl, ?_⟩) ?_ ?_
          rotate_left
          · intro w'
            go_simp
            with_reducible rfl
          rotate_left
          · simp only [Act.put, List.setIfInBounds_toArray, List.set_cons_zero, List.set_cons_succ, i64_w, i32_w]
            rfl
          refine pure_ (i := 5) (N := some 47) (v := ?_) (a' := ?_) #[true, true, true, false, true, true, false, false, false, false, false, false, false, false, false, false, false] rfl rfl (by kernel_rfl) (fun _ _ _ h => h) (Or.inl ⟨by rfl, ?_⟩) ?_ ?_
          rotate_left
          · intro w'
            go_simp
            with_reducible rfl
          rotate_left
          · simp only [Act.put, List.setIfInBounds_toArray, List.set_cons_zero, List.set_cons_succ, i64_w, i32_w]
            rfl
          refine pure_ (i := 6) (N := some 48) (v := ?_) (a' := ?_) #[true, true, true, false, true, true, true, false, false, false, false, false, false, false, false, false, false] rfl rfl (by kernel_rfl) (fun _ _ _ h => h) (Or.inl ⟨by rfl, ?_⟩) ?_ ?_
          rotate_left
          · intro w'
            go_simp
            with_reducible rfl
          rotate_left
          · simp only [Act.put, List.setIfInBounds_toArray, List.set_cons_zero, List.set_cons_succ, i64_w, i32_w]
            rfl
          refine pure_ (i := 8) (N := some 50) (v := ?_) (a' := ?_) #[true, true, true, false, true, true, true, false, true, false, false, false, false, false, false, false, false] rfl rfl (by kernel_rfl) (fun _ _ _ h => h) (Or.inl ⟨by rfl, ?_⟩) ?_ ?_
          rotate_left
          · intro w'
            go_simp
            with_reducible rfl
          rotate_left
          · simp only [Act.put, List.setIfInBounds_toArray, List.set_cons_zero, List.set_cons_succ, i64_w, i32_w]
            rfl
          refine pure_ (i := 9) (N := some 51) (v := ?_) (a' := ?_) #[true, true, true, false, true, true, true, false, true, true, false, false, false, false, false, false, false] rfl rfl (by kernel_rfl) (fun _ _ _ h => h) (Or.inl ⟨by rfl, ?_⟩) ?_ ?_
          rotate_left
          · intro w'
            go_simp
            with_reducible rfl
          rotate_left
          · simp only [Act.put, List.setIfInBounds_toArray, List.set_cons_zero, List.set_cons_succ, i64_w, i32_w]
            rfl
          refine pure_ (i := 10) (N := some 52) (v := ?_) (a' := ?_) #[true, true, true, false, true, true, true, false, true, true, true, false, false, false, false, false, false] rfl rfl (by kernel_rfl) (fun _ _ _ h => h) (Or.inl ⟨by rfl, ?_⟩) ?_ ?_
          rotate_left
          · intro w'
            go_simp
            with_reducible rfl
          rotate_left
          · simp only [Act.put, List.setIfInBounds_toArray, List.set_cons_zero, List.set_cons_succ, i64_w, i32_w]
            rfl
          refine pure_ (i := 12) (N := some 54) (v := ?_) (a' := ?_) #[true, true, true, false, true, true, true, false, true, true, true, false, true, false, false, false, false] rfl rfl (by kernel_rfl) (fun _ _ _ h => h) (Or.inl ⟨by rfl, ?_⟩) ?_ ?_
          rotate_left
          · intro w'
            go_simp
            with_reducible rfl
          rotate_left
          · simp only [Act.put, List.setIfInBounds_toArray, List.set_cons_zero, List.set_cons_succ, i64_w, i32_w]
            rfl
          refine take_ (i := 3) (N := some 45) (v := ?_) (a' := ?_) #[true, true, true, true, true, true, true, false, true, true, true, false, true, false, false, false, false] rfl rfl (by kernel_rfl) (fun _ _ _ h => h) (Or.inl ⟨by rfl, ?_⟩) hHeld ?_ ?_
          rotate_left
          · rintro w' ⟨s0, s1⟩
            go_simp
            with_reducible rfl
          rotate_left
          · simp only [Act.put, List.setIfInBounds_toArray, List.set_cons_zero, List.set_cons_succ, i64_w, i32_w]
            rfl
          refine take_ (i := 7) (N := some 49) (v := ?_) (a' := ?_) #[true, true, true, true, true, true, true, true, true, true, true, false, true, false, false, false, false] rfl rfl (by kernel_rfl) (fun _ _ _ h => h) (Or.inl ⟨by rfl, ?_⟩) hHeld ?_ ?_
          rotate_left
          · rintro w' ⟨s0, s1⟩
            go_simp
            with_reducible rfl
          rotate_left
          · simp only [Act.put, List.setIfInBounds_toArray, List.set_cons_zero, List.set_cons_succ, i64_w, i32_w]
            rfl
          refine take_ (i := 11) (N := some 53) (v := ?_) (a' := ?_) #[true, true, true, true, true, true, true, true, true, true, true, true, true, false, false, false, false] rfl rfl (by kernel_rfl) (fun _ _ _ h => h) (Or.inl ⟨by rfl, ?_⟩) hHeld ?_ ?_
          rotate_left
          · rintro w' ⟨s0, s1⟩
            go_simp
            with_reducible rfl
          rotate_left
          · simp only [Act.put, List.setIfInBounds_toArray, List.set_cons_zero, List.set_cons_succ, i64_w, i32_w]
            rfl
          refine pure_ (i := 13) (N := some 55) (v := ?_) (a' := ?_) #[true, true, true, true, true, true, true, true, true, true, true, true, true, true, false, false, false] rfl rfl (by kernel_rfl) (fun _ _ _ h => h) (Or.inl ⟨by rfl, ?_⟩) ?_ ?_
          rotate_left
          · intro w'
            go_simp
            with_reducible rfl
          rotate_left
          · simp only [Act.put, List.setIfInBounds_toArray, List.set_cons_zero, List.set_cons_succ, i64_w, i32_w]
            rfl
          refine pure_ (i := 14) (N := some 56) (v := ?_) (a' := ?_) #[true, true, true, true, true, true, true, true, true, true, true, true, true, true, true, false, false] rfl rfl (by kernel_rfl) (fun _ _ _ h => h) (Or.inl ⟨by rfl, ?_⟩) ?_ ?_
          rotate_left
          · intro w'
            go_simp
            with_reducible rfl
          rotate_left
          · simp only [Act.put, List.setIfInBounds_toArray, List.set_cons_zero, List.set_cons_succ, i64_w, i32_w]
            rfl
          refine one_ (i := 15) (N := some 57) #[true, true, true, true, true, true, true, true, true, true, true, true, true, true, true, true, false] rfl rfl (by kernel_rfl) (by decide) (fun K hK => ?_)
          refine goes_ Try.func47 (by kernel_rfl) rfl #[.slice A9 yy.length (c1 - a2.toNat)] (by rfl) rfl rfl (by simp only [List.map_toArray, List.map_cons, List.map_nil]; rfl) ?_
          with_reducible refine (impl_clone_byte.calls _ _ _ y _ ?side1 ?side2 A2.out).mono ?_
          (case side1 => exact kC_ HR9.out)
          (case side2 => exact hC9)
          rintro e w3 ⟨v3, rfl, ho, hb3⟩
          refine ⟨_, rfl, ?_⟩
          have BK3 := Aside0.mk (blk_below (g := g) (o := .cells #[.int .i64 a0, .slice A1 l1.length c1, .int .i64 a2, .int .i64 a3, .slice A4 l4.length c4] 47 (0, 0)) (by first | exact kb_ BK.out | exact BK.out) hb3)
          refine hK.out _ _ ⟨(blk_cell BK3.out 1).trans rfl, (blk_cell BK3.out 2).trans rfl⟩ (fun hHeld => ?_)
          clear hK K
          refine nm_ 57 ?_
          refine pure_ (i := 16) (N := some 8) (v := ?_) (a' := ?_) #[true, true, true, true, true, true, true, true, true, true, true, true, true, true, true, true, true] rfl rfl (by kernel_rfl) (fun _ _ _ h => h) (Or.inl ⟨by rfl, ?_⟩) ?_ ?_
          rotate_left
          · intro w'
            go_simp
            with_reducible rfl
          rotate_left
          · simp only [Act.put, List.setIfInBounds_toArray, List.set_cons_zero, List.set_cons_succ, i64_w, i32_w]
            rfl
          refine done_ (by kernel_rfl) ?_
          have hcy2 : w3.cell? ⟨g, 2, none⟩ = some (.int .i64 a2) := (blk_cell BK3.out 2).trans rfl
          have hfz2 := blk_frozen BK3.out 2
          go_wp2
          go_ret2
          exact ⟨w3, v3, rfl, ho, ⟨hb3.os, hb3.tape, hb3.output, hb3.size, hb3.block⟩, rfl⟩
        · rw [if_neg k4] at h; cases h
      · rw [if_neg k3] at h; cases h
    · rw [if_neg k2] at h; cases h

end Go.Proofs.Ytjiodkbbmhhccaa.PFnMouthNext
