/- Printed by wip/xp/xprint.sh out of the translation, for this claim: what each function answers, as a plain function, and that the machine does just that. No condition. -/
import Derived.Test.YtjiodkbbmhhccabPFnMouthWritex0
import Derived.Test.YtjiodkbbmhhccabPFnMouthWritex2
import Derived.Test.YtjiodkbbmhhccabPFnMouthWritex3
import Derived.Test.YtjiodkbbmhhccabPFnMouthWritex4
namespace Go.Proofs.Ytjiodkbbmhhccab.PFnMouthWrite
open Go.RowKit Go.Proofs.YtjiodkbbmhhccabW.PrintWords Go.Proofs.YtjiodkbbmhhccabW.PrintLast Go.Proofs.YtjiodkbbmhhccabW.PrintMore
attribute [local go_sem] max2_int min2_int max_two min_two max_three min_three max_four min_four   -- for this text's walks alone
set_option linter.unusedVariables false
set_option linter.unusedSimpArgs false

/-! ### spec_MouthHear: function 15 -/
mutual
def spec_MouthHear.j0 : Nat → Int → Int → List (S60) → Bool → Int → List Int → Int → Int → List (S60) → Option (Int × List Int × Int × Int × (List (S60)) × Int)
  | 0, _, _, _, _, _, _, _, _, _ => none
  | k + 1, x1, x2, x3, x22, x144000, x144001, x144002, x144003, x144004 => if x22 = true then (some (0, ([] : List Int), 0, 0, ([] : List (S60)), 0)) else ((spec_l13Copy.f x144000 x144001 x144002 x144003 x144004).bind fun bt147 => (if x1 < x144000 then (spec_MouthHear.j1 k x1 x2 x3 (wrap64 (x1 - x144000)) true x144000 x144001 x144002 x144003 x144004 bt147.1 bt147.2.1 bt147.2.2.1 bt147.2.2.2.1 bt147.2.2.2.2) else (spec_MouthHear.j1 k x1 x2 x3 (wrap64 (x1 - x144000)) (decide ((wrap64 (x1 - x144000)) > x144002)) x144000 x144001 x144002 x144003 x144004 bt147.1 bt147.2.1 bt147.2.2.1 bt147.2.2.2.1 bt147.2.2.2.2)))
def spec_MouthHear.j1 : Nat → Int → Int → List (S60) → Int → Bool → Int → List Int → Int → Int → List (S60) → Int → List Int → Int → Int → List (S60) → Option (Int × List Int × Int × Int × (List (S60)) × Int)
  | 0, _, _, _, _, _, _, _, _, _, _, _, _, _, _, _ => none
  | k + 1, x1, x2, x3, x11, x39, x144000, x144001, x144002, x144003, x144004, x157000, x157001, x157002, x157003, x157004 => if x39 = true then (some (x157000, x157001, x157002, x157003, x157004, 0)) else ((some (([] : List Int) : List Int)).bind fun y157 => (if 0 ≤ x11 then (if x11 ≤ (x144001.length : Int) then (if y157.length + (x144001.drop (x11 : Int).toNat).length < 140737488355328 then (spec_MouthHear.l0 k x1 x3 x11 0 x1 (y157 ++ (x144001.drop (x11 : Int).toNat)) (wrap64 (x144002 - x11)) x2 (([] : List (S60)))) else (none)) else (none)) else (none)))
def spec_MouthHear.l0 : Nat → Int → List (S60) → Int → Int → Int → List Int → Int → Int → List (S60) → Option (Int × List Int × Int × Int × (List (S60)) × Int)
  | 0, _, _, _, _, _, _, _, _, _ => none
  | k + 1, x1, x3, x11, x12, x157000, x157001, x157002, x157003, x157004 => if x12 < (x3.length : Int) then (if 0 ≤ x12 then (if ((rd_T60 x3 x12).f0) > x1 then (if ((rd_T60 x3 x12).f1) > ((rd_T60 x3 x12).f0) then (if ((rd_T60 x3 x12).f1) ≤ (wrap64 (x1 + x157002)) then (if (x157004.length : Int) < 2 then (if (wrap64 ((x157004.length : Int) - 1)) < 0 then (spec_MouthHear.j3 k x1 x3 x11 x12 true x157000 x157001 x157002 x157003 x157004 ((rd_T60 x3 x12).f0) ((rd_T60 x3 x12).f1)) else (if 0 ≤ (wrap64 ((x157004.length : Int) - 1)) then (if (wrap64 ((x157004.length : Int) - 1)) < (x157004.length : Int) then (spec_MouthHear.j3 k x1 x3 x11 x12 (decide (((rd_T60 x3 x12).f0) > ((rd_T60 x157004 (wrap64 ((x157004.length : Int) - 1))).f1))) x157000 x157001 x157002 x157003 x157004 ((rd_T60 x3 x12).f0) ((rd_T60 x3 x12).f1)) else (none)) else (none))) else (spec_MouthHear.j3 k x1 x3 x11 x12 false x157000 x157001 x157002 x157003 x157004 ((rd_T60 x3 x12).f0) ((rd_T60 x3 x12).f1))) else (spec_MouthHear.j3 k x1 x3 x11 x12 false x157000 x157001 x157002 x157003 x157004 ((rd_T60 x3 x12).f0) ((rd_T60 x3 x12).f1))) else (spec_MouthHear.j3 k x1 x3 x11 x12 false x157000 x157001 x157002 x157003 x157004 ((rd_T60 x3 x12).f0) ((rd_T60 x3 x12).f1))) else (spec_MouthHear.j3 k x1 x3 x11 x12 false x157000 x157001 x157002 x157003 x157004 ((rd_T60 x3 x12).f0) ((rd_T60 x3 x12).f1))) else (none)) else (if x1 > 1000000 then (some (0, ([] : List Int), 0, 0, ([] : List (S60)), 0)) else (some (x157000, x157001, x157002, x157003, x157004, x11)))
def spec_MouthHear.j3 : Nat → Int → List (S60) → Int → Int → Bool → Int → List Int → Int → Int → List (S60) → Int → Int → Option (Int × List Int × Int × Int × (List (S60)) × Int)
  | 0, _, _, _, _, _, _, _, _, _, _, _, _ => none
  | k + 1, x1, x3, x11, x12, x113, x157000, x157001, x157002, x157003, x157004, x169000, x169001 => if x113 = true then (if x157004.length < 8796093022208 then (spec_MouthHear.l0 k x1 x3 x11 (wrap64 (x12 + 1)) x157000 x157001 x157002 x157003 (x157004 ++ [(⟨x169000, x169001⟩ : S60)])) else (none)) else (spec_MouthHear.l0 k x1 x3 x11 (wrap64 (x12 + 1)) x157000 x157001 x157002 x157003 x157004)
end
def spec_MouthHear.f (k : Nat) (a0_0 : Int) (l0_1 : List Int) (a0_2 : Int) (a0_3 : Int) (l0_4 : List (S60)) (a1 : Int) (a2 : Int) (l3 : List (S60)) : Option (Int × List Int × Int × Int × (List (S60)) × Int) := (spec_MouthOk.f k a0_0 l0_1 a0_2 a0_3 l0_4).bind fun t145 => (if t145 = true then ((spec_l1In.f a2 0 255).bind fun t146 => (spec_MouthHear.j0 k a1 a2 l3 (!t146) a0_0 l0_1 a0_2 a0_3 l0_4)) else (spec_MouthHear.j0 k a1 a2 l3 true a0_0 l0_1 a0_2 a0_3 l0_4))
theorem spec_MouthHear.mono_l : ∀ k, (∀ y0 y1 y2 y3 y4 y5 y6 y7 y8, LeO (spec_MouthHear.j0 k y0 y1 y2 y3 y4 y5 y6 y7 y8) (spec_MouthHear.j0 (k + 1) y0 y1 y2 y3 y4 y5 y6 y7 y8)) ∧ (∀ y0 y1 y2 y3 y4 y5 y6 y7 y8 y9 y10 y11 y12 y13 y14, LeO (spec_MouthHear.j1 k y0 y1 y2 y3 y4 y5 y6 y7 y8 y9 y10 y11 y12 y13 y14) (spec_MouthHear.j1 (k + 1) y0 y1 y2 y3 y4 y5 y6 y7 y8 y9 y10 y11 y12 y13 y14)) ∧ (∀ y0 y1 y2 y3 y4 y5 y6 y7 y8, LeO (spec_MouthHear.l0 k y0 y1 y2 y3 y4 y5 y6 y7 y8) (spec_MouthHear.l0 (k + 1) y0 y1 y2 y3 y4 y5 y6 y7 y8)) ∧ (∀ y0 y1 y2 y3 y4 y5 y6 y7 y8 y9 y10 y11, LeO (spec_MouthHear.j3 k y0 y1 y2 y3 y4 y5 y6 y7 y8 y9 y10 y11) (spec_MouthHear.j3 (k + 1) y0 y1 y2 y3 y4 y5 y6 y7 y8 y9 y10 y11))
  | 0 => ⟨fun _ _ _ _ _ _ _ _ _ r h => by simp [spec_MouthHear.j0] at h, fun _ _ _ _ _ _ _ _ _ _ _ _ _ _ _ r h => by simp [spec_MouthHear.j1] at h, fun _ _ _ _ _ _ _ _ _ r h => by simp [spec_MouthHear.l0] at h, fun _ _ _ _ _ _ _ _ _ _ _ _ r h => by simp [spec_MouthHear.j3] at h⟩
  | k + 1 => by
    obtain ⟨ih0, ih1, ih2, ih3⟩ := spec_MouthHear.mono_l k
    refine ⟨?_, ?_, ?_, ?_⟩
    · intro y0 y1 y2 y3 y4 y5 y6 y7 y8
      unfold spec_MouthHear.j0
      repeat' first
      | (with_reducible exact ih0 _ _ _ _ _ _ _ _ _)
      | (with_reducible exact ih1 _ _ _ _ _ _ _ _ _ _ _ _ _ _ _)
      | (with_reducible exact ih2 _ _ _ _ _ _ _ _ _)
      | (with_reducible exact ih3 _ _ _ _ _ _ _ _ _ _ _ _)
      | (with_reducible exact spec_MouthOk.mono _ _ _ _ _ _)
      | (with_reducible exact LeO.refl _)
      | (with_reducible exact LeO.none _)
      | (with_reducible refine LeO.ite ?_ ?_)
      | (with_reducible refine LeO.bind ?_ (fun _ => ?_))
      | exact ih0 _ _ _ _ _ _ _ _ _
      | exact ih1 _ _ _ _ _ _ _ _ _ _ _ _ _ _ _
      | exact ih2 _ _ _ _ _ _ _ _ _
      | exact ih3 _ _ _ _ _ _ _ _ _ _ _ _
      | exact spec_MouthOk.mono _ _ _ _ _ _
      | exact LeO.none _
      | refine LeO.ite ?_ ?_
      | refine LeO.bind ?_ (fun _ => ?_)
    · intro y0 y1 y2 y3 y4 y5 y6 y7 y8 y9 y10 y11 y12 y13 y14
      unfold spec_MouthHear.j1
      repeat' first
      | (with_reducible exact ih0 _ _ _ _ _ _ _ _ _)
      | (with_reducible exact ih1 _ _ _ _ _ _ _ _ _ _ _ _ _ _ _)
      | (with_reducible exact ih2 _ _ _ _ _ _ _ _ _)
      | (with_reducible exact ih3 _ _ _ _ _ _ _ _ _ _ _ _)
      | (with_reducible exact spec_MouthOk.mono _ _ _ _ _ _)
      | (with_reducible exact LeO.refl _)
      | (with_reducible exact LeO.none _)
      | (with_reducible refine LeO.ite ?_ ?_)
      | (with_reducible refine LeO.bind ?_ (fun _ => ?_))
      | exact ih0 _ _ _ _ _ _ _ _ _
      | exact ih1 _ _ _ _ _ _ _ _ _ _ _ _ _ _ _
      | exact ih2 _ _ _ _ _ _ _ _ _
      | exact ih3 _ _ _ _ _ _ _ _ _ _ _ _
      | exact spec_MouthOk.mono _ _ _ _ _ _
      | exact LeO.none _
      | refine LeO.ite ?_ ?_
      | refine LeO.bind ?_ (fun _ => ?_)
    · intro y0 y1 y2 y3 y4 y5 y6 y7 y8
      unfold spec_MouthHear.l0
      repeat' first
      | (with_reducible exact ih0 _ _ _ _ _ _ _ _ _)
      | (with_reducible exact ih1 _ _ _ _ _ _ _ _ _ _ _ _ _ _ _)
      | (with_reducible exact ih2 _ _ _ _ _ _ _ _ _)
      | (with_reducible exact ih3 _ _ _ _ _ _ _ _ _ _ _ _)
      | (with_reducible exact spec_MouthOk.mono _ _ _ _ _ _)
      | (with_reducible exact LeO.refl _)
      | (with_reducible exact LeO.none _)
      | (with_reducible refine LeO.ite ?_ ?_)
      | (with_reducible refine LeO.bind ?_ (fun _ => ?_))
      | exact ih0 _ _ _ _ _ _ _ _ _
      | exact ih1 _ _ _ _ _ _ _ _ _ _ _ _ _ _ _
      | exact ih2 _ _ _ _ _ _ _ _ _
      | exact ih3 _ _ _ _ _ _ _ _ _ _ _ _
      | exact spec_MouthOk.mono _ _ _ _ _ _
      | exact LeO.none _
      | refine LeO.ite ?_ ?_
      | refine LeO.bind ?_ (fun _ => ?_)
    · intro y0 y1 y2 y3 y4 y5 y6 y7 y8 y9 y10 y11
      unfold spec_MouthHear.j3
      repeat' first
      | (with_reducible exact ih0 _ _ _ _ _ _ _ _ _)
      | (with_reducible exact ih1 _ _ _ _ _ _ _ _ _ _ _ _ _ _ _)
      | (with_reducible exact ih2 _ _ _ _ _ _ _ _ _)
      | (with_reducible exact ih3 _ _ _ _ _ _ _ _ _ _ _ _)
      | (with_reducible exact spec_MouthOk.mono _ _ _ _ _ _)
      | (with_reducible exact LeO.refl _)
      | (with_reducible exact LeO.none _)
      | (with_reducible refine LeO.ite ?_ ?_)
      | (with_reducible refine LeO.bind ?_ (fun _ => ?_))
      | exact ih0 _ _ _ _ _ _ _ _ _
      | exact ih1 _ _ _ _ _ _ _ _ _ _ _ _ _ _ _
      | exact ih2 _ _ _ _ _ _ _ _ _
      | exact ih3 _ _ _ _ _ _ _ _ _ _ _ _
      | exact spec_MouthOk.mono _ _ _ _ _ _
      | exact LeO.none _
      | refine LeO.ite ?_ ?_
      | refine LeO.bind ?_ (fun _ => ?_)
theorem spec_MouthHear.mono : ∀ a0 a1 a2 a3 a4 a5 a6 a7 k, LeO (spec_MouthHear.f k a0 a1 a2 a3 a4 a5 a6 a7) (spec_MouthHear.f (k + 1) a0 a1 a2 a3 a4 a5 a6 a7) := by
  intro a0 a1 a2 a3 a4 a5 a6 a7 k
  obtain ⟨ih0, ih1, ih2, ih3⟩ := spec_MouthHear.mono_l k
  unfold spec_MouthHear.f
  repeat' first
      | (with_reducible exact ih0 _ _ _ _ _ _ _ _ _)
      | (with_reducible exact ih1 _ _ _ _ _ _ _ _ _ _ _ _ _ _ _)
      | (with_reducible exact ih2 _ _ _ _ _ _ _ _ _)
      | (with_reducible exact ih3 _ _ _ _ _ _ _ _ _ _ _ _)
      | (with_reducible exact spec_MouthOk.mono _ _ _ _ _ _)
      | (with_reducible exact LeO.refl _)
      | (with_reducible exact LeO.none _)
      | (with_reducible refine LeO.ite ?_ ?_)
      | (with_reducible refine LeO.bind ?_ (fun _ => ?_))
      | exact ih0 _ _ _ _ _ _ _ _ _
      | exact ih1 _ _ _ _ _ _ _ _ _ _ _ _ _ _ _
      | exact ih2 _ _ _ _ _ _ _ _ _
      | exact ih3 _ _ _ _ _ _ _ _ _ _ _ _
      | exact spec_MouthOk.mono _ _ _ _ _ _
      | exact LeO.none _
      | refine LeO.ite ?_ ?_
      | refine LeO.bind ?_ (fun _ => ?_)
set_option maxHeartbeats 8000000 in
set_option maxRecDepth 100000 in
theorem spec_MouthHear.calls (k : Nat) (a0_0 : Int) (A0_1 : Option Addr) (c0_1 : Nat) (l0_1 : List Int) (a0_2 : Int) (a0_3 : Int) (A0_4 : Option Addr) (c0_4 : Nat) (l0_4 : List (S60)) (a1 : Int) (a2 : Int) (A3 : Option Addr) (c3 : Nat) (l3 : List (S60)) (r1 : Int) (r2 : List Int) (r3 : Int) (r4 : Int) (r5 : List (S60)) (r6 : Int) (w : World) (hr0_1 : Kd.C (Kd.int .u8) w A0_1 l0_1.length l0_1) (hc0_1 : l0_1.length ≤ c0_1) (hr0_4 : Kd.C k60 w A0_4 l0_4.length l0_4) (hc0_4 : l0_4.length ≤ c0_4) (hr3 : Kd.C k60 w A3 l3.length l3) (hc3 : l3.length ≤ c3) (h : spec_MouthHear.f k a0_0 l0_1 a0_2 a0_3 l0_4 a1 a2 l3 = some (r1, r2, r3, r4, r5, r6)) :
    Calls Try.prog 15 #[.agg #[.int .i64 a0_0, .slice A0_1 l0_1.length c0_1, .int .i64 a0_2, .int .i64 a0_3, .slice A0_4 l0_4.length c0_4], .int .i64 a1, .int .i64 a2, .slice A3 l3.length c3] w fun e w' => ∃ v1_ v4_ : Value, e = .returned (.tuple #[.agg #[.int .i64 r1, v1_, .int .i64 r3, .int .i64 r4, v4_], .int .i64 r6]) ∧ Kd.R (Kd.int .u8) 5 w' w.heap.size (fun _ => True) v1_ r2 ∧ Kd.R k60 60 w' w.heap.size (fun _ => True) v4_ r5 ∧ Below w.heap.size w w' := by
  have hu25 := Try.underlying25
  have hu60 := Try.underlying60
  have HR0_1 := Aside0.mk hr0_1
  have HC0_1 := Aside0.mk hc0_1
  clear hr0_1 hc0_1
  have HR0_4 := Aside0.mk hr0_4
  have HC0_4 := Aside0.mk hc0_4
  clear hr0_4 hc0_4
  have HR3 := Aside0.mk hr3
  have HC3 := Aside0.mk hc3
  clear hr3 hc3
  have HB := Aside0.mk (Below.refl w.heap.size w)
  have H : ((spec_MouthOk.f k a0_0 l0_1 a0_2 a0_3 l0_4).bind fun t145 => (if t145 = true then ((spec_l1In.f a2 0 255).bind fun t146 => (spec_MouthHear.j0 k a1 a2 l3 (!t146) a0_0 l0_1 a0_2 a0_3 l0_4)) else (spec_MouthHear.j0 k a1 a2 l3 true a0_0 l0_1 a0_2 a0_3 l0_4))) = some (r1, r2, r3, r4, r5, r6) := h
  clear h
  have HC5 := Aside0.mk H
  clear H
  go_enter Try.func15, Try.ntmps15
  go_upto_region 1 with (first | ((with_reducible refine gate_dst (N := 4) rfl ?_); (try (refine gate_guard (by rfl) ?_; dsimp only)); refine box_event ?hg (N := 4) ?hd (cs := #[.int .i64 a0_0, .slice A0_1 l0_1.length c0_1, .int .i64 a0_2, .int .i64 a0_3, .slice A0_4 l0_4.length c0_4]) (t := 25) ?hr ?_; (case hd => rfl); (case hg => rfl); (case hr => first | (go_simp; done) | (go_simp; rfl)); intro gb143 hg w6 hbox hb; have n0_ := Aside0.mk (below_step (hb0_ HB.out) hb); have n1_ := Aside0.mk (hbox); have n2_ := Aside0.mk ((by rw [hg]; exact (below_size (hb0_ HB.out)) : w.heap.size ≤ gb143)); have n3_ := Aside0.mk ((by rw [hg]; exact (below_size (hb0_ HB.out)) : w.heap.size ≤ gb143)); clear HB; have HB := n0_; have BK143 := n1_; have GW143 := n2_; have GE143 := n3_; clear n0_ n1_ n2_ n3_; clear hb hbox hg) | ((with_reducible refine gate_dst (N := 8) rfl ?_); (try (refine gate_guard (by rfl) ?_; dsimp only)); refine box_event ?hg (N := 8) ?hd (cs := #[.int .i64 0, .slice none 0 0, .int .i64 0, .int .i64 0, .slice none 0 0]) (t := 25) ?hr ?_; (case hd => rfl); (case hg => rfl); (case hr => first | (go_simp; done) | (go_simp; rfl)); intro gb144 hg w7 hbox hb; have n0_ := Aside0.mk (blk_below (g := gb143) (o := .cells #[.int .i64 a0_0, .slice A0_1 l0_1.length c0_1, .int .i64 a0_2, .int .i64 a0_3, .slice A0_4 l0_4.length c0_4] 25 (0, 0)) (kb_ BK143.out) hb); have n1_ := Aside0.mk (below_step (hb1_ HB.out GE143.out) hb); have n2_ := Aside0.mk (hbox); have n3_ := Aside0.mk ((by rw [hg]; exact (below_size (hb1_ HB.out GE143.out)) : w.heap.size ≤ gb144)); have n4_ := Aside0.mk ((by rw [hg]; exact (below_size (hb1_ HB.out GE143.out)) : w.heap.size ≤ gb144)); have n5_ := Aside0.mk ((by rw [hg]; exact Nat.ne_of_lt (blk_lt (g := gb143) (o := .cells #[.int .i64 a0_0, .slice A0_1 l0_1.length c0_1, .int .i64 a0_2, .int .i64 a0_3, .slice A0_4 l0_4.length c0_4] 25 (0, 0)) (kb_ BK143.out)) : gb143 ≠ gb144)); have n6_ := Aside0.mk ((by rw [hg]; exact Nat.ne_of_gt (blk_lt (g := gb143) (o := .cells #[.int .i64 a0_0, .slice A0_1 l0_1.length c0_1, .int .i64 a0_2, .int .i64 a0_3, .slice A0_4 l0_4.length c0_4] 25 (0, 0)) (kb_ BK143.out)) : gb144 ≠ gb143)); clear BK143; clear HB; have BK143 := n0_; have HB := n1_; have BK144 := n2_; have GW144 := n3_; have GE144 := n4_; have NB143_144 := n5_; have NB144_143 := n6_; clear n0_ n1_ n2_ n3_ n4_ n5_ n6_; clear hb hbox hg))
  repeat (go_quiet (first | ((with_reducible refine gate_dst (N := 4) rfl ?_); (try (refine gate_guard (by rfl) ?_; dsimp only)); refine box_event ?hg (N := 4) ?hd (cs := #[.int .i64 a0_0, .slice A0_1 l0_1.length c0_1, .int .i64 a0_2, .int .i64 a0_3, .slice A0_4 l0_4.length c0_4]) (t := 25) ?hr ?_; (case hd => rfl); (case hg => rfl); (case hr => first | (go_simp; done) | (go_simp; rfl)); intro gb143 hg w6 hbox hb; have n0_ := Aside0.mk (below_step (hb0_ HB.out) hb); have n1_ := Aside0.mk (hbox); have n2_ := Aside0.mk ((by rw [hg]; exact (below_size (hb0_ HB.out)) : w.heap.size ≤ gb143)); have n3_ := Aside0.mk ((by rw [hg]; exact (below_size (hb0_ HB.out)) : w.heap.size ≤ gb143)); clear HB; have HB := n0_; have BK143 := n1_; have GW143 := n2_; have GE143 := n3_; clear n0_ n1_ n2_ n3_; clear hb hbox hg) | ((with_reducible refine gate_dst (N := 8) rfl ?_); (try (refine gate_guard (by rfl) ?_; dsimp only)); refine box_event ?hg (N := 8) ?hd (cs := #[.int .i64 0, .slice none 0 0, .int .i64 0, .int .i64 0, .slice none 0 0]) (t := 25) ?hr ?_; (case hd => rfl); (case hg => rfl); (case hr => first | (go_simp; done) | (go_simp; rfl)); intro gb144 hg w7 hbox hb; have n0_ := Aside0.mk (blk_below (g := gb143) (o := .cells #[.int .i64 a0_0, .slice A0_1 l0_1.length c0_1, .int .i64 a0_2, .int .i64 a0_3, .slice A0_4 l0_4.length c0_4] 25 (0, 0)) (kb_ BK143.out) hb); have n1_ := Aside0.mk (below_step (hb1_ HB.out GE143.out) hb); have n2_ := Aside0.mk (hbox); have n3_ := Aside0.mk ((by rw [hg]; exact (below_size (hb1_ HB.out GE143.out)) : w.heap.size ≤ gb144)); have n4_ := Aside0.mk ((by rw [hg]; exact (below_size (hb1_ HB.out GE143.out)) : w.heap.size ≤ gb144)); have n5_ := Aside0.mk ((by rw [hg]; exact Nat.ne_of_lt (blk_lt (g := gb143) (o := .cells #[.int .i64 a0_0, .slice A0_1 l0_1.length c0_1, .int .i64 a0_2, .int .i64 a0_3, .slice A0_4 l0_4.length c0_4] 25 (0, 0)) (kb_ BK143.out)) : gb143 ≠ gb144)); have n6_ := Aside0.mk ((by rw [hg]; exact Nat.ne_of_gt (blk_lt (g := gb143) (o := .cells #[.int .i64 a0_0, .slice A0_1 l0_1.length c0_1, .int .i64 a0_2, .int .i64 a0_3, .slice A0_4 l0_4.length c0_4] 25 (0, 0)) (kb_ BK143.out)) : gb144 ≠ gb143)); clear BK143; clear HB; have BK143 := n0_; have HB := n1_; have BK144 := n2_; have GW144 := n3_; have GE144 := n4_; have NB143_144 := n5_; have NB144_143 := n6_; clear n0_ n1_ n2_ n3_ n4_ n5_ n6_; clear hb hbox hg)); go_upto_region 1 with (first | ((with_reducible refine gate_dst (N := 4) rfl ?_); (try (refine gate_guard (by rfl) ?_; dsimp only)); refine box_event ?hg (N := 4) ?hd (cs := #[.int .i64 a0_0, .slice A0_1 l0_1.length c0_1, .int .i64 a0_2, .int .i64 a0_3, .slice A0_4 l0_4.length c0_4]) (t := 25) ?hr ?_; (case hd => rfl); (case hg => rfl); (case hr => first | (go_simp; done) | (go_simp; rfl)); intro gb143 hg w6 hbox hb; have n0_ := Aside0.mk (below_step (hb0_ HB.out) hb); have n1_ := Aside0.mk (hbox); have n2_ := Aside0.mk ((by rw [hg]; exact (below_size (hb0_ HB.out)) : w.heap.size ≤ gb143)); have n3_ := Aside0.mk ((by rw [hg]; exact (below_size (hb0_ HB.out)) : w.heap.size ≤ gb143)); clear HB; have HB := n0_; have BK143 := n1_; have GW143 := n2_; have GE143 := n3_; clear n0_ n1_ n2_ n3_; clear hb hbox hg) | ((with_reducible refine gate_dst (N := 8) rfl ?_); (try (refine gate_guard (by rfl) ?_; dsimp only)); refine box_event ?hg (N := 8) ?hd (cs := #[.int .i64 0, .slice none 0 0, .int .i64 0, .int .i64 0, .slice none 0 0]) (t := 25) ?hr ?_; (case hd => rfl); (case hg => rfl); (case hr => first | (go_simp; done) | (go_simp; rfl)); intro gb144 hg w7 hbox hb; have n0_ := Aside0.mk (blk_below (g := gb143) (o := .cells #[.int .i64 a0_0, .slice A0_1 l0_1.length c0_1, .int .i64 a0_2, .int .i64 a0_3, .slice A0_4 l0_4.length c0_4] 25 (0, 0)) (kb_ BK143.out) hb); have n1_ := Aside0.mk (below_step (hb1_ HB.out GE143.out) hb); have n2_ := Aside0.mk (hbox); have n3_ := Aside0.mk ((by rw [hg]; exact (below_size (hb1_ HB.out GE143.out)) : w.heap.size ≤ gb144)); have n4_ := Aside0.mk ((by rw [hg]; exact (below_size (hb1_ HB.out GE143.out)) : w.heap.size ≤ gb144)); have n5_ := Aside0.mk ((by rw [hg]; exact Nat.ne_of_lt (blk_lt (g := gb143) (o := .cells #[.int .i64 a0_0, .slice A0_1 l0_1.length c0_1, .int .i64 a0_2, .int .i64 a0_3, .slice A0_4 l0_4.length c0_4] 25 (0, 0)) (kb_ BK143.out)) : gb143 ≠ gb144)); have n6_ := Aside0.mk ((by rw [hg]; exact Nat.ne_of_gt (blk_lt (g := gb143) (o := .cells #[.int .i64 a0_0, .slice A0_1 l0_1.length c0_1, .int .i64 a0_2, .int .i64 a0_3, .slice A0_4 l0_4.length c0_4] 25 (0, 0)) (kb_ BK143.out)) : gb144 ≠ gb143)); clear BK143; clear HB; have BK143 := n0_; have HB := n1_; have BK144 := n2_; have GW144 := n3_; have GE144 := n4_; have NB143_144 := n5_; have NB144_143 := n6_; clear n0_ n1_ n2_ n3_ n4_ n5_ n6_; clear hb hbox hg)))
  (try simp only [Act.put, List.setIfInBounds_toArray, List.set_cons_zero, List.set_cons_succ])
  go_cut [22] (fun v22 wc => ∃ (kq : Nat) (x22_4 : Bool), v22 = .bool x22_4 ∧ Aside0 (spec_MouthHear.j0 kq a1 a2 l3 x22_4 a0_0 l0_1 a0_2 a0_3 l0_4 = some (r1, r2, r3, r4, r5, r6)) ∧ Aside0 (kq ≤ k) ∧ Aside0 (wc.heap[gb143]? = some (.cells #[.int .i64 a0_0, (.slice A0_1 l0_1.length c0_1), .int .i64 a0_2, .int .i64 a0_3, (.slice A0_4 l0_4.length c0_4)] 25 (0, 0))) ∧ Aside0 (wc.heap[gb144]? = some (.cells #[.int .i64 0, (.slice none 0 0), .int .i64 0, .int .i64 0, (.slice none 0 0)] 25 (0, 0))) ∧ Aside0 (Below w.heap.size w wc))
  case first =>
    have H := HC5.out
    clear HC5
    replace H := Option.bind_eq_some_iff.mp H
    obtain ⟨t145, A80, H⟩ := H
    replace H : (if t145 = true then ((spec_l1In.f a2 0 255).bind fun t146 => (spec_MouthHear.j0 k a1 a2 l3 (!t146) a0_0 l0_1 a0_2 a0_3 l0_4)) else (spec_MouthHear.j0 k a1 a2 l3 true a0_0 l0_1 a0_2 a0_3 l0_4)) = some (r1, r2, r3, r4, r5, r6) := H
    have A8 := Aside0.mk A80
    clear A80
    by_cases c9 : t145 = true
    · subst c9
      have H1 : ((spec_l1In.f a2 0 255).bind fun t146 => (spec_MouthHear.j0 k a1 a2 l3 (!t146) a0_0 l0_1 a0_2 a0_3 l0_4)) = some (r1, r2, r3, r4, r5, r6) := by rw [if_pos rfl] at H; exact H
      clear H
      have H := H1
      clear H1
      replace H := Option.bind_eq_some_iff.mp H
      obtain ⟨t146, A100, H⟩ := H
      replace H : (spec_MouthHear.j0 k a1 a2 l3 (!t146) a0_0 l0_1 a0_2 a0_3 l0_4) = some (r1, r2, r3, r4, r5, r6) := H
      have A10 := Aside0.mk A100
      clear A100
      have H' := Aside0.mk H
      clear H
      have hnb11 := NB143_144.out
      have hnc11 := NB144_143.out
      have hcz12_0 : w7.cell? ⟨gb143, 0, none⟩ = some (.int .i64 a0_0) := (blk_cell BK143.out 0).trans rfl
      have hcz12_1 : w7.cell? ⟨gb143, 1, none⟩ = some (.slice A0_1 l0_1.length c0_1) := (blk_cell BK143.out 1).trans rfl
      have hcz12_2 : w7.cell? ⟨gb143, 2, none⟩ = some (.int .i64 a0_2) := (blk_cell BK143.out 2).trans rfl
      have hcz12_3 : w7.cell? ⟨gb143, 3, none⟩ = some (.int .i64 a0_3) := (blk_cell BK143.out 3).trans rfl
      have hcz12_4 : w7.cell? ⟨gb143, 4, none⟩ = some (.slice A0_4 l0_4.length c0_4) := (blk_cell BK143.out 4).trans rfl
      have hfz12_0 := blk_frozen BK143.out 0
      have hfz12_1 := blk_frozen BK143.out 1
      have hfz12_2 := blk_frozen BK143.out 2
      have hfz12_3 := blk_frozen BK143.out 3
      have hfz12_4 := blk_frozen BK143.out 4
      go_wp2_with (first | (go_at_call 33; (with_reducible refine (spec_MouthOk.calls k a0_0 _ _ l0_1 a0_2 a0_3 _ _ l0_4 true _ ?side1 ?side2 ?side3 ?side4 A8.out).mono ?_); (case side1 => exact kC_ (Kd.C_below HR0_1.out HB.out)); (case side2 => exact HC0_1.out); (case side3 => exact kC_ (Kd.C_below HR0_4.out HB.out)); (case side4 => exact HC0_4.out); rintro e w13 ⟨rfl, hb⟩; have n0_ := Aside0.mk (blk_below (g := gb143) (o := .cells #[.int .i64 a0_0, .slice A0_1 l0_1.length c0_1, .int .i64 a0_2, .int .i64 a0_3, .slice A0_4 l0_4.length c0_4] 25 (0, 0)) (kb_ BK143.out) hb); have n1_ := Aside0.mk (blk_below (g := gb144) (o := .cells #[.int .i64 0, .slice none 0 0, .int .i64 0, .int .i64 0, .slice none 0 0] 25 (0, 0)) (kb_ BK144.out) hb); have n2_ := Aside0.mk (below_step (hb2_ HB.out GE143.out GE144.out) hb); clear BK143; clear BK144; clear HB; have BK143 := n0_; have BK144 := n1_; have HB := n2_; clear n0_ n1_ n2_; (try clear hb); (try clear hb2); (try clear hk); (try clear hi)) | (go_at_call 41; (with_reducible refine (spec_l1In.calls a2 0 255 t146 _ A10.out).mono ?_); rintro e w' ⟨rfl, ⟨nd, rfl⟩⟩; (try first | exact ⟨rfl, _, World.drewN_drewN _ _ _⟩ | exact ⟨rfl, _, Eq.trans (World.drewN_drewN _ _ _) (congrArg (World.drewN _) (Nat.add_assoc _ _ _))⟩)))
      repeat (go_quiet (first | (go_at_call 33; (with_reducible refine (spec_MouthOk.calls k a0_0 _ _ l0_1 a0_2 a0_3 _ _ l0_4 true _ ?side1 ?side2 ?side3 ?side4 A8.out).mono ?_); (case side1 => exact kC_ (Kd.C_below HR0_1.out HB.out)); (case side2 => exact HC0_1.out); (case side3 => exact kC_ (Kd.C_below HR0_4.out HB.out)); (case side4 => exact HC0_4.out); rintro e w13 ⟨rfl, hb⟩; have n0_ := Aside0.mk (blk_below (g := gb143) (o := .cells #[.int .i64 a0_0, .slice A0_1 l0_1.length c0_1, .int .i64 a0_2, .int .i64 a0_3, .slice A0_4 l0_4.length c0_4] 25 (0, 0)) (kb_ BK143.out) hb); have n1_ := Aside0.mk (blk_below (g := gb144) (o := .cells #[.int .i64 0, .slice none 0 0, .int .i64 0, .int .i64 0, .slice none 0 0] 25 (0, 0)) (kb_ BK144.out) hb); have n2_ := Aside0.mk (below_step (hb2_ HB.out GE143.out GE144.out) hb); clear BK143; clear BK144; clear HB; have BK143 := n0_; have BK144 := n1_; have HB := n2_; clear n0_ n1_ n2_; (try clear hb); (try clear hb2); (try clear hk); (try clear hi)) | (go_at_call 41; (with_reducible refine (spec_l1In.calls a2 0 255 t146 _ A10.out).mono ?_); rintro e w' ⟨rfl, ⟨nd, rfl⟩⟩; (try first | exact ⟨rfl, _, World.drewN_drewN _ _ _⟩ | exact ⟨rfl, _, Eq.trans (World.drewN_drewN _ _ _) (congrArg (World.drewN _) (Nat.add_assoc _ _ _))⟩))); try go_wp2_with (first | (go_at_call 33; (with_reducible refine (spec_MouthOk.calls k a0_0 _ _ l0_1 a0_2 a0_3 _ _ l0_4 true _ ?side1 ?side2 ?side3 ?side4 A8.out).mono ?_); (case side1 => exact kC_ (Kd.C_below HR0_1.out HB.out)); (case side2 => exact HC0_1.out); (case side3 => exact kC_ (Kd.C_below HR0_4.out HB.out)); (case side4 => exact HC0_4.out); rintro e w13 ⟨rfl, hb⟩; have n0_ := Aside0.mk (blk_below (g := gb143) (o := .cells #[.int .i64 a0_0, .slice A0_1 l0_1.length c0_1, .int .i64 a0_2, .int .i64 a0_3, .slice A0_4 l0_4.length c0_4] 25 (0, 0)) (kb_ BK143.out) hb); have n1_ := Aside0.mk (blk_below (g := gb144) (o := .cells #[.int .i64 0, .slice none 0 0, .int .i64 0, .int .i64 0, .slice none 0 0] 25 (0, 0)) (kb_ BK144.out) hb); have n2_ := Aside0.mk (below_step (hb2_ HB.out GE143.out GE144.out) hb); clear BK143; clear BK144; clear HB; have BK143 := n0_; have BK144 := n1_; have HB := n2_; clear n0_ n1_ n2_; (try clear hb); (try clear hb2); (try clear hk); (try clear hi)) | (go_at_call 41; (with_reducible refine (spec_l1In.calls a2 0 255 t146 _ A10.out).mono ?_); rintro e w' ⟨rfl, ⟨nd, rfl⟩⟩; (try first | exact ⟨rfl, _, World.drewN_drewN _ _ _⟩ | exact ⟨rfl, _, Eq.trans (World.drewN_drewN _ _ _) (congrArg (World.drewN _) (Nat.add_assoc _ _ _))⟩))))
      go_meet
      case rel => exact ⟨_, (!t146), (by first | rfl | (simp; done) | (simp [*]; done)), H', ⟨by first | omega | exact Nat.le_refl _⟩, ⟨by refine kb_ ?_; exact BK143.out⟩, ⟨by refine kb_ ?_; exact BK144.out⟩, ⟨by repeat (first | (with_reducible first | exact HB.out | apply below_alloc | apply pw_below_drewN | apply below_drew1 | refine below_set ?_ GE143.out | refine below_set ?_ GE144.out) | exact HB.out)⟩⟩
    · replace c9 := Bool.eq_false_iff.mpr c9
      subst c9
      have H1 : (spec_MouthHear.j0 k a1 a2 l3 true a0_0 l0_1 a0_2 a0_3 l0_4) = some (r1, r2, r3, r4, r5, r6) := by rw [if_neg (show ¬ (false = true) by decide)] at H; exact H
      clear H
      have H := H1
      clear H1
      have H' := Aside0.mk H
      clear H
      have hnb14 := NB143_144.out
      have hnc14 := NB144_143.out
      have hcz15_0 : w7.cell? ⟨gb143, 0, none⟩ = some (.int .i64 a0_0) := (blk_cell BK143.out 0).trans rfl
      have hcz15_1 : w7.cell? ⟨gb143, 1, none⟩ = some (.slice A0_1 l0_1.length c0_1) := (blk_cell BK143.out 1).trans rfl
      have hcz15_2 : w7.cell? ⟨gb143, 2, none⟩ = some (.int .i64 a0_2) := (blk_cell BK143.out 2).trans rfl
      have hcz15_3 : w7.cell? ⟨gb143, 3, none⟩ = some (.int .i64 a0_3) := (blk_cell BK143.out 3).trans rfl
      have hcz15_4 : w7.cell? ⟨gb143, 4, none⟩ = some (.slice A0_4 l0_4.length c0_4) := (blk_cell BK143.out 4).trans rfl
      have hfz15_0 := blk_frozen BK143.out 0
      have hfz15_1 := blk_frozen BK143.out 1
      have hfz15_2 := blk_frozen BK143.out 2
      have hfz15_3 := blk_frozen BK143.out 3
      have hfz15_4 := blk_frozen BK143.out 4
      go_wp2_with (first | (go_at_call 33; (with_reducible refine (spec_MouthOk.calls k a0_0 _ _ l0_1 a0_2 a0_3 _ _ l0_4 false _ ?side1 ?side2 ?side3 ?side4 A8.out).mono ?_); (case side1 => exact kC_ (Kd.C_below HR0_1.out HB.out)); (case side2 => exact HC0_1.out); (case side3 => exact kC_ (Kd.C_below HR0_4.out HB.out)); (case side4 => exact HC0_4.out); rintro e w16 ⟨rfl, hb⟩; have n0_ := Aside0.mk (blk_below (g := gb143) (o := .cells #[.int .i64 a0_0, .slice A0_1 l0_1.length c0_1, .int .i64 a0_2, .int .i64 a0_3, .slice A0_4 l0_4.length c0_4] 25 (0, 0)) (kb_ BK143.out) hb); have n1_ := Aside0.mk (blk_below (g := gb144) (o := .cells #[.int .i64 0, .slice none 0 0, .int .i64 0, .int .i64 0, .slice none 0 0] 25 (0, 0)) (kb_ BK144.out) hb); have n2_ := Aside0.mk (below_step (hb2_ HB.out GE143.out GE144.out) hb); clear BK143; clear BK144; clear HB; have BK143 := n0_; have BK144 := n1_; have HB := n2_; clear n0_ n1_ n2_; (try clear hb); (try clear hb2); (try clear hk); (try clear hi)))
      repeat (go_quiet (first | (go_at_call 33; (with_reducible refine (spec_MouthOk.calls k a0_0 _ _ l0_1 a0_2 a0_3 _ _ l0_4 false _ ?side1 ?side2 ?side3 ?side4 A8.out).mono ?_); (case side1 => exact kC_ (Kd.C_below HR0_1.out HB.out)); (case side2 => exact HC0_1.out); (case side3 => exact kC_ (Kd.C_below HR0_4.out HB.out)); (case side4 => exact HC0_4.out); rintro e w16 ⟨rfl, hb⟩; have n0_ := Aside0.mk (blk_below (g := gb143) (o := .cells #[.int .i64 a0_0, .slice A0_1 l0_1.length c0_1, .int .i64 a0_2, .int .i64 a0_3, .slice A0_4 l0_4.length c0_4] 25 (0, 0)) (kb_ BK143.out) hb); have n1_ := Aside0.mk (blk_below (g := gb144) (o := .cells #[.int .i64 0, .slice none 0 0, .int .i64 0, .int .i64 0, .slice none 0 0] 25 (0, 0)) (kb_ BK144.out) hb); have n2_ := Aside0.mk (below_step (hb2_ HB.out GE143.out GE144.out) hb); clear BK143; clear BK144; clear HB; have BK143 := n0_; have BK144 := n1_; have HB := n2_; clear n0_ n1_ n2_; (try clear hb); (try clear hb2); (try clear hk); (try clear hi))); try go_wp2_with (first | (go_at_call 33; (with_reducible refine (spec_MouthOk.calls k a0_0 _ _ l0_1 a0_2 a0_3 _ _ l0_4 false _ ?side1 ?side2 ?side3 ?side4 A8.out).mono ?_); (case side1 => exact kC_ (Kd.C_below HR0_1.out HB.out)); (case side2 => exact HC0_1.out); (case side3 => exact kC_ (Kd.C_below HR0_4.out HB.out)); (case side4 => exact HC0_4.out); rintro e w16 ⟨rfl, hb⟩; have n0_ := Aside0.mk (blk_below (g := gb143) (o := .cells #[.int .i64 a0_0, .slice A0_1 l0_1.length c0_1, .int .i64 a0_2, .int .i64 a0_3, .slice A0_4 l0_4.length c0_4] 25 (0, 0)) (kb_ BK143.out) hb); have n1_ := Aside0.mk (blk_below (g := gb144) (o := .cells #[.int .i64 0, .slice none 0 0, .int .i64 0, .int .i64 0, .slice none 0 0] 25 (0, 0)) (kb_ BK144.out) hb); have n2_ := Aside0.mk (below_step (hb2_ HB.out GE143.out GE144.out) hb); clear BK143; clear BK144; clear HB; have BK143 := n0_; have BK144 := n1_; have HB := n2_; clear n0_ n1_ n2_; (try clear hb); (try clear hb2); (try clear hk); (try clear hi))))
      go_meet
      case rel => exact ⟨_, (true), (by first | rfl | (simp; done) | (simp [*]; done)), H', ⟨by first | omega | exact Nat.le_refl _⟩, ⟨by refine kb_ ?_; exact BK143.out⟩, ⟨by refine kb_ ?_; exact BK144.out⟩, ⟨by repeat (first | (with_reducible first | exact HB.out | apply below_alloc | apply pw_below_drewN | apply below_drew1 | refine below_set ?_ GE143.out | refine below_set ?_ GE144.out) | exact HB.out)⟩⟩
  case rest =>
    clear HC5
    try clear c1
    try clear p2
    try clear c3
    try clear c9
    try clear c11
    try clear c14
    try clear c15
    try clear hcz12_0
    try clear hcz12_1
    try clear hcz12_2
    try clear hcz12_3
    try clear hcz12_4
    try clear hcz15_0
    try clear hcz15_1
    try clear hcz15_2
    try clear hcz15_3
    try clear hcz15_4
    try clear hfz12_0
    try clear hfz12_1
    try clear hfz12_2
    try clear hfz12_3
    try clear hfz12_4
    try clear hfz15_0
    try clear hfz15_1
    try clear hfz15_2
    try clear hfz15_3
    try clear hfz15_4
    obtain ⟨kq, x22_4, rfl, HA, HJ4, BK143, BK144, HB⟩ := hcut
    cases kq with
    | zero => exact absurd HA.out (by simp [spec_MouthHear.j0])
    | succ kj4 =>
      have H := HA.out
      clear HA
      simp only [spec_MouthHear.j0] at H
      by_cases c17 : x22_4 = true
      · subst c17
        have H1 : (some (0, ([] : List Int), 0, 0, ([] : List (S60)), 0)) = some (r1, r2, r3, r4, r5, r6) := by rw [if_pos rfl] at H; exact H
        clear H
        have H := H1
        clear H1
        simp only [Option.some.injEq, Prod.mk.injEq] at H
        obtain ⟨rfl, rfl, rfl, rfl, rfl, rfl⟩ := H
        have hnb18 := NB144_143.out
        have hnc18 := NB143_144.out
        have hcz19_0 : wc.cell? ⟨gb144, 0, none⟩ = some (.int .i64 0) := (blk_cell BK144.out 0).trans rfl
        have hcz19_1 : wc.cell? ⟨gb144, 1, none⟩ = some (.slice none 0 0) := (blk_cell BK144.out 1).trans rfl
        have hcz19_2 : wc.cell? ⟨gb144, 2, none⟩ = some (.int .i64 0) := (blk_cell BK144.out 2).trans rfl
        have hcz19_3 : wc.cell? ⟨gb144, 3, none⟩ = some (.int .i64 0) := (blk_cell BK144.out 3).trans rfl
        have hcz19_4 : wc.cell? ⟨gb144, 4, none⟩ = some (.slice none 0 0) := (blk_cell BK144.out 4).trans rfl
        have hfz19_0 := blk_frozen BK144.out 0
        have hfz19_1 := blk_frozen BK144.out 1
        have hfz19_2 := blk_frozen BK144.out 2
        have hfz19_3 := blk_frozen BK144.out 3
        have hfz19_4 := blk_frozen BK144.out 4
        go_wp2
        repeat (go_quiet (fail); try go_wp2)
        refine bodyPost_ret (results_ct rfl _ _ gb144 25 #[.int .i64 0, .slice none 0 0, .int .i64 0, .int .i64 0, .slice none 0 0] (0, 0) _ rfl (by refine kb_ ?_; refine blk_put (cs := #[.int .i64 0, .slice none 0 0, .int .i64 0, .int .i64 0, .slice none 0 0]) ?_ 4 _ rfl; refine kb_ ?_; refine blk_put (cs := #[.int .i64 0, .slice none 0 0, .int .i64 0, .int .i64 0, .slice none 0 0]) ?_ 3 _ rfl; refine kb_ ?_; refine blk_put (cs := #[.int .i64 0, .slice none 0 0, .int .i64 0, .int .i64 0, .slice none 0 0]) ?_ 2 _ rfl; refine kb_ ?_; refine blk_put (cs := #[.int .i64 0, .slice none 0 0, .int .i64 0, .int .i64 0, .slice none 0 0]) ?_ 1 _ rfl; refine kb_ ?_; refine blk_put (cs := #[.int .i64 0, .slice none 0 0, .int .i64 0, .int .i64 0, .slice none 0 0]) ?_ 0 _ rfl; refine kb_ ?_; exact BK144.out) Try.underlying25 rfl (by kernel_rfl)) rfl ?_
        exact ⟨_, _, by first | rfl | (simp [errW_none, errW_some] <;> rfl) | (simp [*, errW_none, errW_some] <;> rfl), by first | exact Kd.R_nil _ _ _ _ _ | exact Kd.N_nil _ _ _ _ _ | exact Kd.V_nil _ _ _ _ _ | exact Kd.Q_nil _ _ _ _ _ | exact Kd.S_nil _ _ _ _ _, by first | exact Kd.R_nil _ _ _ _ _ | exact Kd.N_nil _ _ _ _ _ | exact Kd.V_nil _ _ _ _ _ | exact Kd.Q_nil _ _ _ _ _ | exact Kd.S_nil _ _ _ _ _, by repeat (first | (with_reducible first | exact HB.out | apply below_alloc | apply pw_below_drewN | apply below_drew1 | refine below_set ?_ GE143.out | refine below_set ?_ GE144.out) | exact HB.out)⟩
      · replace c17 := Bool.eq_false_iff.mpr c17
        subst c17
        have H1 : ((spec_l13Copy.f a0_0 l0_1 a0_2 a0_3 l0_4).bind fun bt147 => (if a1 < a0_0 then (spec_MouthHear.j1 kj4 a1 a2 l3 (wrap64 (a1 - a0_0)) true a0_0 l0_1 a0_2 a0_3 l0_4 bt147.1 bt147.2.1 bt147.2.2.1 bt147.2.2.2.1 bt147.2.2.2.2) else (spec_MouthHear.j1 kj4 a1 a2 l3 (wrap64 (a1 - a0_0)) (decide ((wrap64 (a1 - a0_0)) > a0_2)) a0_0 l0_1 a0_2 a0_3 l0_4 bt147.1 bt147.2.1 bt147.2.2.1 bt147.2.2.2.1 bt147.2.2.2.2))) = some (r1, r2, r3, r4, r5, r6) := by rw [if_neg (show ¬ (false = true) by decide)] at H; exact H
        clear H
        have H := H1
        clear H1
        replace H := Option.bind_eq_some_iff.mp H
        obtain ⟨⟨t147, t148, t151, t152, t153⟩, A200, H⟩ := H
        replace H : (if a1 < a0_0 then (spec_MouthHear.j1 kj4 a1 a2 l3 (wrap64 (a1 - a0_0)) true a0_0 l0_1 a0_2 a0_3 l0_4 t147 t148 t151 t152 t153) else (spec_MouthHear.j1 kj4 a1 a2 l3 (wrap64 (a1 - a0_0)) (decide ((wrap64 (a1 - a0_0)) > a0_2)) a0_0 l0_1 a0_2 a0_3 l0_4 t147 t148 t151 t152 t153)) = some (r1, r2, r3, r4, r5, r6) := H
        have A20 := Aside0.mk A200
        clear A200
        have HC21 := Aside0.mk H
        clear H
        have hnb22 := NB143_144.out
        have hnc22 := NB144_143.out
        have hcz23_0 : wc.cell? ⟨gb143, 0, none⟩ = some (.int .i64 a0_0) := (blk_cell BK143.out 0).trans rfl
        have hcz23_1 : wc.cell? ⟨gb143, 1, none⟩ = some (.slice A0_1 l0_1.length c0_1) := (blk_cell BK143.out 1).trans rfl
        have hcz23_2 : wc.cell? ⟨gb143, 2, none⟩ = some (.int .i64 a0_2) := (blk_cell BK143.out 2).trans rfl
        have hcz23_3 : wc.cell? ⟨gb143, 3, none⟩ = some (.int .i64 a0_3) := (blk_cell BK143.out 3).trans rfl
        have hcz23_4 : wc.cell? ⟨gb143, 4, none⟩ = some (.slice A0_4 l0_4.length c0_4) := (blk_cell BK143.out 4).trans rfl
        have hfz23_0 := blk_frozen BK143.out 0
        have hfz23_1 := blk_frozen BK143.out 1
        have hfz23_2 := blk_frozen BK143.out 2
        have hfz23_3 := blk_frozen BK143.out 3
        have hfz23_4 := blk_frozen BK143.out 4
        go_upto_region 5 with (first | (go_at_call 34; (with_reducible refine (spec_l13Copy.calls a0_0 _ _ l0_1 a0_2 a0_3 _ _ l0_4 t147 t148 t151 t152 t153 _ ?side1 ?side2 ?side3 ?side4 A20.out).mono ?_); (case side1 => exact kC_ (Kd.C_below HR0_1.out HB.out)); (case side2 => exact HC0_1.out); (case side3 => exact kC_ (Kd.C_below HR0_4.out HB.out)); (case side4 => exact HC0_4.out); rintro e w24 ⟨v149, v154, rfl, ho0, ho1, hb⟩; have n0_ := Aside0.mk (Kd.R_lower ho0 (below_size (hb2_ HB.out GE143.out GE144.out))); have n1_ := Aside0.mk (Kd.R_lower ho1 (below_size (hb2_ HB.out GE143.out GE144.out))); have n2_ := Aside0.mk (blk_below (g := gb143) (o := .cells #[.int .i64 a0_0, .slice A0_1 l0_1.length c0_1, .int .i64 a0_2, .int .i64 a0_3, .slice A0_4 l0_4.length c0_4] 25 (0, 0)) (kb_ BK143.out) hb); have n3_ := Aside0.mk (blk_below (g := gb144) (o := .cells #[.int .i64 0, .slice none 0 0, .int .i64 0, .int .i64 0, .slice none 0 0] 25 (0, 0)) (kb_ BK144.out) hb); have n4_ := Aside0.mk (below_step (hb2_ HB.out GE143.out GE144.out) hb); clear BK143; clear BK144; clear HB; have HO150 := n0_; have HO155 := n1_; have BK143 := n2_; have BK144 := n3_; have HB := n4_; clear n0_ n1_ n2_ n3_ n4_; (try clear hb); (try clear hb2); (try clear hk); (try clear hi); (try clear ho0); (try clear ho1)) | ((with_reducible refine gate_dst (N := 10) rfl ?_); (try (refine gate_guard (by rfl) ?_; dsimp only)); refine box_event ?hg (N := 10) ?hd (cs := #[.int .i64 0, .slice none 0 0, .int .i64 0, .int .i64 0, .slice none 0 0]) (t := 25) ?hr ?_; (case hd => rfl); (case hg => rfl); (case hr => first | (go_simp; done) | (go_simp; rfl)); intro gb156 hg w25 hbox hb; have n0_ := Aside0.mk (Kd.R_below (kR_ HO150.out) hb); have n1_ := Aside0.mk (Kd.R_below (kR_ HO155.out) hb); have n2_ := Aside0.mk (blk_below (g := gb143) (o := .cells #[.int .i64 a0_0, .slice A0_1 l0_1.length c0_1, .int .i64 a0_2, .int .i64 a0_3, .slice A0_4 l0_4.length c0_4] 25 (0, 0)) (kb_ BK143.out) hb); have n3_ := Aside0.mk (blk_below (g := gb144) (o := .cells #[.int .i64 0, .slice none 0 0, .int .i64 0, .int .i64 0, .slice none 0 0] 25 (0, 0)) (kb_ BK144.out) hb); have n4_ := Aside0.mk (below_step (hb2_ HB.out GE143.out GE144.out) hb); have n5_ := Aside0.mk (hbox); have n6_ := Aside0.mk ((by rw [hg]; exact (below_size (hb2_ HB.out GE143.out GE144.out)) : w.heap.size ≤ gb156)); have n7_ := Aside0.mk ((by rw [hg]; exact (below_size (hb2_ HB.out GE143.out GE144.out)) : w.heap.size ≤ gb156)); have n8_ := Aside0.mk ((by rw [hg]; exact Nat.ne_of_lt (blk_lt (g := gb143) (o := .cells #[.int .i64 a0_0, .slice A0_1 l0_1.length c0_1, .int .i64 a0_2, .int .i64 a0_3, .slice A0_4 l0_4.length c0_4] 25 (0, 0)) (kb_ BK143.out)) : gb143 ≠ gb156)); have n9_ := Aside0.mk ((by rw [hg]; exact Nat.ne_of_gt (blk_lt (g := gb143) (o := .cells #[.int .i64 a0_0, .slice A0_1 l0_1.length c0_1, .int .i64 a0_2, .int .i64 a0_3, .slice A0_4 l0_4.length c0_4] 25 (0, 0)) (kb_ BK143.out)) : gb156 ≠ gb143)); have n10_ := Aside0.mk ((by rw [hg]; exact Nat.ne_of_lt (blk_lt (g := gb144) (o := .cells #[.int .i64 0, .slice none 0 0, .int .i64 0, .int .i64 0, .slice none 0 0] 25 (0, 0)) (kb_ BK144.out)) : gb144 ≠ gb156)); have n11_ := Aside0.mk ((by rw [hg]; exact Nat.ne_of_gt (blk_lt (g := gb144) (o := .cells #[.int .i64 0, .slice none 0 0, .int .i64 0, .int .i64 0, .slice none 0 0] 25 (0, 0)) (kb_ BK144.out)) : gb156 ≠ gb144)); clear HO150; clear HO155; clear BK143; clear BK144; clear HB; have HO150 := n0_; have HO155 := n1_; have BK143 := n2_; have BK144 := n3_; have HB := n4_; have BK156 := n5_; have GW156 := n6_; have GE156 := n7_; have NB143_156 := n8_; have NB156_143 := n9_; have NB144_156 := n10_; have NB156_144 := n11_; clear n0_ n1_ n2_ n3_ n4_ n5_ n6_ n7_ n8_ n9_ n10_ n11_; clear hb hbox hg; have hnb26 := NB156_143.out; have hnc26 := NB143_156.out; have hnb27 := NB156_144.out; have hnc27 := NB144_156.out; have hcz28_0 : w25.cell? ⟨gb156, 0, none⟩ = some (.int .i64 0) := (blk_cell BK156.out 0).trans rfl; have hcz28_1 : w25.cell? ⟨gb156, 1, none⟩ = some (.slice none 0 0) := (blk_cell BK156.out 1).trans rfl; have hcz28_2 : w25.cell? ⟨gb156, 2, none⟩ = some (.int .i64 0) := (blk_cell BK156.out 2).trans rfl; have hcz28_3 : w25.cell? ⟨gb156, 3, none⟩ = some (.int .i64 0) := (blk_cell BK156.out 3).trans rfl; have hcz28_4 : w25.cell? ⟨gb156, 4, none⟩ = some (.slice none 0 0) := (blk_cell BK156.out 4).trans rfl; have hfz28_0 := blk_frozen BK156.out 0; have hfz28_1 := blk_frozen BK156.out 1; have hfz28_2 := blk_frozen BK156.out 2; have hfz28_3 := blk_frozen BK156.out 3; have hfz28_4 := blk_frozen BK156.out 4; obtain ⟨Ao29, co29, eo29⟩ := Kd.R_slice HO150.out; subst eo29; obtain ⟨Ao30, co30, eo30⟩ := Kd.R_slice HO155.out; subst eo30; have hcz31_0 : w25.cell? ⟨gb143, 0, none⟩ = some (.int .i64 a0_0) := (blk_cell BK143.out 0).trans rfl; have hcz31_1 : w25.cell? ⟨gb143, 1, none⟩ = some (.slice A0_1 l0_1.length c0_1) := (blk_cell BK143.out 1).trans rfl; have hcz31_2 : w25.cell? ⟨gb143, 2, none⟩ = some (.int .i64 a0_2) := (blk_cell BK143.out 2).trans rfl; have hcz31_3 : w25.cell? ⟨gb143, 3, none⟩ = some (.int .i64 a0_3) := (blk_cell BK143.out 3).trans rfl; have hcz31_4 : w25.cell? ⟨gb143, 4, none⟩ = some (.slice A0_4 l0_4.length c0_4) := (blk_cell BK143.out 4).trans rfl; have hfz31_0 := blk_frozen BK143.out 0; have hfz31_1 := blk_frozen BK143.out 1; have hfz31_2 := blk_frozen BK143.out 2; have hfz31_3 := blk_frozen BK143.out 3; have hfz31_4 := blk_frozen BK143.out 4))
        repeat (go_quiet (first | (go_at_call 34; (with_reducible refine (spec_l13Copy.calls a0_0 _ _ l0_1 a0_2 a0_3 _ _ l0_4 t147 t148 t151 t152 t153 _ ?side1 ?side2 ?side3 ?side4 A20.out).mono ?_); (case side1 => exact kC_ (Kd.C_below HR0_1.out HB.out)); (case side2 => exact HC0_1.out); (case side3 => exact kC_ (Kd.C_below HR0_4.out HB.out)); (case side4 => exact HC0_4.out); rintro e w24 ⟨v149, v154, rfl, ho0, ho1, hb⟩; have n0_ := Aside0.mk (Kd.R_lower ho0 (below_size (hb2_ HB.out GE143.out GE144.out))); have n1_ := Aside0.mk (Kd.R_lower ho1 (below_size (hb2_ HB.out GE143.out GE144.out))); have n2_ := Aside0.mk (blk_below (g := gb143) (o := .cells #[.int .i64 a0_0, .slice A0_1 l0_1.length c0_1, .int .i64 a0_2, .int .i64 a0_3, .slice A0_4 l0_4.length c0_4] 25 (0, 0)) (kb_ BK143.out) hb); have n3_ := Aside0.mk (blk_below (g := gb144) (o := .cells #[.int .i64 0, .slice none 0 0, .int .i64 0, .int .i64 0, .slice none 0 0] 25 (0, 0)) (kb_ BK144.out) hb); have n4_ := Aside0.mk (below_step (hb2_ HB.out GE143.out GE144.out) hb); clear BK143; clear BK144; clear HB; have HO150 := n0_; have HO155 := n1_; have BK143 := n2_; have BK144 := n3_; have HB := n4_; clear n0_ n1_ n2_ n3_ n4_; (try clear hb); (try clear hb2); (try clear hk); (try clear hi); (try clear ho0); (try clear ho1)) | ((with_reducible refine gate_dst (N := 10) rfl ?_); (try (refine gate_guard (by rfl) ?_; dsimp only)); refine box_event ?hg (N := 10) ?hd (cs := #[.int .i64 0, .slice none 0 0, .int .i64 0, .int .i64 0, .slice none 0 0]) (t := 25) ?hr ?_; (case hd => rfl); (case hg => rfl); (case hr => first | (go_simp; done) | (go_simp; rfl)); intro gb156 hg w25 hbox hb; have n0_ := Aside0.mk (Kd.R_below (kR_ HO150.out) hb); have n1_ := Aside0.mk (Kd.R_below (kR_ HO155.out) hb); have n2_ := Aside0.mk (blk_below (g := gb143) (o := .cells #[.int .i64 a0_0, .slice A0_1 l0_1.length c0_1, .int .i64 a0_2, .int .i64 a0_3, .slice A0_4 l0_4.length c0_4] 25 (0, 0)) (kb_ BK143.out) hb); have n3_ := Aside0.mk (blk_below (g := gb144) (o := .cells #[.int .i64 0, .slice none 0 0, .int .i64 0, .int .i64 0, .slice none 0 0] 25 (0, 0)) (kb_ BK144.out) hb); have n4_ := Aside0.mk (below_step (hb2_ HB.out GE143.out GE144.out) hb); have n5_ := Aside0.mk (hbox); have n6_ := Aside0.mk ((by rw [hg]; exact (below_size (hb2_ HB.out GE143.out GE144.out)) : w.heap.size ≤ gb156)); have n7_ := Aside0.mk ((by rw [hg]; exact (below_size (hb2_ HB.out GE143.out GE144.out)) : w.heap.size ≤ gb156)); have n8_ := Aside0.mk ((by rw [hg]; exact Nat.ne_of_lt (blk_lt (g := gb143) (o := .cells #[.int .i64 a0_0, .slice A0_1 l0_1.length c0_1, .int .i64 a0_2, .int .i64 a0_3, .slice A0_4 l0_4.length c0_4] 25 (0, 0)) (kb_ BK143.out)) : gb143 ≠ gb156)); have n9_ := Aside0.mk ((by rw [hg]; exact Nat.ne_of_gt (blk_lt (g := gb143) (o := .cells #[.int .i64 a0_0, .slice A0_1 l0_1.length c0_1, .int .i64 a0_2, .int .i64 a0_3, .slice A0_4 l0_4.length c0_4] 25 (0, 0)) (kb_ BK143.out)) : gb156 ≠ gb143)); have n10_ := Aside0.mk ((by rw [hg]; exact Nat.ne_of_lt (blk_lt (g := gb144) (o := .cells #[.int .i64 0, .slice none 0 0, .int .i64 0, .int .i64 0, .slice none 0 0] 25 (0, 0)) (kb_ BK144.out)) : gb144 ≠ gb156)); have n11_ := Aside0.mk ((by rw [hg]; exact Nat.ne_of_gt (blk_lt (g := gb144) (o := .cells #[.int .i64 0, .slice none 0 0, .int .i64 0, .int .i64 0, .slice none 0 0] 25 (0, 0)) (kb_ BK144.out)) : gb156 ≠ gb144)); clear HO150; clear HO155; clear BK143; clear BK144; clear HB; have HO150 := n0_; have HO155 := n1_; have BK143 := n2_; have BK144 := n3_; have HB := n4_; have BK156 := n5_; have GW156 := n6_; have GE156 := n7_; have NB143_156 := n8_; have NB156_143 := n9_; have NB144_156 := n10_; have NB156_144 := n11_; clear n0_ n1_ n2_ n3_ n4_ n5_ n6_ n7_ n8_ n9_ n10_ n11_; clear hb hbox hg; have hnb26 := NB156_143.out; have hnc26 := NB143_156.out; have hnb27 := NB156_144.out; have hnc27 := NB144_156.out; have hcz28_0 : w25.cell? ⟨gb156, 0, none⟩ = some (.int .i64 0) := (blk_cell BK156.out 0).trans rfl; have hcz28_1 : w25.cell? ⟨gb156, 1, none⟩ = some (.slice none 0 0) := (blk_cell BK156.out 1).trans rfl; have hcz28_2 : w25.cell? ⟨gb156, 2, none⟩ = some (.int .i64 0) := (blk_cell BK156.out 2).trans rfl; have hcz28_3 : w25.cell? ⟨gb156, 3, none⟩ = some (.int .i64 0) := (blk_cell BK156.out 3).trans rfl; have hcz28_4 : w25.cell? ⟨gb156, 4, none⟩ = some (.slice none 0 0) := (blk_cell BK156.out 4).trans rfl; have hfz28_0 := blk_frozen BK156.out 0; have hfz28_1 := blk_frozen BK156.out 1; have hfz28_2 := blk_frozen BK156.out 2; have hfz28_3 := blk_frozen BK156.out 3; have hfz28_4 := blk_frozen BK156.out 4; obtain ⟨Ao29, co29, eo29⟩ := Kd.R_slice HO150.out; subst eo29; obtain ⟨Ao30, co30, eo30⟩ := Kd.R_slice HO155.out; subst eo30; have hcz31_0 : w25.cell? ⟨gb143, 0, none⟩ = some (.int .i64 a0_0) := (blk_cell BK143.out 0).trans rfl; have hcz31_1 : w25.cell? ⟨gb143, 1, none⟩ = some (.slice A0_1 l0_1.length c0_1) := (blk_cell BK143.out 1).trans rfl; have hcz31_2 : w25.cell? ⟨gb143, 2, none⟩ = some (.int .i64 a0_2) := (blk_cell BK143.out 2).trans rfl; have hcz31_3 : w25.cell? ⟨gb143, 3, none⟩ = some (.int .i64 a0_3) := (blk_cell BK143.out 3).trans rfl; have hcz31_4 : w25.cell? ⟨gb143, 4, none⟩ = some (.slice A0_4 l0_4.length c0_4) := (blk_cell BK143.out 4).trans rfl; have hfz31_0 := blk_frozen BK143.out 0; have hfz31_1 := blk_frozen BK143.out 1; have hfz31_2 := blk_frozen BK143.out 2; have hfz31_3 := blk_frozen BK143.out 3; have hfz31_4 := blk_frozen BK143.out 4)); go_upto_region 5 with (first | (go_at_call 34; (with_reducible refine (spec_l13Copy.calls a0_0 _ _ l0_1 a0_2 a0_3 _ _ l0_4 t147 t148 t151 t152 t153 _ ?side1 ?side2 ?side3 ?side4 A20.out).mono ?_); (case side1 => exact kC_ (Kd.C_below HR0_1.out HB.out)); (case side2 => exact HC0_1.out); (case side3 => exact kC_ (Kd.C_below HR0_4.out HB.out)); (case side4 => exact HC0_4.out); rintro e w24 ⟨v149, v154, rfl, ho0, ho1, hb⟩; have n0_ := Aside0.mk (Kd.R_lower ho0 (below_size (hb2_ HB.out GE143.out GE144.out))); have n1_ := Aside0.mk (Kd.R_lower ho1 (below_size (hb2_ HB.out GE143.out GE144.out))); have n2_ := Aside0.mk (blk_below (g := gb143) (o := .cells #[.int .i64 a0_0, .slice A0_1 l0_1.length c0_1, .int .i64 a0_2, .int .i64 a0_3, .slice A0_4 l0_4.length c0_4] 25 (0, 0)) (kb_ BK143.out) hb); have n3_ := Aside0.mk (blk_below (g := gb144) (o := .cells #[.int .i64 0, .slice none 0 0, .int .i64 0, .int .i64 0, .slice none 0 0] 25 (0, 0)) (kb_ BK144.out) hb); have n4_ := Aside0.mk (below_step (hb2_ HB.out GE143.out GE144.out) hb); clear BK143; clear BK144; clear HB; have HO150 := n0_; have HO155 := n1_; have BK143 := n2_; have BK144 := n3_; have HB := n4_; clear n0_ n1_ n2_ n3_ n4_; (try clear hb); (try clear hb2); (try clear hk); (try clear hi); (try clear ho0); (try clear ho1)) | ((with_reducible refine gate_dst (N := 10) rfl ?_); (try (refine gate_guard (by rfl) ?_; dsimp only)); refine box_event ?hg (N := 10) ?hd (cs := #[.int .i64 0, .slice none 0 0, .int .i64 0, .int .i64 0, .slice none 0 0]) (t := 25) ?hr ?_; (case hd => rfl); (case hg => rfl); (case hr => first | (go_simp; done) | (go_simp; rfl)); intro gb156 hg w25 hbox hb; have n0_ := Aside0.mk (Kd.R_below (kR_ HO150.out) hb); have n1_ := Aside0.mk (Kd.R_below (kR_ HO155.out) hb); have n2_ := Aside0.mk (blk_below (g := gb143) (o := .cells #[.int .i64 a0_0, .slice A0_1 l0_1.length c0_1, .int .i64 a0_2, .int .i64 a0_3, .slice A0_4 l0_4.length c0_4] 25 (0, 0)) (kb_ BK143.out) hb); have n3_ := Aside0.mk (blk_below (g := gb144) (o := .cells #[.int .i64 0, .slice none 0 0, .int .i64 0, .int .i64 0, .slice none 0 0] 25 (0, 0)) (kb_ BK144.out) hb); have n4_ := Aside0.mk (below_step (hb2_ HB.out GE143.out GE144.out) hb); have n5_ := Aside0.mk (hbox); have n6_ := Aside0.mk ((by rw [hg]; exact (below_size (hb2_ HB.out GE143.out GE144.out)) : w.heap.size ≤ gb156)); have n7_ := Aside0.mk ((by rw [hg]; exact (below_size (hb2_ HB.out GE143.out GE144.out)) : w.heap.size ≤ gb156)); have n8_ := Aside0.mk ((by rw [hg]; exact Nat.ne_of_lt (blk_lt (g := gb143) (o := .cells #[.int .i64 a0_0, .slice A0_1 l0_1.length c0_1, .int .i64 a0_2, .int .i64 a0_3, .slice A0_4 l0_4.length c0_4] 25 (0, 0)) (kb_ BK143.out)) : gb143 ≠ gb156)); have n9_ := Aside0.mk ((by rw [hg]; exact Nat.ne_of_gt (blk_lt (g := gb143) (o := .cells #[.int .i64 a0_0, .slice A0_1 l0_1.length c0_1, .int .i64 a0_2, .int .i64 a0_3, .slice A0_4 l0_4.length c0_4] 25 (0, 0)) (kb_ BK143.out)) : gb156 ≠ gb143)); have n10_ := Aside0.mk ((by rw [hg]; exact Nat.ne_of_lt (blk_lt (g := gb144) (o := .cells #[.int .i64 0, .slice none 0 0, .int .i64 0, .int .i64 0, .slice none 0 0] 25 (0, 0)) (kb_ BK144.out)) : gb144 ≠ gb156)); have n11_ := Aside0.mk ((by rw [hg]; exact Nat.ne_of_gt (blk_lt (g := gb144) (o := .cells #[.int .i64 0, .slice none 0 0, .int .i64 0, .int .i64 0, .slice none 0 0] 25 (0, 0)) (kb_ BK144.out)) : gb156 ≠ gb144)); clear HO150; clear HO155; clear BK143; clear BK144; clear HB; have HO150 := n0_; have HO155 := n1_; have BK143 := n2_; have BK144 := n3_; have HB := n4_; have BK156 := n5_; have GW156 := n6_; have GE156 := n7_; have NB143_156 := n8_; have NB156_143 := n9_; have NB144_156 := n10_; have NB156_144 := n11_; clear n0_ n1_ n2_ n3_ n4_ n5_ n6_ n7_ n8_ n9_ n10_ n11_; clear hb hbox hg; have hnb26 := NB156_143.out; have hnc26 := NB143_156.out; have hnb27 := NB156_144.out; have hnc27 := NB144_156.out; have hcz28_0 : w25.cell? ⟨gb156, 0, none⟩ = some (.int .i64 0) := (blk_cell BK156.out 0).trans rfl; have hcz28_1 : w25.cell? ⟨gb156, 1, none⟩ = some (.slice none 0 0) := (blk_cell BK156.out 1).trans rfl; have hcz28_2 : w25.cell? ⟨gb156, 2, none⟩ = some (.int .i64 0) := (blk_cell BK156.out 2).trans rfl; have hcz28_3 : w25.cell? ⟨gb156, 3, none⟩ = some (.int .i64 0) := (blk_cell BK156.out 3).trans rfl; have hcz28_4 : w25.cell? ⟨gb156, 4, none⟩ = some (.slice none 0 0) := (blk_cell BK156.out 4).trans rfl; have hfz28_0 := blk_frozen BK156.out 0; have hfz28_1 := blk_frozen BK156.out 1; have hfz28_2 := blk_frozen BK156.out 2; have hfz28_3 := blk_frozen BK156.out 3; have hfz28_4 := blk_frozen BK156.out 4; obtain ⟨Ao29, co29, eo29⟩ := Kd.R_slice HO150.out; subst eo29; obtain ⟨Ao30, co30, eo30⟩ := Kd.R_slice HO155.out; subst eo30; have hcz31_0 : w25.cell? ⟨gb143, 0, none⟩ = some (.int .i64 a0_0) := (blk_cell BK143.out 0).trans rfl; have hcz31_1 : w25.cell? ⟨gb143, 1, none⟩ = some (.slice A0_1 l0_1.length c0_1) := (blk_cell BK143.out 1).trans rfl; have hcz31_2 : w25.cell? ⟨gb143, 2, none⟩ = some (.int .i64 a0_2) := (blk_cell BK143.out 2).trans rfl; have hcz31_3 : w25.cell? ⟨gb143, 3, none⟩ = some (.int .i64 a0_3) := (blk_cell BK143.out 3).trans rfl; have hcz31_4 : w25.cell? ⟨gb143, 4, none⟩ = some (.slice A0_4 l0_4.length c0_4) := (blk_cell BK143.out 4).trans rfl; have hfz31_0 := blk_frozen BK143.out 0; have hfz31_1 := blk_frozen BK143.out 1; have hfz31_2 := blk_frozen BK143.out 2; have hfz31_3 := blk_frozen BK143.out 3; have hfz31_4 := blk_frozen BK143.out 4)))
        (try simp only [Act.put, List.setIfInBounds_toArray, List.set_cons_zero, List.set_cons_succ])
        go_cut [39] (fun v39 wc => ∃ (kq : Nat) (x39_20 : Bool), v39 = .bool x39_20 ∧ Aside0 (spec_MouthHear.j1 kq a1 a2 l3 (wrap64 (a1 - a0_0)) x39_20 a0_0 l0_1 a0_2 a0_3 l0_4 t147 t148 t151 t152 t153 = some (r1, r2, r3, r4, r5, r6)) ∧ Aside0 (kq ≤ kj4) ∧ Aside0 (Kd.R (Kd.int .u8) 5 wc w.heap.size (fun _ => True) (.slice Ao29 t148.length co29) t148) ∧ Aside0 (Kd.R k60 60 wc w.heap.size (fun _ => True) (.slice Ao30 t153.length co30) t153) ∧ Aside0 (wc.heap[gb143]? = some (.cells #[.int .i64 a0_0, (.slice A0_1 l0_1.length c0_1), .int .i64 a0_2, .int .i64 a0_3, (.slice A0_4 l0_4.length c0_4)] 25 (0, 0))) ∧ Aside0 (wc.heap[gb144]? = some (.cells #[.int .i64 0, (.slice none 0 0), .int .i64 0, .int .i64 0, (.slice none 0 0)] 25 (0, 0))) ∧ Aside0 (wc.heap[gb156]? = some (.cells #[.int .i64 t147, (.slice Ao29 t148.length co29), .int .i64 t151, .int .i64 t152, (.slice Ao30 t153.length co30)] 25 (0, 0))) ∧ Aside0 (Below w.heap.size w wc))
        case first =>
          have H := HC21.out
          clear HC21
          by_cases c32 : a1 < a0_0
          · rw [if_pos c32] at H
            have c32b0 : decide (a1 < a0_0) = true := decide_eq_true c32
            clear c32
            (first | rw [c32b0] | (simp only [i64_w, i32_w]; rw [c32b0]) | skip)
            have H' := Aside0.mk H
            clear H
            have hnb33 := NB143_144.out
            have hnc33 := NB144_143.out
            have hnb34 := NB143_156.out
            have hnc34 := NB156_143.out
            have hcz35_0 : w25.cell? ⟨gb143, 0, none⟩ = some (.int .i64 a0_0) := (blk_cell BK143.out 0).trans rfl
            have hcz35_1 : w25.cell? ⟨gb143, 1, none⟩ = some (.slice A0_1 l0_1.length c0_1) := (blk_cell BK143.out 1).trans rfl
            have hcz35_2 : w25.cell? ⟨gb143, 2, none⟩ = some (.int .i64 a0_2) := (blk_cell BK143.out 2).trans rfl
            have hcz35_3 : w25.cell? ⟨gb143, 3, none⟩ = some (.int .i64 a0_3) := (blk_cell BK143.out 3).trans rfl
            have hcz35_4 : w25.cell? ⟨gb143, 4, none⟩ = some (.slice A0_4 l0_4.length c0_4) := (blk_cell BK143.out 4).trans rfl
            have hfz35_0 := blk_frozen BK143.out 0
            have hfz35_1 := blk_frozen BK143.out 1
            have hfz35_2 := blk_frozen BK143.out 2
            have hfz35_3 := blk_frozen BK143.out 3
            have hfz35_4 := blk_frozen BK143.out 4
            go_wp2
            repeat (go_quiet (fail); try go_wp2)
            go_meet
            case rel => exact ⟨_, (true), (by first | rfl | (simp; done) | (simp [*]; done)), H', ⟨by have := HJ4.out; first | omega | exact Nat.le_refl _⟩, ⟨by refine kR_ ?_; exact Kd.R_mono (Kd.R_f gb156 4 (.slice Ao30 t153.length co30) (Kd.R_f gb156 3 (.int .i64 t152) (Kd.R_f gb156 2 (.int .i64 t151) (Kd.R_f gb156 1 (.slice Ao29 t148.length co29) (Kd.R_f gb156 0 (.int .i64 t147) (Kd.R_types HO150.out BK156.out (by decide))))))) (fun _ hk => trivial)⟩, ⟨by refine kR_ ?_; exact Kd.R_mono (Kd.R_f gb156 4 (.slice Ao30 t153.length co30) (Kd.R_f gb156 3 (.int .i64 t152) (Kd.R_f gb156 2 (.int .i64 t151) (Kd.R_f gb156 1 (.slice Ao29 t148.length co29) (Kd.R_f gb156 0 (.int .i64 t147) (Kd.R_types HO155.out BK156.out (by decide))))))) (fun _ hk => trivial)⟩, ⟨by refine kb_ ?_; refine blk_far ?_ NB143_156.out _; refine kb_ ?_; refine blk_far ?_ NB143_156.out _; refine kb_ ?_; refine blk_far ?_ NB143_156.out _; refine kb_ ?_; refine blk_far ?_ NB143_156.out _; refine kb_ ?_; refine blk_far ?_ NB143_156.out _; refine kb_ ?_; exact BK143.out⟩, ⟨by refine kb_ ?_; refine blk_far ?_ NB144_156.out _; refine kb_ ?_; refine blk_far ?_ NB144_156.out _; refine kb_ ?_; refine blk_far ?_ NB144_156.out _; refine kb_ ?_; refine blk_far ?_ NB144_156.out _; refine kb_ ?_; refine blk_far ?_ NB144_156.out _; refine kb_ ?_; exact BK144.out⟩, ⟨by refine kb_ ?_; refine blk_put (cs := #[.int .i64 t147, .slice Ao29 t148.length co29, .int .i64 t151, .int .i64 t152, .slice none 0 0]) ?_ 4 _ rfl; refine kb_ ?_; refine blk_put (cs := #[.int .i64 t147, .slice Ao29 t148.length co29, .int .i64 t151, .int .i64 0, .slice none 0 0]) ?_ 3 _ rfl; refine kb_ ?_; refine blk_put (cs := #[.int .i64 t147, .slice Ao29 t148.length co29, .int .i64 0, .int .i64 0, .slice none 0 0]) ?_ 2 _ rfl; refine kb_ ?_; refine blk_put (cs := #[.int .i64 t147, .slice none 0 0, .int .i64 0, .int .i64 0, .slice none 0 0]) ?_ 1 _ rfl; refine kb_ ?_; refine blk_put (cs := #[.int .i64 0, .slice none 0 0, .int .i64 0, .int .i64 0, .slice none 0 0]) ?_ 0 _ rfl; refine kb_ ?_; exact BK156.out⟩, ⟨by repeat (first | (with_reducible first | exact HB.out | apply below_alloc | apply pw_below_drewN | apply below_drew1 | refine below_set ?_ GE143.out | refine below_set ?_ GE144.out | refine below_set ?_ GE156.out) | exact HB.out)⟩⟩
          · rw [if_neg c32] at H
            have c32b0 : decide (a1 < a0_0) = false := decide_eq_false c32
            clear c32
            (first | rw [c32b0] | (simp only [i64_w, i32_w]; rw [c32b0]) | skip)
            have H' := Aside0.mk H
            clear H
            have hnb36 := NB143_144.out
            have hnc36 := NB144_143.out
            have hnb37 := NB143_156.out
            have hnc37 := NB156_143.out
            have hcz38_0 : w25.cell? ⟨gb143, 0, none⟩ = some (.int .i64 a0_0) := (blk_cell BK143.out 0).trans rfl
            have hcz38_1 : w25.cell? ⟨gb143, 1, none⟩ = some (.slice A0_1 l0_1.length c0_1) := (blk_cell BK143.out 1).trans rfl
            have hcz38_2 : w25.cell? ⟨gb143, 2, none⟩ = some (.int .i64 a0_2) := (blk_cell BK143.out 2).trans rfl
            have hcz38_3 : w25.cell? ⟨gb143, 3, none⟩ = some (.int .i64 a0_3) := (blk_cell BK143.out 3).trans rfl
            have hcz38_4 : w25.cell? ⟨gb143, 4, none⟩ = some (.slice A0_4 l0_4.length c0_4) := (blk_cell BK143.out 4).trans rfl
            have hfz38_0 := blk_frozen BK143.out 0
            have hfz38_1 := blk_frozen BK143.out 1
            have hfz38_2 := blk_frozen BK143.out 2
            have hfz38_3 := blk_frozen BK143.out 3
            have hfz38_4 := blk_frozen BK143.out 4
            go_wp2
            repeat (go_quiet (fail); try go_wp2)
            go_meet
            case rel => exact ⟨_, (decide ((wrap64 (a1 - a0_0)) > a0_2)), (by first | rfl | (simp; done) | (simp [*]; done)), H', ⟨by have := HJ4.out; first | omega | exact Nat.le_refl _⟩, ⟨by refine kR_ ?_; exact Kd.R_mono (Kd.R_f gb156 4 (.slice Ao30 t153.length co30) (Kd.R_f gb156 3 (.int .i64 t152) (Kd.R_f gb156 2 (.int .i64 t151) (Kd.R_f gb156 1 (.slice Ao29 t148.length co29) (Kd.R_f gb156 0 (.int .i64 t147) (Kd.R_types HO150.out BK156.out (by decide))))))) (fun _ hk => trivial)⟩, ⟨by refine kR_ ?_; exact Kd.R_mono (Kd.R_f gb156 4 (.slice Ao30 t153.length co30) (Kd.R_f gb156 3 (.int .i64 t152) (Kd.R_f gb156 2 (.int .i64 t151) (Kd.R_f gb156 1 (.slice Ao29 t148.length co29) (Kd.R_f gb156 0 (.int .i64 t147) (Kd.R_types HO155.out BK156.out (by decide))))))) (fun _ hk => trivial)⟩, ⟨by refine kb_ ?_; refine blk_far ?_ NB143_156.out _; refine kb_ ?_; refine blk_far ?_ NB143_156.out _; refine kb_ ?_; refine blk_far ?_ NB143_156.out _; refine kb_ ?_; refine blk_far ?_ NB143_156.out _; refine kb_ ?_; refine blk_far ?_ NB143_156.out _; refine kb_ ?_; exact BK143.out⟩, ⟨by refine kb_ ?_; refine blk_far ?_ NB144_156.out _; refine kb_ ?_; refine blk_far ?_ NB144_156.out _; refine kb_ ?_; refine blk_far ?_ NB144_156.out _; refine kb_ ?_; refine blk_far ?_ NB144_156.out _; refine kb_ ?_; refine blk_far ?_ NB144_156.out _; refine kb_ ?_; exact BK144.out⟩, ⟨by refine kb_ ?_; refine blk_put (cs := #[.int .i64 t147, .slice Ao29 t148.length co29, .int .i64 t151, .int .i64 t152, .slice none 0 0]) ?_ 4 _ rfl; refine kb_ ?_; refine blk_put (cs := #[.int .i64 t147, .slice Ao29 t148.length co29, .int .i64 t151, .int .i64 0, .slice none 0 0]) ?_ 3 _ rfl; refine kb_ ?_; refine blk_put (cs := #[.int .i64 t147, .slice Ao29 t148.length co29, .int .i64 0, .int .i64 0, .slice none 0 0]) ?_ 2 _ rfl; refine kb_ ?_; refine blk_put (cs := #[.int .i64 t147, .slice none 0 0, .int .i64 0, .int .i64 0, .slice none 0 0]) ?_ 1 _ rfl; refine kb_ ?_; refine blk_put (cs := #[.int .i64 0, .slice none 0 0, .int .i64 0, .int .i64 0, .slice none 0 0]) ?_ 0 _ rfl; refine kb_ ?_; exact BK156.out⟩, ⟨by repeat (first | (with_reducible first | exact HB.out | apply below_alloc | apply pw_below_drewN | apply below_drew1 | refine below_set ?_ GE143.out | refine below_set ?_ GE144.out | refine below_set ?_ GE156.out) | exact HB.out)⟩⟩
        case rest =>
          clear HC21
          try clear c1
          try clear c2
          try clear p2
          try clear c3
          try clear p6
          try clear c9
          try clear c11
          try clear c14
          try clear c15
          try clear c17
          try clear c18
          try clear c22
          try clear c26
          try clear c27
          try clear c32
          try clear c32b0
          try clear c33
          try clear c34
          try clear c36
          try clear c37
          try clear hcz12_0
          try clear hcz12_1
          try clear hcz12_2
          try clear hcz12_3
          try clear hcz12_4
          try clear hcz15_0
          try clear hcz15_1
          try clear hcz15_2
          try clear hcz15_3
          try clear hcz15_4
          try clear hcz19_0
          try clear hcz19_1
          try clear hcz19_2
          try clear hcz19_3
          try clear hcz19_4
          try clear hcz23_0
          try clear hcz23_1
          try clear hcz23_2
          try clear hcz23_3
          try clear hcz23_4
          try clear hcz28_0
          try clear hcz28_1
          try clear hcz28_2
          try clear hcz28_3
          try clear hcz28_4
          try clear hcz31_0
          try clear hcz31_1
          try clear hcz31_2
          try clear hcz31_3
          try clear hcz31_4
          try clear hcz35_0
          try clear hcz35_1
          try clear hcz35_2
          try clear hcz35_3
          try clear hcz35_4
          try clear hcz38_0
          try clear hcz38_1
          try clear hcz38_2
          try clear hcz38_3
          try clear hcz38_4
          try clear hfz12_0
          try clear hfz12_1
          try clear hfz12_2
          try clear hfz12_3
          try clear hfz12_4
          try clear hfz15_0
          try clear hfz15_1
          try clear hfz15_2
          try clear hfz15_3
          try clear hfz15_4
          try clear hfz19_0
          try clear hfz19_1
          try clear hfz19_2
          try clear hfz19_3
          try clear hfz19_4
          try clear hfz23_0
          try clear hfz23_1
          try clear hfz23_2
          try clear hfz23_3
          try clear hfz23_4
          try clear hfz28_0
          try clear hfz28_1
          try clear hfz28_2
          try clear hfz28_3
          try clear hfz28_4
          try clear hfz31_0
          try clear hfz31_1
          try clear hfz31_2
          try clear hfz31_3
          try clear hfz31_4
          try clear hfz35_0
          try clear hfz35_1
          try clear hfz35_2
          try clear hfz35_3
          try clear hfz35_4
          try clear hfz38_0
          try clear hfz38_1
          try clear hfz38_2
          try clear hfz38_3
          try clear hfz38_4
          try clear p2
          obtain ⟨kq, x39_20, rfl, HA, HJ20, HO_157001, HO_157004, BK143, BK144, BK156, HB⟩ := hcut
          cases kq with
          | zero => exact absurd HA.out (by simp [spec_MouthHear.j1])
          | succ kj20 =>
            have H := HA.out
            clear HA
            simp only [spec_MouthHear.j1] at H
            by_cases c39 : x39_20 = true
            · subst c39
              have H1 : (some (t147, t148, t151, t152, t153, 0)) = some (r1, r2, r3, r4, r5, r6) := by rw [if_pos rfl] at H; exact H
              clear H
              have H := H1
              clear H1
              simp only [Option.some.injEq, Prod.mk.injEq] at H
              obtain ⟨rfl, rfl, rfl, rfl, rfl, rfl⟩ := H
              have hnb40 := NB156_143.out
              have hnc40 := NB143_156.out
              have hnb41 := NB156_144.out
              have hnc41 := NB144_156.out
              have hcz42_0 : wc.cell? ⟨gb156, 0, none⟩ = some (.int .i64 t147) := (blk_cell BK156.out 0).trans rfl
              have hcz42_1 : wc.cell? ⟨gb156, 1, none⟩ = some (.slice Ao29 t148.length co29) := (blk_cell BK156.out 1).trans rfl
              have hcz42_2 : wc.cell? ⟨gb156, 2, none⟩ = some (.int .i64 t151) := (blk_cell BK156.out 2).trans rfl
              have hcz42_3 : wc.cell? ⟨gb156, 3, none⟩ = some (.int .i64 t152) := (blk_cell BK156.out 3).trans rfl
              have hcz42_4 : wc.cell? ⟨gb156, 4, none⟩ = some (.slice Ao30 t153.length co30) := (blk_cell BK156.out 4).trans rfl
              have hfz42_0 := blk_frozen BK156.out 0
              have hfz42_1 := blk_frozen BK156.out 1
              have hfz42_2 := blk_frozen BK156.out 2
              have hfz42_3 := blk_frozen BK156.out 3
              have hfz42_4 := blk_frozen BK156.out 4
              have hnb43 := NB144_143.out
              have hnc43 := NB143_144.out
              have hcz44_0 : wc.cell? ⟨gb144, 0, none⟩ = some (.int .i64 0) := (blk_cell BK144.out 0).trans rfl
              have hcz44_1 : wc.cell? ⟨gb144, 1, none⟩ = some (.slice none 0 0) := (blk_cell BK144.out 1).trans rfl
              have hcz44_2 : wc.cell? ⟨gb144, 2, none⟩ = some (.int .i64 0) := (blk_cell BK144.out 2).trans rfl
              have hcz44_3 : wc.cell? ⟨gb144, 3, none⟩ = some (.int .i64 0) := (blk_cell BK144.out 3).trans rfl
              have hcz44_4 : wc.cell? ⟨gb144, 4, none⟩ = some (.slice none 0 0) := (blk_cell BK144.out 4).trans rfl
              have hfz44_0 := blk_frozen BK144.out 0
              have hfz44_1 := blk_frozen BK144.out 1
              have hfz44_2 := blk_frozen BK144.out 2
              have hfz44_3 := blk_frozen BK144.out 3
              have hfz44_4 := blk_frozen BK144.out 4
              go_wp2
              repeat (go_quiet (fail); try go_wp2)
              refine bodyPost_ret (results_ct rfl _ _ gb144 25 #[.int .i64 t147, .slice Ao29 t148.length co29, .int .i64 t151, .int .i64 t152, .slice Ao30 t153.length co30] (0, 0) _ rfl (by refine kb_ ?_; refine blk_put (cs := #[.int .i64 t147, .slice Ao29 t148.length co29, .int .i64 t151, .int .i64 t152, .slice none 0 0]) ?_ 4 _ rfl; refine kb_ ?_; refine blk_put (cs := #[.int .i64 t147, .slice Ao29 t148.length co29, .int .i64 t151, .int .i64 0, .slice none 0 0]) ?_ 3 _ rfl; refine kb_ ?_; refine blk_put (cs := #[.int .i64 t147, .slice Ao29 t148.length co29, .int .i64 0, .int .i64 0, .slice none 0 0]) ?_ 2 _ rfl; refine kb_ ?_; refine blk_put (cs := #[.int .i64 t147, .slice none 0 0, .int .i64 0, .int .i64 0, .slice none 0 0]) ?_ 1 _ rfl; refine kb_ ?_; refine blk_put (cs := #[.int .i64 0, .slice none 0 0, .int .i64 0, .int .i64 0, .slice none 0 0]) ?_ 0 _ rfl; refine kb_ ?_; exact BK144.out) Try.underlying25 rfl (by kernel_rfl)) rfl ?_
              exact ⟨_, _, by first | rfl | (simp [errW_none, errW_some] <;> rfl) | (simp [*, errW_none, errW_some] <;> rfl), by refine kR_ ?_; exact Kd.R_mono (Kd.R_f gb144 4 (.slice Ao30 t153.length co30) (Kd.R_f gb144 3 (.int .i64 t152) (Kd.R_f gb144 2 (.int .i64 t151) (Kd.R_f gb144 1 (.slice Ao29 t148.length co29) (Kd.R_f gb144 0 (.int .i64 t147) (Kd.R_types HO_157001.out BK144.out (by decide))))))) (fun _ hk => trivial), by refine kR_ ?_; exact Kd.R_mono (Kd.R_f gb144 4 (.slice Ao30 t153.length co30) (Kd.R_f gb144 3 (.int .i64 t152) (Kd.R_f gb144 2 (.int .i64 t151) (Kd.R_f gb144 1 (.slice Ao29 t148.length co29) (Kd.R_f gb144 0 (.int .i64 t147) (Kd.R_types HO_157004.out BK144.out (by decide))))))) (fun _ hk => trivial), by repeat (first | (with_reducible first | exact HB.out | apply below_alloc | apply pw_below_drewN | apply below_drew1 | refine below_set ?_ GE143.out | refine below_set ?_ GE144.out | refine below_set ?_ GE156.out) | exact HB.out)⟩
            · replace c39 := Bool.eq_false_iff.mpr c39
              subst c39
              have H1 : ((some (([] : List Int) : List Int)).bind fun y157 => (if 0 ≤ (wrap64 (a1 - a0_0)) then (if (wrap64 (a1 - a0_0)) ≤ (l0_1.length : Int) then (if y157.length + (l0_1.drop ((wrap64 (a1 - a0_0)) : Int).toNat).length < 140737488355328 then (spec_MouthHear.l0 kj20 a1 l3 (wrap64 (a1 - a0_0)) 0 a1 (y157 ++ (l0_1.drop ((wrap64 (a1 - a0_0)) : Int).toNat)) (wrap64 (a0_2 - (wrap64 (a1 - a0_0)))) a2 (([] : List (S60)))) else (none)) else (none)) else (none))) = some (r1, r2, r3, r4, r5, r6) := by rw [if_neg (show ¬ (false = true) by decide)] at H; exact H
              clear H
              have H := H1
              clear H1
              obtain ⟨y157, hy157⟩ : ∃ y_ : List Int, y_ = (([] : List Int)) := ⟨_, rfl⟩
              replace H : (if 0 ≤ (wrap64 (a1 - a0_0)) then (if (wrap64 (a1 - a0_0)) ≤ (l0_1.length : Int) then (if y157.length + (l0_1.drop ((wrap64 (a1 - a0_0)) : Int).toNat).length < 140737488355328 then (spec_MouthHear.l0 kj20 a1 l3 (wrap64 (a1 - a0_0)) 0 a1 (y157 ++ (l0_1.drop ((wrap64 (a1 - a0_0)) : Int).toNat)) (wrap64 (a0_2 - (wrap64 (a1 - a0_0)))) a2 (([] : List (S60)))) else (none)) else (none)) else (none)) = some (r1, r2, r3, r4, r5, r6) := by first | (rw [hy157]; with_reducible exact H) | (have H2_ := (Option.bind_some _ _).symm.trans H; rw [hy157]; with_reducible exact H2_) | (have H2_ := (Option.bind_some _ _).symm.trans H; with_reducible exact H2_) | with_reducible exact H | (rw [hy157]; exact H) | exact H
              have Ny157 := Aside0.mk hy157
              clear hy157
              obtain ⟨ji45, hji45⟩ : ∃ j_ : Int, (wrap64 (a1 - a0_0)) = j_ := ⟨_, rfl⟩
              replace H : (if 0 ≤ (ji45) then (if (ji45) ≤ (l0_1.length : Int) then (if y157.length + (l0_1.drop ((ji45) : Int).toNat).length < 140737488355328 then (spec_MouthHear.l0 kj20 a1 l3 (ji45) 0 a1 (y157 ++ (l0_1.drop ((ji45) : Int).toNat)) (wrap64 (a0_2 - (ji45))) a2 (([] : List (S60)))) else (none)) else (none)) else (none)) = some (r1, r2, r3, r4, r5, r6) := by first | (rw [hji45] at H; exact H) | (simp only [hji45] at H ⊢; exact H)
              have hji45w : (IntKind.i64.wrap (a1 - a0_0)) = ji45 := (i64_w _).trans hji45
              by_cases c46 : 0 ≤ (ji45)
              · rw [if_pos c46] at H
                have c46b0 := eq_true c46
                have c46b1 : decide (0 ≤ (ji45)) = true := decide_eq_true c46
                clear c46
                by_cases c47 : (ji45) ≤ (l0_1.length : Int)
                · rw [if_pos c47] at H
                  have c47b0 := eq_true c47
                  have c47b1 : decide ((ji45) ≤ (l0_1.length : Int)) = true := decide_eq_true c47
                  clear c47
                  by_cases c48 : y157.length + (l0_1.drop ((ji45) : Int).toNat).length < 140737488355328
                  · rw [if_pos c48] at H
                    have LMc48 := Aside0.mk c48
                    clear c48
                    obtain ⟨y161, hy161⟩ : ∃ y_ : List Int, y_ = (y157 ++ (l0_1.drop ((ji45) : Int).toNat)) := ⟨_, rfl⟩
                    replace H : (spec_MouthHear.l0 kj20 a1 l3 (ji45) 0 a1 y161 (wrap64 (a0_2 - (ji45))) a2 (([] : List (S60)))) = some (r1, r2, r3, r4, r5, r6) := by first | (rw [hy161]; with_reducible exact H) | (have H2_ := (Option.bind_some _ _).symm.trans H; rw [hy161]; with_reducible exact H2_) | (have H2_ := (Option.bind_some _ _).symm.trans H; with_reducible exact H2_) | with_reducible exact H | (rw [hy161]; exact H) | exact H
                    have Ny161 := Aside0.mk hy161
                    clear hy161
                    obtain ⟨y164, hy164⟩ : ∃ y_ : List (S60), y_ = (([] : List (S60))) := ⟨_, rfl⟩
                    replace H : (spec_MouthHear.l0 kj20 a1 l3 (ji45) 0 a1 y161 (wrap64 (a0_2 - (ji45))) a2 y164) = some (r1, r2, r3, r4, r5, r6) := by first | (rw [hy164]; with_reducible exact H) | (have H2_ := (Option.bind_some _ _).symm.trans H; rw [hy164]; with_reducible exact H2_) | (have H2_ := (Option.bind_some _ _).symm.trans H; with_reducible exact H2_) | with_reducible exact H | (rw [hy164]; exact H) | exact H
                    have Ny164 := Aside0.mk hy164
                    clear hy164
                    have H' := Aside0.mk H
                    clear H
                    have hnb49 := NB156_143.out
                    have hnc49 := NB143_156.out
                    have hnb50 := NB156_144.out
                    have hnc50 := NB144_156.out
                    have hcz51_0 : wc.cell? ⟨gb156, 0, none⟩ = some (.int .i64 t147) := (blk_cell BK156.out 0).trans rfl
                    have hcz51_1 : wc.cell? ⟨gb156, 1, none⟩ = some (.slice Ao29 t148.length co29) := (blk_cell BK156.out 1).trans rfl
                    have hcz51_2 : wc.cell? ⟨gb156, 2, none⟩ = some (.int .i64 t151) := (blk_cell BK156.out 2).trans rfl
                    have hcz51_3 : wc.cell? ⟨gb156, 3, none⟩ = some (.int .i64 t152) := (blk_cell BK156.out 3).trans rfl
                    have hcz51_4 : wc.cell? ⟨gb156, 4, none⟩ = some (.slice Ao30 t153.length co30) := (blk_cell BK156.out 4).trans rfl
                    have hfz51_0 := blk_frozen BK156.out 0
                    have hfz51_1 := blk_frozen BK156.out 1
                    have hfz51_2 := blk_frozen BK156.out 2
                    have hfz51_3 := blk_frozen BK156.out 3
                    have hfz51_4 := blk_frozen BK156.out 4
                    go_wp2_with (first | ((with_reducible refine gate_dst (N := 43) rfl ?_); (try (refine gate_guard (by rfl) ?_; dsimp only)); refine Kd.R_lit (Kd.int .u8) _ 5 ?hg (N := 43) ?hd (xs := ([] : List Int)) (inner := []) (ok := fun _ => True) (okp := fun _ => True) ?hr ?hp (fun _ hk => hk) trivial (Below.refl _ _) (Nat.le_refl _) (by simp) ?_; (case hd => rfl); (case hg => rfl); (case hr => first | (go_simp; done) | (go_simp; rfl)); (case hp => exact (Reps.none _ _)); intro v158 w52 ho53 hb hg_ hnew_; clear hg_ hnew_; (first | rw [← Ny157.out] at ho53 | (simp only [Int.reduceToNat] at ho53; rw [← Ny157.out] at ho53)); have n0_ := Aside0.mk (Kd.R_elder' (by refine kR_ ?_; exact (Kd.R_mono (Kd.R_f gb156 0 (.int .i64 a1) (Kd.R_types HO_157001.out BK156.out (by decide))) (fun _ h_ => op1_ h_))) (Kd.R_base ho53) hb); have n1_ := Aside0.mk (Kd.R_below (by refine kR_ ?_; exact (Kd.R_mono (Kd.R_f gb156 0 (.int .i64 a1) (Kd.R_types HO_157004.out BK156.out (by decide))) (fun _ h_ => op1_ h_))) hb); have n2_ := Aside0.mk (Kd.R_lower (Kd.R_new' ho53 (Kd.R_lt (by refine kR_ ?_; exact (Kd.R_mono (Kd.R_f gb156 0 (.int .i64 a1) (Kd.R_types HO_157001.out BK156.out (by decide))) (fun _ h_ => op1_ h_))))) (below_size (hb3_ HB.out GE143.out GE144.out GE156.out))); have n3_ := Aside0.mk (blk_below (g := gb143) (o := .cells #[.int .i64 a0_0, .slice A0_1 l0_1.length c0_1, .int .i64 a0_2, .int .i64 a0_3, .slice A0_4 l0_4.length c0_4] 25 (0, 0)) (by refine kb_ ?_; refine blk_far ?_ NB143_156.out _; refine kb_ ?_; exact BK143.out) hb); have n4_ := Aside0.mk (blk_below (g := gb144) (o := .cells #[.int .i64 0, .slice none 0 0, .int .i64 0, .int .i64 0, .slice none 0 0] 25 (0, 0)) (by refine kb_ ?_; refine blk_far ?_ NB144_156.out _; refine kb_ ?_; exact BK144.out) hb); have n5_ := Aside0.mk (blk_below (g := gb156) (o := .cells #[.int .i64 a1, .slice Ao29 t148.length co29, .int .i64 t151, .int .i64 t152, .slice Ao30 t153.length co30] 25 (0, 0)) (by refine kb_ ?_; refine blk_put (cs := #[.int .i64 t147, .slice Ao29 t148.length co29, .int .i64 t151, .int .i64 t152, .slice Ao30 t153.length co30]) ?_ 0 _ rfl; refine kb_ ?_; exact BK156.out) hb); have n6_ := Aside0.mk (below_step (hb3_ HB.out GE143.out GE144.out GE156.out) hb); clear HO_157001; clear HO_157004; clear BK143; clear BK144; clear BK156; clear HB; have HO_157001 := n0_; have HO_157004 := n1_; have HO159 := n2_; have BK143 := n3_; have BK144 := n4_; have BK156 := n5_; have HB := n6_; clear n0_ n1_ n2_ n3_ n4_ n5_ n6_; clear hb ho53; have hnb54 := NB143_144.out; have hnc54 := NB144_143.out; have hcz55_0 : w52.cell? ⟨gb143, 0, none⟩ = some (.int .i64 a0_0) := (blk_cell BK143.out 0).trans rfl; have hcz55_1 : w52.cell? ⟨gb143, 1, none⟩ = some (.slice A0_1 l0_1.length c0_1) := (blk_cell BK143.out 1).trans rfl; have hcz55_2 : w52.cell? ⟨gb143, 2, none⟩ = some (.int .i64 a0_2) := (blk_cell BK143.out 2).trans rfl; have hcz55_3 : w52.cell? ⟨gb143, 3, none⟩ = some (.int .i64 a0_3) := (blk_cell BK143.out 3).trans rfl; have hcz55_4 : w52.cell? ⟨gb143, 4, none⟩ = some (.slice A0_4 l0_4.length c0_4) := (blk_cell BK143.out 4).trans rfl; have hfz55_0 := blk_frozen BK143.out 0; have hfz55_1 := blk_frozen BK143.out 1; have hfz55_2 := blk_frozen BK143.out 2; have hfz55_3 := blk_frozen BK143.out 3; have hfz55_4 := blk_frozen BK143.out 4; obtain ⟨i056, hi056, _, hsz56, _⟩ := info_parts info5; obtain ⟨A56, hcut56, hA56, hC56⟩ := print_drop_of (P := Try.prog) (Value.int .u8) 0 22 5 .i64 Try.underlying22 hi056 hsz56 A0_1 c0_1 l0_1 (ji45) (of_decide_eq_true (by first | (with_reducible assumption) | assumption)) (of_decide_eq_true (by first | (with_reducible assumption) | assumption)) HC0_1.out; have HR160 := Aside0.mk (Kd.C_of_reads (h1 := fun _ => rfl) (hA56 _ (Kd.reads_of_C HR0_1.out))); have HC160 := Aside0.mk hC56; clear hA56 hC56 hi056 hsz56) | ((with_reducible refine gate_builtin (b := .append) (xs := #[.tmp 43, .tmp 47]) rfl ?_); (try (refine gate_guard (by rfl) ?_; dsimp only)); at_builtin; refine Kd.R_append_rows (Kd.int .u8) (w0 := w) w.heap.size rfl (.tmp 43) (.tmp 47) 22 5 (.int .u8 0) 1 rfl Try.underlying22 info5 rfl (by decide) (by omega) v158 y157 (l0_1.drop ((ji45) : Int).toNat) _ _ _ (fun k_ => some k_ ≠ (.slice Ao29 t148.length co29 : Value).ownBlock) (fun _ => False) rfl rfl ?aO ?aR (fun _ _ h => h) (fun _ h => h.elim) ?aF ?aB ?aS ?aL ?_; (case aR => first | (refine len_ (show (l0_1.drop ((ji45) : Int).toNat).length = (l0_1.length - (ji45).toNat) from List.length_drop) ?_; repeat (first | exact (Kd.C_below HR160.out HB.out) | (with_reducible refine Kd.C_alloc ?_ _) | (with_reducible refine Kd.C_drewN ?_ _) | (with_reducible refine Kd.C_drew ?_)); done) | (repeat (first | exact (Kd.C_below HR160.out HB.out) | (with_reducible refine Kd.C_alloc ?_ _) | (with_reducible refine Kd.C_drewN ?_ _) | (with_reducible refine Kd.C_drew ?_)))); (case aB => exact (hb3_ HB.out GE143.out GE144.out GE156.out)); (case aF => exact (fun k_ hk => Kd.fresh' (Kd.R_lt (kR_ HO_157001.out)) k_ hk)); (case aO => exact (by refine kR_ ?_; first | exact Kd.R_mono HO159.out (fun _ hk => hk.2) | exact Kd.R_mono HO159.out (fun _ _ => trivial))); (case aS => exact (below_size (hb3_ HB.out GE143.out GE144.out GE156.out))); (case aL => have := LMc48.out; have hlx_ := (show (l0_1.drop ((ji45) : Int).toNat).length = (l0_1.length - (ji45).toNat) from List.length_drop); omega); intro v162 w57 ho hb hg hat; rw [← Ny161.out] at ho; have n0_ := Aside0.mk (Kd.R_after (ok := (fun _ => True)) (kR_ HO_157001.out) hg hat); have n1_ := Aside0.mk (Kd.R_over' (kR_ HO_157004.out) (Kd.R_typed (kR_ HO159.out)) (by decide) hg); have n2_ := Aside0.mk (blk_grown (g := gb143) (o := .cells #[.int .i64 a0_0, .slice A0_1 l0_1.length c0_1, .int .i64 a0_2, .int .i64 a0_3, .slice A0_4 l0_4.length c0_4] 25 (0, 0)) (kb_ BK143.out) hg (Kd.R_ne HO159.out BK143.out (by decide))); have n3_ := Aside0.mk (blk_grown (g := gb144) (o := .cells #[.int .i64 0, .slice none 0 0, .int .i64 0, .int .i64 0, .slice none 0 0] 25 (0, 0)) (kb_ BK144.out) hg (Kd.R_ne HO159.out BK144.out (by decide))); have n4_ := Aside0.mk (blk_grown (g := gb156) (o := .cells #[.int .i64 a1, .slice Ao29 t148.length co29, .int .i64 t151, .int .i64 t152, .slice Ao30 t153.length co30] 25 (0, 0)) (kb_ BK156.out) hg (Kd.R_ne HO159.out BK156.out (by decide))); have n5_ := Aside0.mk (hb); have n6_ := Aside0.mk (ho); clear HO_157001; clear HO_157004; clear BK143; clear BK144; clear BK156; clear HB; clear HO159; have HO_157001 := n0_; have HO_157004 := n1_; have BK143 := n2_; have BK144 := n3_; have BK156 := n4_; have HB := n5_; have HO163 := n6_; clear n0_ n1_ n2_ n3_ n4_ n5_ n6_; clear ho hb hg hat; obtain ⟨Ao58, co58, eo58⟩ := Kd.R_slice HO163.out; subst eo58; have hcz59_0 : w57.cell? ⟨gb156, 0, none⟩ = some (.int .i64 a1) := (blk_cell BK156.out 0).trans rfl; have hcz59_1 : w57.cell? ⟨gb156, 1, none⟩ = some (.slice Ao29 t148.length co29) := (blk_cell BK156.out 1).trans rfl; have hcz59_2 : w57.cell? ⟨gb156, 2, none⟩ = some (.int .i64 t151) := (blk_cell BK156.out 2).trans rfl; have hcz59_3 : w57.cell? ⟨gb156, 3, none⟩ = some (.int .i64 t152) := (blk_cell BK156.out 3).trans rfl; have hcz59_4 : w57.cell? ⟨gb156, 4, none⟩ = some (.slice Ao30 t153.length co30) := (blk_cell BK156.out 4).trans rfl; have hfz59_0 := blk_frozen BK156.out 0; have hfz59_1 := blk_frozen BK156.out 1; have hfz59_2 := blk_frozen BK156.out 2; have hfz59_3 := blk_frozen BK156.out 3; have hfz59_4 := blk_frozen BK156.out 4; have hcz60_0 : w57.cell? ⟨gb143, 0, none⟩ = some (.int .i64 a0_0) := (blk_cell BK143.out 0).trans rfl; have hcz60_1 : w57.cell? ⟨gb143, 1, none⟩ = some (.slice A0_1 l0_1.length c0_1) := (blk_cell BK143.out 1).trans rfl; have hcz60_2 : w57.cell? ⟨gb143, 2, none⟩ = some (.int .i64 a0_2) := (blk_cell BK143.out 2).trans rfl; have hcz60_3 : w57.cell? ⟨gb143, 3, none⟩ = some (.int .i64 a0_3) := (blk_cell BK143.out 3).trans rfl; have hcz60_4 : w57.cell? ⟨gb143, 4, none⟩ = some (.slice A0_4 l0_4.length c0_4) := (blk_cell BK143.out 4).trans rfl; have hfz60_0 := blk_frozen BK143.out 0; have hfz60_1 := blk_frozen BK143.out 1; have hfz60_2 := blk_frozen BK143.out 2; have hfz60_3 := blk_frozen BK143.out 3; have hfz60_4 := blk_frozen BK143.out 4) | ((with_reducible refine gate_dst (N := 57) rfl ?_); (try (refine gate_guard (by rfl) ?_; dsimp only)); refine Kd.R_lit k60 _ 60 ?hg (N := 57) ?hd (xs := ([] : List (S60))) (inner := []) (ok := fun _ => True) (okp := fun _ => True) ?hr ?hp (fun _ hk => hk) trivial (Below.refl _ _) (Nat.le_refl _) (by simp) ?_; (case hd => rfl); (case hg => rfl); (case hr => first | (go_simp; done) | (go_simp; rfl)); (case hp => exact (Reps.none _ _)); intro v165 w61 ho62 hb hg_ hnew_; clear hg_ hnew_; (first | rw [← Ny164.out] at ho62 | (simp only [Int.reduceToNat] at ho62; rw [← Ny164.out] at ho62)); have n0_ := Aside0.mk (Kd.R_below (by refine kR_ ?_; exact (Kd.R_mono (Kd.R_f gb156 3 (.int .i64 a2) (Kd.R_f gb156 2 (.int .i64 (wrap64 (a0_2 - (ji45)))) (Kd.R_f gb156 1 (.slice Ao58 y161.length co58) (Kd.R_types HO_157001.out BK156.out (by decide))))) (fun _ h_ => op1_ h_))) hb); have n1_ := Aside0.mk (Kd.R_elder' (by refine kR_ ?_; exact (Kd.R_mono (Kd.R_f gb156 3 (.int .i64 a2) (Kd.R_f gb156 2 (.int .i64 (wrap64 (a0_2 - (ji45)))) (Kd.R_f gb156 1 (.slice Ao58 y161.length co58) (Kd.R_types HO_157004.out BK156.out (by decide))))) (fun _ h_ => op1_ h_))) (Kd.R_base ho62) hb); have n2_ := Aside0.mk (Kd.R_below (by refine kR_ ?_; exact (Kd.R_mono (Kd.R_f gb156 3 (.int .i64 a2) (Kd.R_f gb156 2 (.int .i64 (wrap64 (a0_2 - (ji45)))) (Kd.R_f gb156 1 (.slice Ao58 y161.length co58) (Kd.R_types HO163.out BK156.out (by decide))))) (fun _ h_ => op1_ h_))) hb); have n3_ := Aside0.mk (Kd.R_lower (Kd.R_new' ho62 (Kd.R_lt (by refine kR_ ?_; exact (Kd.R_mono (Kd.R_f gb156 3 (.int .i64 a2) (Kd.R_f gb156 2 (.int .i64 (wrap64 (a0_2 - (ji45)))) (Kd.R_f gb156 1 (.slice Ao58 y161.length co58) (Kd.R_types HO_157004.out BK156.out (by decide))))) (fun _ h_ => op1_ h_))))) (below_size (hb3_ HB.out GE143.out GE144.out GE156.out))); have n4_ := Aside0.mk (blk_below (g := gb143) (o := .cells #[.int .i64 a0_0, .slice A0_1 l0_1.length c0_1, .int .i64 a0_2, .int .i64 a0_3, .slice A0_4 l0_4.length c0_4] 25 (0, 0)) (by refine kb_ ?_; refine blk_far ?_ NB143_156.out _; refine kb_ ?_; refine blk_far ?_ NB143_156.out _; refine kb_ ?_; refine blk_far ?_ NB143_156.out _; refine kb_ ?_; exact BK143.out) hb); have n5_ := Aside0.mk (blk_below (g := gb144) (o := .cells #[.int .i64 0, .slice none 0 0, .int .i64 0, .int .i64 0, .slice none 0 0] 25 (0, 0)) (by refine kb_ ?_; refine blk_far ?_ NB144_156.out _; refine kb_ ?_; refine blk_far ?_ NB144_156.out _; refine kb_ ?_; refine blk_far ?_ NB144_156.out _; refine kb_ ?_; exact BK144.out) hb); have n6_ := Aside0.mk (blk_below (g := gb156) (o := .cells #[.int .i64 a1, .slice Ao58 y161.length co58, .int .i64 (wrap64 (a0_2 - (ji45))), .int .i64 a2, .slice Ao30 t153.length co30] 25 (0, 0)) (by refine kb_ ?_; refine blk_put (cs := #[.int .i64 a1, .slice Ao58 y161.length co58, .int .i64 (wrap64 (a0_2 - (ji45))), .int .i64 t152, .slice Ao30 t153.length co30]) ?_ 3 _ rfl; refine kb_ ?_; refine blk_put (cs := #[.int .i64 a1, .slice Ao58 y161.length co58, .int .i64 t151, .int .i64 t152, .slice Ao30 t153.length co30]) ?_ 2 _ rfl; refine kb_ ?_; refine blk_put (cs := #[.int .i64 a1, .slice Ao29 t148.length co29, .int .i64 t151, .int .i64 t152, .slice Ao30 t153.length co30]) ?_ 1 _ rfl; refine kb_ ?_; exact BK156.out) hb); have n7_ := Aside0.mk (below_step (hb3_ HB.out GE143.out GE144.out GE156.out) hb); clear HO_157001; clear HO_157004; clear HO163; clear BK143; clear BK144; clear BK156; clear HB; have HO_157001 := n0_; have HO_157004 := n1_; have HO163 := n2_; have HO166 := n3_; have BK143 := n4_; have BK144 := n5_; have BK156 := n6_; have HB := n7_; clear n0_ n1_ n2_ n3_ n4_ n5_ n6_ n7_; clear hb ho62; obtain ⟨Ao63, co63, eo63⟩ := Kd.R_slice HO166.out; subst eo63; have hcz64_0 : w61.cell? ⟨gb156, 0, none⟩ = some (.int .i64 a1) := (blk_cell BK156.out 0).trans rfl; have hcz64_1 : w61.cell? ⟨gb156, 1, none⟩ = some (.slice Ao58 y161.length co58) := (blk_cell BK156.out 1).trans rfl; have hcz64_2 : w61.cell? ⟨gb156, 2, none⟩ = some (.int .i64 (wrap64 (a0_2 - (ji45)))) := (blk_cell BK156.out 2).trans rfl; have hcz64_3 : w61.cell? ⟨gb156, 3, none⟩ = some (.int .i64 a2) := (blk_cell BK156.out 3).trans rfl; have hcz64_4 : w61.cell? ⟨gb156, 4, none⟩ = some (.slice Ao30 t153.length co30) := (blk_cell BK156.out 4).trans rfl; have hfz64_0 := blk_frozen BK156.out 0; have hfz64_1 := blk_frozen BK156.out 1; have hfz64_2 := blk_frozen BK156.out 2; have hfz64_3 := blk_frozen BK156.out 3; have hfz64_4 := blk_frozen BK156.out 4))
                    repeat (go_quiet (first | ((with_reducible refine gate_dst (N := 43) rfl ?_); (try (refine gate_guard (by rfl) ?_; dsimp only)); refine Kd.R_lit (Kd.int .u8) _ 5 ?hg (N := 43) ?hd (xs := ([] : List Int)) (inner := []) (ok := fun _ => True) (okp := fun _ => True) ?hr ?hp (fun _ hk => hk) trivial (Below.refl _ _) (Nat.le_refl _) (by simp) ?_; (case hd => rfl); (case hg => rfl); (case hr => first | (go_simp; done) | (go_simp; rfl)); (case hp => exact (Reps.none _ _)); intro v158 w52 ho53 hb hg_ hnew_; clear hg_ hnew_; (first | rw [← Ny157.out] at ho53 | (simp only [Int.reduceToNat] at ho53; rw [← Ny157.out] at ho53)); have n0_ := Aside0.mk (Kd.R_elder' (by refine kR_ ?_; exact (Kd.R_mono (Kd.R_f gb156 0 (.int .i64 a1) (Kd.R_types HO_157001.out BK156.out (by decide))) (fun _ h_ => op1_ h_))) (Kd.R_base ho53) hb); have n1_ := Aside0.mk (Kd.R_below (by refine kR_ ?_; exact (Kd.R_mono (Kd.R_f gb156 0 (.int .i64 a1) (Kd.R_types HO_157004.out BK156.out (by decide))) (fun _ h_ => op1_ h_))) hb); have n2_ := Aside0.mk (Kd.R_lower (Kd.R_new' ho53 (Kd.R_lt (by refine kR_ ?_; exact (Kd.R_mono (Kd.R_f gb156 0 (.int .i64 a1) (Kd.R_types HO_157001.out BK156.out (by decide))) (fun _ h_ => op1_ h_))))) (below_size (hb3_ HB.out GE143.out GE144.out GE156.out))); have n3_ := Aside0.mk (blk_below (g := gb143) (o := .cells #[.int .i64 a0_0, .slice A0_1 l0_1.length c0_1, .int .i64 a0_2, .int .i64 a0_3, .slice A0_4 l0_4.length c0_4] 25 (0, 0)) (by refine kb_ ?_; refine blk_far ?_ NB143_156.out _; refine kb_ ?_; exact BK143.out) hb); have n4_ := Aside0.mk (blk_below (g := gb144) (o := .cells #[.int .i64 0, .slice none 0 0, .int .i64 0, .int .i64 0, .slice none 0 0] 25 (0, 0)) (by refine kb_ ?_; refine blk_far ?_ NB144_156.out _; refine kb_ ?_; exact BK144.out) hb); have n5_ := Aside0.mk (blk_below (g := gb156) (o := .cells #[.int .i64 a1, .slice Ao29 t148.length co29, .int .i64 t151, .int .i64 t152, .slice Ao30 t153.length co30] 25 (0, 0)) (by refine kb_ ?_; refine blk_put (cs := #[.int .i64 t147, .slice Ao29 t148.length co29, .int .i64 t151, .int .i64 t152, .slice Ao30 t153.length co30]) ?_ 0 _ rfl; refine kb_ ?_; exact BK156.out) hb); have n6_ := Aside0.mk (below_step (hb3_ HB.out GE143.out GE144.out GE156.out) hb); clear HO_157001; clear HO_157004; clear BK143; clear BK144; clear BK156; clear HB; have HO_157001 := n0_; have HO_157004 := n1_; have HO159 := n2_; have BK143 := n3_; have BK144 := n4_; have BK156 := n5_; have HB := n6_; clear n0_ n1_ n2_ n3_ n4_ n5_ n6_; clear hb ho53; have hnb54 := NB143_144.out; have hnc54 := NB144_143.out; have hcz55_0 : w52.cell? ⟨gb143, 0, none⟩ = some (.int .i64 a0_0) := (blk_cell BK143.out 0).trans rfl; have hcz55_1 : w52.cell? ⟨gb143, 1, none⟩ = some (.slice A0_1 l0_1.length c0_1) := (blk_cell BK143.out 1).trans rfl; have hcz55_2 : w52.cell? ⟨gb143, 2, none⟩ = some (.int .i64 a0_2) := (blk_cell BK143.out 2).trans rfl; have hcz55_3 : w52.cell? ⟨gb143, 3, none⟩ = some (.int .i64 a0_3) := (blk_cell BK143.out 3).trans rfl; have hcz55_4 : w52.cell? ⟨gb143, 4, none⟩ = some (.slice A0_4 l0_4.length c0_4) := (blk_cell BK143.out 4).trans rfl; have hfz55_0 := blk_frozen BK143.out 0; have hfz55_1 := blk_frozen BK143.out 1; have hfz55_2 := blk_frozen BK143.out 2; have hfz55_3 := blk_frozen BK143.out 3; have hfz55_4 := blk_frozen BK143.out 4; obtain ⟨i056, hi056, _, hsz56, _⟩ := info_parts info5; obtain ⟨A56, hcut56, hA56, hC56⟩ := print_drop_of (P := Try.prog) (Value.int .u8) 0 22 5 .i64 Try.underlying22 hi056 hsz56 A0_1 c0_1 l0_1 (ji45) (of_decide_eq_true (by first | (with_reducible assumption) | assumption)) (of_decide_eq_true (by first | (with_reducible assumption) | assumption)) HC0_1.out; have HR160 := Aside0.mk (Kd.C_of_reads (h1 := fun _ => rfl) (hA56 _ (Kd.reads_of_C HR0_1.out))); have HC160 := Aside0.mk hC56; clear hA56 hC56 hi056 hsz56) | ((with_reducible refine gate_builtin (b := .append) (xs := #[.tmp 43, .tmp 47]) rfl ?_); (try (refine gate_guard (by rfl) ?_; dsimp only)); at_builtin; refine Kd.R_append_rows (Kd.int .u8) (w0 := w) w.heap.size rfl (.tmp 43) (.tmp 47) 22 5 (.int .u8 0) 1 rfl Try.underlying22 info5 rfl (by decide) (by omega) v158 y157 (l0_1.drop ((ji45) : Int).toNat) _ _ _ (fun k_ => some k_ ≠ (.slice Ao29 t148.length co29 : Value).ownBlock) (fun _ => False) rfl rfl ?aO ?aR (fun _ _ h => h) (fun _ h => h.elim) ?aF ?aB ?aS ?aL ?_; (case aR => first | (refine len_ (show (l0_1.drop ((ji45) : Int).toNat).length = (l0_1.length - (ji45).toNat) from List.length_drop) ?_; repeat (first | exact (Kd.C_below HR160.out HB.out) | (with_reducible refine Kd.C_alloc ?_ _) | (with_reducible refine Kd.C_drewN ?_ _) | (with_reducible refine Kd.C_drew ?_)); done) | (repeat (first | exact (Kd.C_below HR160.out HB.out) | (with_reducible refine Kd.C_alloc ?_ _) | (with_reducible refine Kd.C_drewN ?_ _) | (with_reducible refine Kd.C_drew ?_)))); (case aB => exact (hb3_ HB.out GE143.out GE144.out GE156.out)); (case aF => exact (fun k_ hk => Kd.fresh' (Kd.R_lt (kR_ HO_157001.out)) k_ hk)); (case aO => exact (by refine kR_ ?_; first | exact Kd.R_mono HO159.out (fun _ hk => hk.2) | exact Kd.R_mono HO159.out (fun _ _ => trivial))); (case aS => exact (below_size (hb3_ HB.out GE143.out GE144.out GE156.out))); (case aL => have := LMc48.out; have hlx_ := (show (l0_1.drop ((ji45) : Int).toNat).length = (l0_1.length - (ji45).toNat) from List.length_drop); omega); intro v162 w57 ho hb hg hat; rw [← Ny161.out] at ho; have n0_ := Aside0.mk (Kd.R_after (ok := (fun _ => True)) (kR_ HO_157001.out) hg hat); have n1_ := Aside0.mk (Kd.R_over' (kR_ HO_157004.out) (Kd.R_typed (kR_ HO159.out)) (by decide) hg); have n2_ := Aside0.mk (blk_grown (g := gb143) (o := .cells #[.int .i64 a0_0, .slice A0_1 l0_1.length c0_1, .int .i64 a0_2, .int .i64 a0_3, .slice A0_4 l0_4.length c0_4] 25 (0, 0)) (kb_ BK143.out) hg (Kd.R_ne HO159.out BK143.out (by decide))); have n3_ := Aside0.mk (blk_grown (g := gb144) (o := .cells #[.int .i64 0, .slice none 0 0, .int .i64 0, .int .i64 0, .slice none 0 0] 25 (0, 0)) (kb_ BK144.out) hg (Kd.R_ne HO159.out BK144.out (by decide))); have n4_ := Aside0.mk (blk_grown (g := gb156) (o := .cells #[.int .i64 a1, .slice Ao29 t148.length co29, .int .i64 t151, .int .i64 t152, .slice Ao30 t153.length co30] 25 (0, 0)) (kb_ BK156.out) hg (Kd.R_ne HO159.out BK156.out (by decide))); have n5_ := Aside0.mk (hb); have n6_ := Aside0.mk (ho); clear HO_157001; clear HO_157004; clear BK143; clear BK144; clear BK156; clear HB; clear HO159; have HO_157001 := n0_; have HO_157004 := n1_; have BK143 := n2_; have BK144 := n3_; have BK156 := n4_; have HB := n5_; have HO163 := n6_; clear n0_ n1_ n2_ n3_ n4_ n5_ n6_; clear ho hb hg hat; obtain ⟨Ao58, co58, eo58⟩ := Kd.R_slice HO163.out; subst eo58; have hcz59_0 : w57.cell? ⟨gb156, 0, none⟩ = some (.int .i64 a1) := (blk_cell BK156.out 0).trans rfl; have hcz59_1 : w57.cell? ⟨gb156, 1, none⟩ = some (.slice Ao29 t148.length co29) := (blk_cell BK156.out 1).trans rfl; have hcz59_2 : w57.cell? ⟨gb156, 2, none⟩ = some (.int .i64 t151) := (blk_cell BK156.out 2).trans rfl; have hcz59_3 : w57.cell? ⟨gb156, 3, none⟩ = some (.int .i64 t152) := (blk_cell BK156.out 3).trans rfl; have hcz59_4 : w57.cell? ⟨gb156, 4, none⟩ = some (.slice Ao30 t153.length co30) := (blk_cell BK156.out 4).trans rfl; have hfz59_0 := blk_frozen BK156.out 0; have hfz59_1 := blk_frozen BK156.out 1; have hfz59_2 := blk_frozen BK156.out 2; have hfz59_3 := blk_frozen BK156.out 3; have hfz59_4 := blk_frozen BK156.out 4; have hcz60_0 : w57.cell? ⟨gb143, 0, none⟩ = some (.int .i64 a0_0) := (blk_cell BK143.out 0).trans rfl; have hcz60_1 : w57.cell? ⟨gb143, 1, none⟩ = some (.slice A0_1 l0_1.length c0_1) := (blk_cell BK143.out 1).trans rfl; have hcz60_2 : w57.cell? ⟨gb143, 2, none⟩ = some (.int .i64 a0_2) := (blk_cell BK143.out 2).trans rfl; have hcz60_3 : w57.cell? ⟨gb143, 3, none⟩ = some (.int .i64 a0_3) := (blk_cell BK143.out 3).trans rfl; have hcz60_4 : w57.cell? ⟨gb143, 4, none⟩ = some (.slice A0_4 l0_4.length c0_4) := (blk_cell BK143.out 4).trans rfl; have hfz60_0 := blk_frozen BK143.out 0; have hfz60_1 := blk_frozen BK143.out 1; have hfz60_2 := blk_frozen BK143.out 2; have hfz60_3 := blk_frozen BK143.out 3; have hfz60_4 := blk_frozen BK143.out 4) | ((with_reducible refine gate_dst (N := 57) rfl ?_); (try (refine gate_guard (by rfl) ?_; dsimp only)); refine Kd.R_lit k60 _ 60 ?hg (N := 57) ?hd (xs := ([] : List (S60))) (inner := []) (ok := fun _ => True) (okp := fun _ => True) ?hr ?hp (fun _ hk => hk) trivial (Below.refl _ _) (Nat.le_refl _) (by simp) ?_; (case hd => rfl); (case hg => rfl); (case hr => first | (go_simp; done) | (go_simp; rfl)); (case hp => exact (Reps.none _ _)); intro v165 w61 ho62 hb hg_ hnew_; clear hg_ hnew_; (first | rw [← Ny164.out] at ho62 | (simp only [Int.reduceToNat] at ho62; rw [← Ny164.out] at ho62)); have n0_ := Aside0.mk (Kd.R_below (by refine kR_ ?_; exact (Kd.R_mono (Kd.R_f gb156 3 (.int .i64 a2) (Kd.R_f gb156 2 (.int .i64 (wrap64 (a0_2 - (ji45)))) (Kd.R_f gb156 1 (.slice Ao58 y161.length co58) (Kd.R_types HO_157001.out BK156.out (by decide))))) (fun _ h_ => op1_ h_))) hb); have n1_ := Aside0.mk (Kd.R_elder' (by refine kR_ ?_; exact (Kd.R_mono (Kd.R_f gb156 3 (.int .i64 a2) (Kd.R_f gb156 2 (.int .i64 (wrap64 (a0_2 - (ji45)))) (Kd.R_f gb156 1 (.slice Ao58 y161.length co58) (Kd.R_types HO_157004.out BK156.out (by decide))))) (fun _ h_ => op1_ h_))) (Kd.R_base ho62) hb); have n2_ := Aside0.mk (Kd.R_below (by refine kR_ ?_; exact (Kd.R_mono (Kd.R_f gb156 3 (.int .i64 a2) (Kd.R_f gb156 2 (.int .i64 (wrap64 (a0_2 - (ji45)))) (Kd.R_f gb156 1 (.slice Ao58 y161.length co58) (Kd.R_types HO163.out BK156.out (by decide))))) (fun _ h_ => op1_ h_))) hb); have n3_ := Aside0.mk (Kd.R_lower (Kd.R_new' ho62 (Kd.R_lt (by refine kR_ ?_; exact (Kd.R_mono (Kd.R_f gb156 3 (.int .i64 a2) (Kd.R_f gb156 2 (.int .i64 (wrap64 (a0_2 - (ji45)))) (Kd.R_f gb156 1 (.slice Ao58 y161.length co58) (Kd.R_types HO_157004.out BK156.out (by decide))))) (fun _ h_ => op1_ h_))))) (below_size (hb3_ HB.out GE143.out GE144.out GE156.out))); have n4_ := Aside0.mk (blk_below (g := gb143) (o := .cells #[.int .i64 a0_0, .slice A0_1 l0_1.length c0_1, .int .i64 a0_2, .int .i64 a0_3, .slice A0_4 l0_4.length c0_4] 25 (0, 0)) (by refine kb_ ?_; refine blk_far ?_ NB143_156.out _; refine kb_ ?_; refine blk_far ?_ NB143_156.out _; refine kb_ ?_; refine blk_far ?_ NB143_156.out _; refine kb_ ?_; exact BK143.out) hb); have n5_ := Aside0.mk (blk_below (g := gb144) (o := .cells #[.int .i64 0, .slice none 0 0, .int .i64 0, .int .i64 0, .slice none 0 0] 25 (0, 0)) (by refine kb_ ?_; refine blk_far ?_ NB144_156.out _; refine kb_ ?_; refine blk_far ?_ NB144_156.out _; refine kb_ ?_; refine blk_far ?_ NB144_156.out _; refine kb_ ?_; exact BK144.out) hb); have n6_ := Aside0.mk (blk_below (g := gb156) (o := .cells #[.int .i64 a1, .slice Ao58 y161.length co58, .int .i64 (wrap64 (a0_2 - (ji45))), .int .i64 a2, .slice Ao30 t153.length co30] 25 (0, 0)) (by refine kb_ ?_; refine blk_put (cs := #[.int .i64 a1, .slice Ao58 y161.length co58, .int .i64 (wrap64 (a0_2 - (ji45))), .int .i64 t152, .slice Ao30 t153.length co30]) ?_ 3 _ rfl; refine kb_ ?_; refine blk_put (cs := #[.int .i64 a1, .slice Ao58 y161.length co58, .int .i64 t151, .int .i64 t152, .slice Ao30 t153.length co30]) ?_ 2 _ rfl; refine kb_ ?_; refine blk_put (cs := #[.int .i64 a1, .slice Ao29 t148.length co29, .int .i64 t151, .int .i64 t152, .slice Ao30 t153.length co30]) ?_ 1 _ rfl; refine kb_ ?_; exact BK156.out) hb); have n7_ := Aside0.mk (below_step (hb3_ HB.out GE143.out GE144.out GE156.out) hb); clear HO_157001; clear HO_157004; clear HO163; clear BK143; clear BK144; clear BK156; clear HB; have HO_157001 := n0_; have HO_157004 := n1_; have HO163 := n2_; have HO166 := n3_; have BK143 := n4_; have BK144 := n5_; have BK156 := n6_; have HB := n7_; clear n0_ n1_ n2_ n3_ n4_ n5_ n6_ n7_; clear hb ho62; obtain ⟨Ao63, co63, eo63⟩ := Kd.R_slice HO166.out; subst eo63; have hcz64_0 : w61.cell? ⟨gb156, 0, none⟩ = some (.int .i64 a1) := (blk_cell BK156.out 0).trans rfl; have hcz64_1 : w61.cell? ⟨gb156, 1, none⟩ = some (.slice Ao58 y161.length co58) := (blk_cell BK156.out 1).trans rfl; have hcz64_2 : w61.cell? ⟨gb156, 2, none⟩ = some (.int .i64 (wrap64 (a0_2 - (ji45)))) := (blk_cell BK156.out 2).trans rfl; have hcz64_3 : w61.cell? ⟨gb156, 3, none⟩ = some (.int .i64 a2) := (blk_cell BK156.out 3).trans rfl; have hcz64_4 : w61.cell? ⟨gb156, 4, none⟩ = some (.slice Ao30 t153.length co30) := (blk_cell BK156.out 4).trans rfl; have hfz64_0 := blk_frozen BK156.out 0; have hfz64_1 := blk_frozen BK156.out 1; have hfz64_2 := blk_frozen BK156.out 2; have hfz64_3 := blk_frozen BK156.out 3; have hfz64_4 := blk_frozen BK156.out 4)); try go_wp2_with (first | ((with_reducible refine gate_dst (N := 43) rfl ?_); (try (refine gate_guard (by rfl) ?_; dsimp only)); refine Kd.R_lit (Kd.int .u8) _ 5 ?hg (N := 43) ?hd (xs := ([] : List Int)) (inner := []) (ok := fun _ => True) (okp := fun _ => True) ?hr ?hp (fun _ hk => hk) trivial (Below.refl _ _) (Nat.le_refl _) (by simp) ?_; (case hd => rfl); (case hg => rfl); (case hr => first | (go_simp; done) | (go_simp; rfl)); (case hp => exact (Reps.none _ _)); intro v158 w52 ho53 hb hg_ hnew_; clear hg_ hnew_; (first | rw [← Ny157.out] at ho53 | (simp only [Int.reduceToNat] at ho53; rw [← Ny157.out] at ho53)); have n0_ := Aside0.mk (Kd.R_elder' (by refine kR_ ?_; exact (Kd.R_mono (Kd.R_f gb156 0 (.int .i64 a1) (Kd.R_types HO_157001.out BK156.out (by decide))) (fun _ h_ => op1_ h_))) (Kd.R_base ho53) hb); have n1_ := Aside0.mk (Kd.R_below (by refine kR_ ?_; exact (Kd.R_mono (Kd.R_f gb156 0 (.int .i64 a1) (Kd.R_types HO_157004.out BK156.out (by decide))) (fun _ h_ => op1_ h_))) hb); have n2_ := Aside0.mk (Kd.R_lower (Kd.R_new' ho53 (Kd.R_lt (by refine kR_ ?_; exact (Kd.R_mono (Kd.R_f gb156 0 (.int .i64 a1) (Kd.R_types HO_157001.out BK156.out (by decide))) (fun _ h_ => op1_ h_))))) (below_size (hb3_ HB.out GE143.out GE144.out GE156.out))); have n3_ := Aside0.mk (blk_below (g := gb143) (o := .cells #[.int .i64 a0_0, .slice A0_1 l0_1.length c0_1, .int .i64 a0_2, .int .i64 a0_3, .slice A0_4 l0_4.length c0_4] 25 (0, 0)) (by refine kb_ ?_; refine blk_far ?_ NB143_156.out _; refine kb_ ?_; exact BK143.out) hb); have n4_ := Aside0.mk (blk_below (g := gb144) (o := .cells #[.int .i64 0, .slice none 0 0, .int .i64 0, .int .i64 0, .slice none 0 0] 25 (0, 0)) (by refine kb_ ?_; refine blk_far ?_ NB144_156.out _; refine kb_ ?_; exact BK144.out) hb); have n5_ := Aside0.mk (blk_below (g := gb156) (o := .cells #[.int .i64 a1, .slice Ao29 t148.length co29, .int .i64 t151, .int .i64 t152, .slice Ao30 t153.length co30] 25 (0, 0)) (by refine kb_ ?_; refine blk_put (cs := #[.int .i64 t147, .slice Ao29 t148.length co29, .int .i64 t151, .int .i64 t152, .slice Ao30 t153.length co30]) ?_ 0 _ rfl; refine kb_ ?_; exact BK156.out) hb); have n6_ := Aside0.mk (below_step (hb3_ HB.out GE143.out GE144.out GE156.out) hb); clear HO_157001; clear HO_157004; clear BK143; clear BK144; clear BK156; clear HB; have HO_157001 := n0_; have HO_157004 := n1_; have HO159 := n2_; have BK143 := n3_; have BK144 := n4_; have BK156 := n5_; have HB := n6_; clear n0_ n1_ n2_ n3_ n4_ n5_ n6_; clear hb ho53; have hnb54 := NB143_144.out; have hnc54 := NB144_143.out; have hcz55_0 : w52.cell? ⟨gb143, 0, none⟩ = some (.int .i64 a0_0) := (blk_cell BK143.out 0).trans rfl; have hcz55_1 : w52.cell? ⟨gb143, 1, none⟩ = some (.slice A0_1 l0_1.length c0_1) := (blk_cell BK143.out 1).trans rfl; have hcz55_2 : w52.cell? ⟨gb143, 2, none⟩ = some (.int .i64 a0_2) := (blk_cell BK143.out 2).trans rfl; have hcz55_3 : w52.cell? ⟨gb143, 3, none⟩ = some (.int .i64 a0_3) := (blk_cell BK143.out 3).trans rfl; have hcz55_4 : w52.cell? ⟨gb143, 4, none⟩ = some (.slice A0_4 l0_4.length c0_4) := (blk_cell BK143.out 4).trans rfl; have hfz55_0 := blk_frozen BK143.out 0; have hfz55_1 := blk_frozen BK143.out 1; have hfz55_2 := blk_frozen BK143.out 2; have hfz55_3 := blk_frozen BK143.out 3; have hfz55_4 := blk_frozen BK143.out 4; obtain ⟨i056, hi056, _, hsz56, _⟩ := info_parts info5; obtain ⟨A56, hcut56, hA56, hC56⟩ := print_drop_of (P := Try.prog) (Value.int .u8) 0 22 5 .i64 Try.underlying22 hi056 hsz56 A0_1 c0_1 l0_1 (ji45) (of_decide_eq_true (by first | (with_reducible assumption) | assumption)) (of_decide_eq_true (by first | (with_reducible assumption) | assumption)) HC0_1.out; have HR160 := Aside0.mk (Kd.C_of_reads (h1 := fun _ => rfl) (hA56 _ (Kd.reads_of_C HR0_1.out))); have HC160 := Aside0.mk hC56; clear hA56 hC56 hi056 hsz56) | ((with_reducible refine gate_builtin (b := .append) (xs := #[.tmp 43, .tmp 47]) rfl ?_); (try (refine gate_guard (by rfl) ?_; dsimp only)); at_builtin; refine Kd.R_append_rows (Kd.int .u8) (w0 := w) w.heap.size rfl (.tmp 43) (.tmp 47) 22 5 (.int .u8 0) 1 rfl Try.underlying22 info5 rfl (by decide) (by omega) v158 y157 (l0_1.drop ((ji45) : Int).toNat) _ _ _ (fun k_ => some k_ ≠ (.slice Ao29 t148.length co29 : Value).ownBlock) (fun _ => False) rfl rfl ?aO ?aR (fun _ _ h => h) (fun _ h => h.elim) ?aF ?aB ?aS ?aL ?_; (case aR => first | (refine len_ (show (l0_1.drop ((ji45) : Int).toNat).length = (l0_1.length - (ji45).toNat) from List.length_drop) ?_; repeat (first | exact (Kd.C_below HR160.out HB.out) | (with_reducible refine Kd.C_alloc ?_ _) | (with_reducible refine Kd.C_drewN ?_ _) | (with_reducible refine Kd.C_drew ?_)); done) | (repeat (first | exact (Kd.C_below HR160.out HB.out) | (with_reducible refine Kd.C_alloc ?_ _) | (with_reducible refine Kd.C_drewN ?_ _) | (with_reducible refine Kd.C_drew ?_)))); (case aB => exact (hb3_ HB.out GE143.out GE144.out GE156.out)); (case aF => exact (fun k_ hk => Kd.fresh' (Kd.R_lt (kR_ HO_157001.out)) k_ hk)); (case aO => exact (by refine kR_ ?_; first | exact Kd.R_mono HO159.out (fun _ hk => hk.2) | exact Kd.R_mono HO159.out (fun _ _ => trivial))); (case aS => exact (below_size (hb3_ HB.out GE143.out GE144.out GE156.out))); (case aL => have := LMc48.out; have hlx_ := (show (l0_1.drop ((ji45) : Int).toNat).length = (l0_1.length - (ji45).toNat) from List.length_drop); omega); intro v162 w57 ho hb hg hat; rw [← Ny161.out] at ho; have n0_ := Aside0.mk (Kd.R_after (ok := (fun _ => True)) (kR_ HO_157001.out) hg hat); have n1_ := Aside0.mk (Kd.R_over' (kR_ HO_157004.out) (Kd.R_typed (kR_ HO159.out)) (by decide) hg); have n2_ := Aside0.mk (blk_grown (g := gb143) (o := .cells #[.int .i64 a0_0, .slice A0_1 l0_1.length c0_1, .int .i64 a0_2, .int .i64 a0_3, .slice A0_4 l0_4.length c0_4] 25 (0, 0)) (kb_ BK143.out) hg (Kd.R_ne HO159.out BK143.out (by decide))); have n3_ := Aside0.mk (blk_grown (g := gb144) (o := .cells #[.int .i64 0, .slice none 0 0, .int .i64 0, .int .i64 0, .slice none 0 0] 25 (0, 0)) (kb_ BK144.out) hg (Kd.R_ne HO159.out BK144.out (by decide))); have n4_ := Aside0.mk (blk_grown (g := gb156) (o := .cells #[.int .i64 a1, .slice Ao29 t148.length co29, .int .i64 t151, .int .i64 t152, .slice Ao30 t153.length co30] 25 (0, 0)) (kb_ BK156.out) hg (Kd.R_ne HO159.out BK156.out (by decide))); have n5_ := Aside0.mk (hb); have n6_ := Aside0.mk (ho); clear HO_157001; clear HO_157004; clear BK143; clear BK144; clear BK156; clear HB; clear HO159; have HO_157001 := n0_; have HO_157004 := n1_; have BK143 := n2_; have BK144 := n3_; have BK156 := n4_; have HB := n5_; have HO163 := n6_; clear n0_ n1_ n2_ n3_ n4_ n5_ n6_; clear ho hb hg hat; obtain ⟨Ao58, co58, eo58⟩ := Kd.R_slice HO163.out; subst eo58; have hcz59_0 : w57.cell? ⟨gb156, 0, none⟩ = some (.int .i64 a1) := (blk_cell BK156.out 0).trans rfl; have hcz59_1 : w57.cell? ⟨gb156, 1, none⟩ = some (.slice Ao29 t148.length co29) := (blk_cell BK156.out 1).trans rfl; have hcz59_2 : w57.cell? ⟨gb156, 2, none⟩ = some (.int .i64 t151) := (blk_cell BK156.out 2).trans rfl; have hcz59_3 : w57.cell? ⟨gb156, 3, none⟩ = some (.int .i64 t152) := (blk_cell BK156.out 3).trans rfl; have hcz59_4 : w57.cell? ⟨gb156, 4, none⟩ = some (.slice Ao30 t153.length co30) := (blk_cell BK156.out 4).trans rfl; have hfz59_0 := blk_frozen BK156.out 0; have hfz59_1 := blk_frozen BK156.out 1; have hfz59_2 := blk_frozen BK156.out 2; have hfz59_3 := blk_frozen BK156.out 3; have hfz59_4 := blk_frozen BK156.out 4; have hcz60_0 : w57.cell? ⟨gb143, 0, none⟩ = some (.int .i64 a0_0) := (blk_cell BK143.out 0).trans rfl; have hcz60_1 : w57.cell? ⟨gb143, 1, none⟩ = some (.slice A0_1 l0_1.length c0_1) := (blk_cell BK143.out 1).trans rfl; have hcz60_2 : w57.cell? ⟨gb143, 2, none⟩ = some (.int .i64 a0_2) := (blk_cell BK143.out 2).trans rfl; have hcz60_3 : w57.cell? ⟨gb143, 3, none⟩ = some (.int .i64 a0_3) := (blk_cell BK143.out 3).trans rfl; have hcz60_4 : w57.cell? ⟨gb143, 4, none⟩ = some (.slice A0_4 l0_4.length c0_4) := (blk_cell BK143.out 4).trans rfl; have hfz60_0 := blk_frozen BK143.out 0; have hfz60_1 := blk_frozen BK143.out 1; have hfz60_2 := blk_frozen BK143.out 2; have hfz60_3 := blk_frozen BK143.out 3; have hfz60_4 := blk_frozen BK143.out 4) | ((with_reducible refine gate_dst (N := 57) rfl ?_); (try (refine gate_guard (by rfl) ?_; dsimp only)); refine Kd.R_lit k60 _ 60 ?hg (N := 57) ?hd (xs := ([] : List (S60))) (inner := []) (ok := fun _ => True) (okp := fun _ => True) ?hr ?hp (fun _ hk => hk) trivial (Below.refl _ _) (Nat.le_refl _) (by simp) ?_; (case hd => rfl); (case hg => rfl); (case hr => first | (go_simp; done) | (go_simp; rfl)); (case hp => exact (Reps.none _ _)); intro v165 w61 ho62 hb hg_ hnew_; clear hg_ hnew_; (first | rw [← Ny164.out] at ho62 | (simp only [Int.reduceToNat] at ho62; rw [← Ny164.out] at ho62)); have n0_ := Aside0.mk (Kd.R_below (by refine kR_ ?_; exact (Kd.R_mono (Kd.R_f gb156 3 (.int .i64 a2) (Kd.R_f gb156 2 (.int .i64 (wrap64 (a0_2 - (ji45)))) (Kd.R_f gb156 1 (.slice Ao58 y161.length co58) (Kd.R_types HO_157001.out BK156.out (by decide))))) (fun _ h_ => op1_ h_))) hb); have n1_ := Aside0.mk (Kd.R_elder' (by refine kR_ ?_; exact (Kd.R_mono (Kd.R_f gb156 3 (.int .i64 a2) (Kd.R_f gb156 2 (.int .i64 (wrap64 (a0_2 - (ji45)))) (Kd.R_f gb156 1 (.slice Ao58 y161.length co58) (Kd.R_types HO_157004.out BK156.out (by decide))))) (fun _ h_ => op1_ h_))) (Kd.R_base ho62) hb); have n2_ := Aside0.mk (Kd.R_below (by refine kR_ ?_; exact (Kd.R_mono (Kd.R_f gb156 3 (.int .i64 a2) (Kd.R_f gb156 2 (.int .i64 (wrap64 (a0_2 - (ji45)))) (Kd.R_f gb156 1 (.slice Ao58 y161.length co58) (Kd.R_types HO163.out BK156.out (by decide))))) (fun _ h_ => op1_ h_))) hb); have n3_ := Aside0.mk (Kd.R_lower (Kd.R_new' ho62 (Kd.R_lt (by refine kR_ ?_; exact (Kd.R_mono (Kd.R_f gb156 3 (.int .i64 a2) (Kd.R_f gb156 2 (.int .i64 (wrap64 (a0_2 - (ji45)))) (Kd.R_f gb156 1 (.slice Ao58 y161.length co58) (Kd.R_types HO_157004.out BK156.out (by decide))))) (fun _ h_ => op1_ h_))))) (below_size (hb3_ HB.out GE143.out GE144.out GE156.out))); have n4_ := Aside0.mk (blk_below (g := gb143) (o := .cells #[.int .i64 a0_0, .slice A0_1 l0_1.length c0_1, .int .i64 a0_2, .int .i64 a0_3, .slice A0_4 l0_4.length c0_4] 25 (0, 0)) (by refine kb_ ?_; refine blk_far ?_ NB143_156.out _; refine kb_ ?_; refine blk_far ?_ NB143_156.out _; refine kb_ ?_; refine blk_far ?_ NB143_156.out _; refine kb_ ?_; exact BK143.out) hb); have n5_ := Aside0.mk (blk_below (g := gb144) (o := .cells #[.int .i64 0, .slice none 0 0, .int .i64 0, .int .i64 0, .slice none 0 0] 25 (0, 0)) (by refine kb_ ?_; refine blk_far ?_ NB144_156.out _; refine kb_ ?_; refine blk_far ?_ NB144_156.out _; refine kb_ ?_; refine blk_far ?_ NB144_156.out _; refine kb_ ?_; exact BK144.out) hb); have n6_ := Aside0.mk (blk_below (g := gb156) (o := .cells #[.int .i64 a1, .slice Ao58 y161.length co58, .int .i64 (wrap64 (a0_2 - (ji45))), .int .i64 a2, .slice Ao30 t153.length co30] 25 (0, 0)) (by refine kb_ ?_; refine blk_put (cs := #[.int .i64 a1, .slice Ao58 y161.length co58, .int .i64 (wrap64 (a0_2 - (ji45))), .int .i64 t152, .slice Ao30 t153.length co30]) ?_ 3 _ rfl; refine kb_ ?_; refine blk_put (cs := #[.int .i64 a1, .slice Ao58 y161.length co58, .int .i64 t151, .int .i64 t152, .slice Ao30 t153.length co30]) ?_ 2 _ rfl; refine kb_ ?_; refine blk_put (cs := #[.int .i64 a1, .slice Ao29 t148.length co29, .int .i64 t151, .int .i64 t152, .slice Ao30 t153.length co30]) ?_ 1 _ rfl; refine kb_ ?_; exact BK156.out) hb); have n7_ := Aside0.mk (below_step (hb3_ HB.out GE143.out GE144.out GE156.out) hb); clear HO_157001; clear HO_157004; clear HO163; clear BK143; clear BK144; clear BK156; clear HB; have HO_157001 := n0_; have HO_157004 := n1_; have HO163 := n2_; have HO166 := n3_; have BK143 := n4_; have BK144 := n5_; have BK156 := n6_; have HB := n7_; clear n0_ n1_ n2_ n3_ n4_ n5_ n6_ n7_; clear hb ho62; obtain ⟨Ao63, co63, eo63⟩ := Kd.R_slice HO166.out; subst eo63; have hcz64_0 : w61.cell? ⟨gb156, 0, none⟩ = some (.int .i64 a1) := (blk_cell BK156.out 0).trans rfl; have hcz64_1 : w61.cell? ⟨gb156, 1, none⟩ = some (.slice Ao58 y161.length co58) := (blk_cell BK156.out 1).trans rfl; have hcz64_2 : w61.cell? ⟨gb156, 2, none⟩ = some (.int .i64 (wrap64 (a0_2 - (ji45)))) := (blk_cell BK156.out 2).trans rfl; have hcz64_3 : w61.cell? ⟨gb156, 3, none⟩ = some (.int .i64 a2) := (blk_cell BK156.out 3).trans rfl; have hcz64_4 : w61.cell? ⟨gb156, 4, none⟩ = some (.slice Ao30 t153.length co30) := (blk_cell BK156.out 4).trans rfl; have hfz64_0 := blk_frozen BK156.out 0; have hfz64_1 := blk_frozen BK156.out 1; have hfz64_2 := blk_frozen BK156.out 2; have hfz64_3 := blk_frozen BK156.out 3; have hfz64_4 := blk_frozen BK156.out 4)))
                    go_loopg [12] kj20 (fun kq v12 w' => ∃ (x12_3 : Int) (x157004_3 : List (S60)) (u157004 : Value), v12 = .int .i64 x12_3 ∧ Aside0 (spec_MouthHear.l0 kq a1 l3 (ji45) x12_3 a1 y161 (wrap64 (a0_2 - (ji45))) a2 x157004_3 = some (r1, r2, r3, r4, r5, r6)) ∧ Aside0 (kq ≤ kj20) ∧ Aside0 (Kd.R (Kd.int .u8) 5 w' w.heap.size (fun _ => True) (.slice Ao58 y161.length co58) y161) ∧ Aside0 (Kd.R k60 60 w' w.heap.size (fun _ => True) u157004 x157004_3) ∧ Aside0 (w'.heap[gb143]? = some (.cells #[.int .i64 a0_0, (.slice A0_1 l0_1.length c0_1), .int .i64 a0_2, .int .i64 a0_3, (.slice A0_4 l0_4.length c0_4)] 25 (0, 0))) ∧ Aside0 (w'.heap[gb144]? = some (.cells #[.int .i64 0, (.slice none 0 0), .int .i64 0, .int .i64 0, (.slice none 0 0)] 25 (0, 0))) ∧ Aside0 (w'.heap[gb156]? = some (.cells #[.int .i64 a1, (.slice Ao58 y161.length co58), .int .i64 (wrap64 (a0_2 - (ji45))), .int .i64 a2, u157004] 25 (0, 0))) ∧ Aside0 (Below w.heap.size w w'))
                    case atStart => exact ⟨(0), (y164), (.slice Ao63 y164.length co63), (by first | rfl | (simp; done) | (simp [*]; done)), H', ⟨Nat.le_refl _⟩, ⟨by refine kR_ ?_; exact Kd.R_mono (Kd.R_f gb156 4 (.slice Ao63 y164.length co63) (Kd.R_types HO163.out BK156.out (by decide))) (fun _ hk => trivial)⟩, ⟨by refine kR_ ?_; exact Kd.R_mono (Kd.R_f gb156 4 (.slice Ao63 y164.length co63) (Kd.R_types HO166.out BK156.out (by decide))) (fun _ hk => trivial)⟩, ⟨by refine kb_ ?_; refine blk_far ?_ NB143_156.out _; refine kb_ ?_; exact BK143.out⟩, ⟨by refine kb_ ?_; refine blk_far ?_ NB144_156.out _; refine kb_ ?_; exact BK144.out⟩, ⟨by refine kb_ ?_; refine blk_put (cs := #[.int .i64 a1, .slice Ao58 y161.length co58, .int .i64 (wrap64 (a0_2 - (ji45))), .int .i64 a2, .slice Ao30 t153.length co30]) ?_ 4 _ rfl; refine kb_ ?_; exact BK156.out⟩, ⟨by repeat (first | (with_reducible first | exact HB.out | apply below_alloc | apply pw_below_drewN | apply below_drew1 | refine below_set ?_ GE143.out | refine below_set ?_ GE144.out | refine below_set ?_ GE156.out) | exact HB.out)⟩⟩
                    case round =>
                      clear H'
                      try clear c1
                      try clear c2
                      try clear p2
                      try clear c3
                      try clear c4
                      try clear c5
                      try clear p6
                      try clear c9
                      try clear c11
                      try clear c14
                      try clear c15
                      try clear c17
                      try clear c18
                      try clear c22
                      try clear c26
                      try clear c27
                      try clear c32
                      try clear c32b0
                      try clear c33
                      try clear c34
                      try clear c36
                      try clear c37
                      try clear c39
                      try clear c40
                      try clear c41
                      try clear c43
                      try clear c46
                      try clear c46b0
                      try clear c46b1
                      try clear c47
                      try clear c47b0
                      try clear c47b1
                      try clear c48
                      try clear c49
                      try clear c50
                      try clear c54
                      try clear p64
                      try clear hcz12_0
                      try clear hcz12_1
                      try clear hcz12_2
                      try clear hcz12_3
                      try clear hcz12_4
                      try clear hcz15_0
                      try clear hcz15_1
                      try clear hcz15_2
                      try clear hcz15_3
                      try clear hcz15_4
                      try clear hcz19_0
                      try clear hcz19_1
                      try clear hcz19_2
                      try clear hcz19_3
                      try clear hcz19_4
                      try clear hcz23_0
                      try clear hcz23_1
                      try clear hcz23_2
                      try clear hcz23_3
                      try clear hcz23_4
                      try clear hcz28_0
                      try clear hcz28_1
                      try clear hcz28_2
                      try clear hcz28_3
                      try clear hcz28_4
                      try clear hcz31_0
                      try clear hcz31_1
                      try clear hcz31_2
                      try clear hcz31_3
                      try clear hcz31_4
                      try clear hcz35_0
                      try clear hcz35_1
                      try clear hcz35_2
                      try clear hcz35_3
                      try clear hcz35_4
                      try clear hcz38_0
                      try clear hcz38_1
                      try clear hcz38_2
                      try clear hcz38_3
                      try clear hcz38_4
                      try clear hcz42_0
                      try clear hcz42_1
                      try clear hcz42_2
                      try clear hcz42_3
                      try clear hcz42_4
                      try clear hcz44_0
                      try clear hcz44_1
                      try clear hcz44_2
                      try clear hcz44_3
                      try clear hcz44_4
                      try clear hcz51_0
                      try clear hcz51_1
                      try clear hcz51_2
                      try clear hcz51_3
                      try clear hcz51_4
                      try clear hcz55_0
                      try clear hcz55_1
                      try clear hcz55_2
                      try clear hcz55_3
                      try clear hcz55_4
                      try clear hcz59_0
                      try clear hcz59_1
                      try clear hcz59_2
                      try clear hcz59_3
                      try clear hcz59_4
                      try clear hcz60_0
                      try clear hcz60_1
                      try clear hcz60_2
                      try clear hcz60_3
                      try clear hcz60_4
                      try clear hcz64_0
                      try clear hcz64_1
                      try clear hcz64_2
                      try clear hcz64_3
                      try clear hcz64_4
                      try clear hfz12_0
                      try clear hfz12_1
                      try clear hfz12_2
                      try clear hfz12_3
                      try clear hfz12_4
                      try clear hfz15_0
                      try clear hfz15_1
                      try clear hfz15_2
                      try clear hfz15_3
                      try clear hfz15_4
                      try clear hfz19_0
                      try clear hfz19_1
                      try clear hfz19_2
                      try clear hfz19_3
                      try clear hfz19_4
                      try clear hfz23_0
                      try clear hfz23_1
                      try clear hfz23_2
                      try clear hfz23_3
                      try clear hfz23_4
                      try clear hfz28_0
                      try clear hfz28_1
                      try clear hfz28_2
                      try clear hfz28_3
                      try clear hfz28_4
                      try clear hfz31_0
                      try clear hfz31_1
                      try clear hfz31_2
                      try clear hfz31_3
                      try clear hfz31_4
                      try clear hfz35_0
                      try clear hfz35_1
                      try clear hfz35_2
                      try clear hfz35_3
                      try clear hfz35_4
                      try clear hfz38_0
                      try clear hfz38_1
                      try clear hfz38_2
                      try clear hfz38_3
                      try clear hfz38_4
                      try clear hfz42_0
                      try clear hfz42_1
                      try clear hfz42_2
                      try clear hfz42_3
                      try clear hfz42_4
                      try clear hfz44_0
                      try clear hfz44_1
                      try clear hfz44_2
                      try clear hfz44_3
                      try clear hfz44_4
                      try clear hfz51_0
                      try clear hfz51_1
                      try clear hfz51_2
                      try clear hfz51_3
                      try clear hfz51_4
                      try clear hfz55_0
                      try clear hfz55_1
                      try clear hfz55_2
                      try clear hfz55_3
                      try clear hfz55_4
                      try clear hfz59_0
                      try clear hfz59_1
                      try clear hfz59_2
                      try clear hfz59_3
                      try clear hfz59_4
                      try clear hfz60_0
                      try clear hfz60_1
                      try clear hfz60_2
                      try clear hfz60_3
                      try clear hfz60_4
                      try clear hfz64_0
                      try clear hfz64_1
                      try clear hfz64_2
                      try clear hfz64_3
                      try clear hfz64_4
                      try clear p2
                      try clear p6
                      obtain ⟨x12_3, x157004_3, u157004, rfl, HA, HK3, HO_157001, HO_157004, BK143, BK144, BK156, HB⟩ := hrel
                      cases gk with
                      | zero => exact absurd HA.out (by simp [spec_MouthHear.l0])
                      | succ k3 =>
                        have H := HA.out
                        clear HA
                        simp only [spec_MouthHear.l0] at H
                        by_cases c65 : x12_3 < (l3.length : Int)
                        · rw [if_pos c65] at H
                          have c65b0 : decide (x12_3 < (l3.length : Int)) = true := decide_eq_true c65
                          clear c65
                          by_cases c66 : 0 ≤ x12_3
                          · rw [if_pos c66] at H
                            have c66b0 : decide (0 ≤ x12_3) = true := decide_eq_true c66
                            clear c66
                            have HC67 := Aside0.mk H
                            clear H
                            have p167 : 0 ≤ (x12_3 : Int) := of_decide_eq_true (by first | (with_reducible assumption) | assumption)
                            have q167 : x12_3 < (l3.length : Int) := of_decide_eq_true (by first | (with_reducible assumption) | assumption)
                            obtain ⟨ad167, e167, hx167_0, hx167_1⟩ := at_T60 HR3.out x12_3 p167 q167
                            cases e167
                            replace hx167_0 := (HB.out.cell (World.block_lt_of_cell? w _ hx167_0)).trans hx167_0
                            replace hx167_1 := (HB.out.cell (World.block_lt_of_cell? w _ hx167_1)).trans hx167_1
                            replace p167 := eq_true p167
                            replace q167 := eq_true q167
                            go_upto_region 17 with (first | ((with_reducible refine gate_dst (N := 13) rfl ?_); (try (refine gate_guard (by rfl) ?_; dsimp only)); refine box_event ?hg (N := 13) ?hd (cs := #[.int .i64 0, .int .i64 0]) (t := 60) ?hr ?_; (case hd => rfl); (case hg => rfl); (case hr => first | (go_simp; done) | (go_simp; rfl)); intro gb168 hg w68 hbox hb; have n0_ := Aside0.mk (Kd.R_below (kR_ HO_157001.out) hb); have n1_ := Aside0.mk (Kd.R_below (Kd.R_elderB (kR_ HO_157004.out) gb168 (Nat.le_of_eq hg.symm)) hb); have n2_ := Aside0.mk (blk_below (g := gb143) (o := .cells #[.int .i64 a0_0, .slice A0_1 l0_1.length c0_1, .int .i64 a0_2, .int .i64 a0_3, .slice A0_4 l0_4.length c0_4] 25 (0, 0)) (kb_ BK143.out) hb); have n3_ := Aside0.mk (blk_below (g := gb144) (o := .cells #[.int .i64 0, .slice none 0 0, .int .i64 0, .int .i64 0, .slice none 0 0] 25 (0, 0)) (kb_ BK144.out) hb); have n4_ := Aside0.mk (blk_below (g := gb156) (o := .cells #[.int .i64 a1, .slice Ao58 y161.length co58, .int .i64 (wrap64 (a0_2 - (ji45))), .int .i64 a2, u157004] 25 (0, 0)) (kb_ BK156.out) hb); have n5_ := Aside0.mk (below_step (hb3_ HB.out GE143.out GE144.out GE156.out) hb); have n6_ := Aside0.mk (hbox); have n7_ := Aside0.mk ((by rw [hg]; exact (below_size (hb3_ HB.out GE143.out GE144.out GE156.out)) : w.heap.size ≤ gb168)); have n8_ := Aside0.mk ((by rw [hg]; exact (below_size (hb3_ HB.out GE143.out GE144.out GE156.out)) : w.heap.size ≤ gb168)); have n9_ := Aside0.mk ((by rw [hg]; exact Nat.ne_of_lt (blk_lt (g := gb143) (o := .cells #[.int .i64 a0_0, .slice A0_1 l0_1.length c0_1, .int .i64 a0_2, .int .i64 a0_3, .slice A0_4 l0_4.length c0_4] 25 (0, 0)) (kb_ BK143.out)) : gb143 ≠ gb168)); have n10_ := Aside0.mk ((by rw [hg]; exact Nat.ne_of_gt (blk_lt (g := gb143) (o := .cells #[.int .i64 a0_0, .slice A0_1 l0_1.length c0_1, .int .i64 a0_2, .int .i64 a0_3, .slice A0_4 l0_4.length c0_4] 25 (0, 0)) (kb_ BK143.out)) : gb168 ≠ gb143)); have n11_ := Aside0.mk ((by rw [hg]; exact Nat.ne_of_lt (blk_lt (g := gb144) (o := .cells #[.int .i64 0, .slice none 0 0, .int .i64 0, .int .i64 0, .slice none 0 0] 25 (0, 0)) (kb_ BK144.out)) : gb144 ≠ gb168)); have n12_ := Aside0.mk ((by rw [hg]; exact Nat.ne_of_gt (blk_lt (g := gb144) (o := .cells #[.int .i64 0, .slice none 0 0, .int .i64 0, .int .i64 0, .slice none 0 0] 25 (0, 0)) (kb_ BK144.out)) : gb168 ≠ gb144)); have n13_ := Aside0.mk ((by rw [hg]; exact Nat.ne_of_lt (blk_lt (g := gb156) (o := .cells #[.int .i64 a1, .slice Ao58 y161.length co58, .int .i64 (wrap64 (a0_2 - (ji45))), .int .i64 a2, u157004] 25 (0, 0)) (kb_ BK156.out)) : gb156 ≠ gb168)); have n14_ := Aside0.mk ((by rw [hg]; exact Nat.ne_of_gt (blk_lt (g := gb156) (o := .cells #[.int .i64 a1, .slice Ao58 y161.length co58, .int .i64 (wrap64 (a0_2 - (ji45))), .int .i64 a2, u157004] 25 (0, 0)) (kb_ BK156.out)) : gb168 ≠ gb156)); clear HO_157001; clear HO_157004; clear BK143; clear BK144; clear BK156; clear HB; have HO_157001 := n0_; have HO_157004 := n1_; have BK143 := n2_; have BK144 := n3_; have BK156 := n4_; have HB := n5_; have BK168 := n6_; have GW168 := n7_; have GE168 := n8_; have NB143_168 := n9_; have NB168_143 := n10_; have NB144_168 := n11_; have NB168_144 := n12_; have NB156_168 := n13_; have NB168_156 := n14_; clear n0_ n1_ n2_ n3_ n4_ n5_ n6_ n7_ n8_ n9_ n10_ n11_ n12_ n13_ n14_; clear hb hbox hg; have hnb69 := NB168_143.out; have hnc69 := NB143_168.out; have hnb70 := NB168_144.out; have hnc70 := NB144_168.out; have hnb71 := NB168_156.out; have hnc71 := NB156_168.out; have hcz72_0 : w68.cell? ⟨gb168, 0, none⟩ = some (.int .i64 0) := (blk_cell BK168.out 0).trans rfl; have hcz72_1 : w68.cell? ⟨gb168, 1, none⟩ = some (.int .i64 0) := (blk_cell BK168.out 1).trans rfl; have hfz72_0 := blk_frozen BK168.out 0; have hfz72_1 := blk_frozen BK168.out 1; have hnb73 := NB156_143.out; have hnc73 := NB143_156.out; have hnb74 := NB156_144.out; have hnc74 := NB144_156.out; have hcz75_0 : w68.cell? ⟨gb156, 0, none⟩ = some (.int .i64 a1) := (blk_cell BK156.out 0).trans rfl; have hcz75_1 : w68.cell? ⟨gb156, 1, none⟩ = some (.slice Ao58 y161.length co58) := (blk_cell BK156.out 1).trans rfl; have hcz75_2 : w68.cell? ⟨gb156, 2, none⟩ = some (.int .i64 (wrap64 (a0_2 - (ji45)))) := (blk_cell BK156.out 2).trans rfl; have hcz75_3 : w68.cell? ⟨gb156, 3, none⟩ = some (.int .i64 a2) := (blk_cell BK156.out 3).trans rfl; have hcz75_4 : w68.cell? ⟨gb156, 4, none⟩ = some (u157004) := (blk_cell BK156.out 4).trans rfl; have hfz75_0 := blk_frozen BK156.out 0; have hfz75_1 := blk_frozen BK156.out 1; have hfz75_2 := blk_frozen BK156.out 2; have hfz75_3 := blk_frozen BK156.out 3; have hfz75_4 := blk_frozen BK156.out 4; obtain ⟨Ao76, co76, eo76⟩ := Kd.R_slice HO_157004.out; subst eo76))
                            repeat (go_quiet (first | ((with_reducible refine gate_dst (N := 13) rfl ?_); (try (refine gate_guard (by rfl) ?_; dsimp only)); refine box_event ?hg (N := 13) ?hd (cs := #[.int .i64 0, .int .i64 0]) (t := 60) ?hr ?_; (case hd => rfl); (case hg => rfl); (case hr => first | (go_simp; done) | (go_simp; rfl)); intro gb168 hg w68 hbox hb; have n0_ := Aside0.mk (Kd.R_below (kR_ HO_157001.out) hb); have n1_ := Aside0.mk (Kd.R_below (Kd.R_elderB (kR_ HO_157004.out) gb168 (Nat.le_of_eq hg.symm)) hb); have n2_ := Aside0.mk (blk_below (g := gb143) (o := .cells #[.int .i64 a0_0, .slice A0_1 l0_1.length c0_1, .int .i64 a0_2, .int .i64 a0_3, .slice A0_4 l0_4.length c0_4] 25 (0, 0)) (kb_ BK143.out) hb); have n3_ := Aside0.mk (blk_below (g := gb144) (o := .cells #[.int .i64 0, .slice none 0 0, .int .i64 0, .int .i64 0, .slice none 0 0] 25 (0, 0)) (kb_ BK144.out) hb); have n4_ := Aside0.mk (blk_below (g := gb156) (o := .cells #[.int .i64 a1, .slice Ao58 y161.length co58, .int .i64 (wrap64 (a0_2 - (ji45))), .int .i64 a2, u157004] 25 (0, 0)) (kb_ BK156.out) hb); have n5_ := Aside0.mk (below_step (hb3_ HB.out GE143.out GE144.out GE156.out) hb); have n6_ := Aside0.mk (hbox); have n7_ := Aside0.mk ((by rw [hg]; exact (below_size (hb3_ HB.out GE143.out GE144.out GE156.out)) : w.heap.size ≤ gb168)); have n8_ := Aside0.mk ((by rw [hg]; exact (below_size (hb3_ HB.out GE143.out GE144.out GE156.out)) : w.heap.size ≤ gb168)); have n9_ := Aside0.mk ((by rw [hg]; exact Nat.ne_of_lt (blk_lt (g := gb143) (o := .cells #[.int .i64 a0_0, .slice A0_1 l0_1.length c0_1, .int .i64 a0_2, .int .i64 a0_3, .slice A0_4 l0_4.length c0_4] 25 (0, 0)) (kb_ BK143.out)) : gb143 ≠ gb168)); have n10_ := Aside0.mk ((by rw [hg]; exact Nat.ne_of_gt (blk_lt (g := gb143) (o := .cells #[.int .i64 a0_0, .slice A0_1 l0_1.length c0_1, .int .i64 a0_2, .int .i64 a0_3, .slice A0_4 l0_4.length c0_4] 25 (0, 0)) (kb_ BK143.out)) : gb168 ≠ gb143)); have n11_ := Aside0.mk ((by rw [hg]; exact Nat.ne_of_lt (blk_lt (g := gb144) (o := .cells #[.int .i64 0, .slice none 0 0, .int .i64 0, .int .i64 0, .slice none 0 0] 25 (0, 0)) (kb_ BK144.out)) : gb144 ≠ gb168)); have n12_ := Aside0.mk ((by rw [hg]; exact Nat.ne_of_gt (blk_lt (g := gb144) (o := .cells #[.int .i64 0, .slice none 0 0, .int .i64 0, .int .i64 0, .slice none 0 0] 25 (0, 0)) (kb_ BK144.out)) : gb168 ≠ gb144)); have n13_ := Aside0.mk ((by rw [hg]; exact Nat.ne_of_lt (blk_lt (g := gb156) (o := .cells #[.int .i64 a1, .slice Ao58 y161.length co58, .int .i64 (wrap64 (a0_2 - (ji45))), .int .i64 a2, u157004] 25 (0, 0)) (kb_ BK156.out)) : gb156 ≠ gb168)); have n14_ := Aside0.mk ((by rw [hg]; exact Nat.ne_of_gt (blk_lt (g := gb156) (o := .cells #[.int .i64 a1, .slice Ao58 y161.length co58, .int .i64 (wrap64 (a0_2 - (ji45))), .int .i64 a2, u157004] 25 (0, 0)) (kb_ BK156.out)) : gb168 ≠ gb156)); clear HO_157001; clear HO_157004; clear BK143; clear BK144; clear BK156; clear HB; have HO_157001 := n0_; have HO_157004 := n1_; have BK143 := n2_; have BK144 := n3_; have BK156 := n4_; have HB := n5_; have BK168 := n6_; have GW168 := n7_; have GE168 := n8_; have NB143_168 := n9_; have NB168_143 := n10_; have NB144_168 := n11_; have NB168_144 := n12_; have NB156_168 := n13_; have NB168_156 := n14_; clear n0_ n1_ n2_ n3_ n4_ n5_ n6_ n7_ n8_ n9_ n10_ n11_ n12_ n13_ n14_; clear hb hbox hg; have hnb69 := NB168_143.out; have hnc69 := NB143_168.out; have hnb70 := NB168_144.out; have hnc70 := NB144_168.out; have hnb71 := NB168_156.out; have hnc71 := NB156_168.out; have hcz72_0 : w68.cell? ⟨gb168, 0, none⟩ = some (.int .i64 0) := (blk_cell BK168.out 0).trans rfl; have hcz72_1 : w68.cell? ⟨gb168, 1, none⟩ = some (.int .i64 0) := (blk_cell BK168.out 1).trans rfl; have hfz72_0 := blk_frozen BK168.out 0; have hfz72_1 := blk_frozen BK168.out 1; have hnb73 := NB156_143.out; have hnc73 := NB143_156.out; have hnb74 := NB156_144.out; have hnc74 := NB144_156.out; have hcz75_0 : w68.cell? ⟨gb156, 0, none⟩ = some (.int .i64 a1) := (blk_cell BK156.out 0).trans rfl; have hcz75_1 : w68.cell? ⟨gb156, 1, none⟩ = some (.slice Ao58 y161.length co58) := (blk_cell BK156.out 1).trans rfl; have hcz75_2 : w68.cell? ⟨gb156, 2, none⟩ = some (.int .i64 (wrap64 (a0_2 - (ji45)))) := (blk_cell BK156.out 2).trans rfl; have hcz75_3 : w68.cell? ⟨gb156, 3, none⟩ = some (.int .i64 a2) := (blk_cell BK156.out 3).trans rfl; have hcz75_4 : w68.cell? ⟨gb156, 4, none⟩ = some (u157004) := (blk_cell BK156.out 4).trans rfl; have hfz75_0 := blk_frozen BK156.out 0; have hfz75_1 := blk_frozen BK156.out 1; have hfz75_2 := blk_frozen BK156.out 2; have hfz75_3 := blk_frozen BK156.out 3; have hfz75_4 := blk_frozen BK156.out 4; obtain ⟨Ao76, co76, eo76⟩ := Kd.R_slice HO_157004.out; subst eo76)); go_upto_region 17 with (first | ((with_reducible refine gate_dst (N := 13) rfl ?_); (try (refine gate_guard (by rfl) ?_; dsimp only)); refine box_event ?hg (N := 13) ?hd (cs := #[.int .i64 0, .int .i64 0]) (t := 60) ?hr ?_; (case hd => rfl); (case hg => rfl); (case hr => first | (go_simp; done) | (go_simp; rfl)); intro gb168 hg w68 hbox hb; have n0_ := Aside0.mk (Kd.R_below (kR_ HO_157001.out) hb); have n1_ := Aside0.mk (Kd.R_below (Kd.R_elderB (kR_ HO_157004.out) gb168 (Nat.le_of_eq hg.symm)) hb); have n2_ := Aside0.mk (blk_below (g := gb143) (o := .cells #[.int .i64 a0_0, .slice A0_1 l0_1.length c0_1, .int .i64 a0_2, .int .i64 a0_3, .slice A0_4 l0_4.length c0_4] 25 (0, 0)) (kb_ BK143.out) hb); have n3_ := Aside0.mk (blk_below (g := gb144) (o := .cells #[.int .i64 0, .slice none 0 0, .int .i64 0, .int .i64 0, .slice none 0 0] 25 (0, 0)) (kb_ BK144.out) hb); have n4_ := Aside0.mk (blk_below (g := gb156) (o := .cells #[.int .i64 a1, .slice Ao58 y161.length co58, .int .i64 (wrap64 (a0_2 - (ji45))), .int .i64 a2, u157004] 25 (0, 0)) (kb_ BK156.out) hb); have n5_ := Aside0.mk (below_step (hb3_ HB.out GE143.out GE144.out GE156.out) hb); have n6_ := Aside0.mk (hbox); have n7_ := Aside0.mk ((by rw [hg]; exact (below_size (hb3_ HB.out GE143.out GE144.out GE156.out)) : w.heap.size ≤ gb168)); have n8_ := Aside0.mk ((by rw [hg]; exact (below_size (hb3_ HB.out GE143.out GE144.out GE156.out)) : w.heap.size ≤ gb168)); have n9_ := Aside0.mk ((by rw [hg]; exact Nat.ne_of_lt (blk_lt (g := gb143) (o := .cells #[.int .i64 a0_0, .slice A0_1 l0_1.length c0_1, .int .i64 a0_2, .int .i64 a0_3, .slice A0_4 l0_4.length c0_4] 25 (0, 0)) (kb_ BK143.out)) : gb143 ≠ gb168)); have n10_ := Aside0.mk ((by rw [hg]; exact Nat.ne_of_gt (blk_lt (g := gb143) (o := .cells #[.int .i64 a0_0, .slice A0_1 l0_1.length c0_1, .int .i64 a0_2, .int .i64 a0_3, .slice A0_4 l0_4.length c0_4] 25 (0, 0)) (kb_ BK143.out)) : gb168 ≠ gb143)); have n11_ := Aside0.mk ((by rw [hg]; exact Nat.ne_of_lt (blk_lt (g := gb144) (o := .cells #[.int .i64 0, .slice none 0 0, .int .i64 0, .int .i64 0, .slice none 0 0] 25 (0, 0)) (kb_ BK144.out)) : gb144 ≠ gb168)); have n12_ := Aside0.mk ((by rw [hg]; exact Nat.ne_of_gt (blk_lt (g := gb144) (o := .cells #[.int .i64 0, .slice none 0 0, .int .i64 0, .int .i64 0, .slice none 0 0] 25 (0, 0)) (kb_ BK144.out)) : gb168 ≠ gb144)); have n13_ := Aside0.mk ((by rw [hg]; exact Nat.ne_of_lt (blk_lt (g := gb156) (o := .cells #[.int .i64 a1, .slice Ao58 y161.length co58, .int .i64 (wrap64 (a0_2 - (ji45))), .int .i64 a2, u157004] 25 (0, 0)) (kb_ BK156.out)) : gb156 ≠ gb168)); have n14_ := Aside0.mk ((by rw [hg]; exact Nat.ne_of_gt (blk_lt (g := gb156) (o := .cells #[.int .i64 a1, .slice Ao58 y161.length co58, .int .i64 (wrap64 (a0_2 - (ji45))), .int .i64 a2, u157004] 25 (0, 0)) (kb_ BK156.out)) : gb168 ≠ gb156)); clear HO_157001; clear HO_157004; clear BK143; clear BK144; clear BK156; clear HB; have HO_157001 := n0_; have HO_157004 := n1_; have BK143 := n2_; have BK144 := n3_; have BK156 := n4_; have HB := n5_; have BK168 := n6_; have GW168 := n7_; have GE168 := n8_; have NB143_168 := n9_; have NB168_143 := n10_; have NB144_168 := n11_; have NB168_144 := n12_; have NB156_168 := n13_; have NB168_156 := n14_; clear n0_ n1_ n2_ n3_ n4_ n5_ n6_ n7_ n8_ n9_ n10_ n11_ n12_ n13_ n14_; clear hb hbox hg; have hnb69 := NB168_143.out; have hnc69 := NB143_168.out; have hnb70 := NB168_144.out; have hnc70 := NB144_168.out; have hnb71 := NB168_156.out; have hnc71 := NB156_168.out; have hcz72_0 : w68.cell? ⟨gb168, 0, none⟩ = some (.int .i64 0) := (blk_cell BK168.out 0).trans rfl; have hcz72_1 : w68.cell? ⟨gb168, 1, none⟩ = some (.int .i64 0) := (blk_cell BK168.out 1).trans rfl; have hfz72_0 := blk_frozen BK168.out 0; have hfz72_1 := blk_frozen BK168.out 1; have hnb73 := NB156_143.out; have hnc73 := NB143_156.out; have hnb74 := NB156_144.out; have hnc74 := NB144_156.out; have hcz75_0 : w68.cell? ⟨gb156, 0, none⟩ = some (.int .i64 a1) := (blk_cell BK156.out 0).trans rfl; have hcz75_1 : w68.cell? ⟨gb156, 1, none⟩ = some (.slice Ao58 y161.length co58) := (blk_cell BK156.out 1).trans rfl; have hcz75_2 : w68.cell? ⟨gb156, 2, none⟩ = some (.int .i64 (wrap64 (a0_2 - (ji45)))) := (blk_cell BK156.out 2).trans rfl; have hcz75_3 : w68.cell? ⟨gb156, 3, none⟩ = some (.int .i64 a2) := (blk_cell BK156.out 3).trans rfl; have hcz75_4 : w68.cell? ⟨gb156, 4, none⟩ = some (u157004) := (blk_cell BK156.out 4).trans rfl; have hfz75_0 := blk_frozen BK156.out 0; have hfz75_1 := blk_frozen BK156.out 1; have hfz75_2 := blk_frozen BK156.out 2; have hfz75_3 := blk_frozen BK156.out 3; have hfz75_4 := blk_frozen BK156.out 4; obtain ⟨Ao76, co76, eo76⟩ := Kd.R_slice HO_157004.out; subst eo76)))
                            (try simp only [Act.put, List.setIfInBounds_toArray, List.set_cons_zero, List.set_cons_succ])
                            go_cut [113] (fun v113 wc => ∃ (kq : Nat) (x113_66 : Bool), v113 = .bool x113_66 ∧ Aside0 (spec_MouthHear.j3 kq a1 l3 (ji45) x12_3 x113_66 a1 y161 (wrap64 (a0_2 - (ji45))) a2 x157004_3 ((rd_T60 l3 x12_3).f0) ((rd_T60 l3 x12_3).f1) = some (r1, r2, r3, r4, r5, r6)) ∧ Aside0 (kq ≤ k3) ∧ Aside0 (Kd.R (Kd.int .u8) 5 wc w.heap.size (fun _ => True) (.slice Ao58 y161.length co58) y161) ∧ Aside0 (Kd.R k60 60 wc w.heap.size (fun k_ => k_ ≠ gb168) (.slice Ao76 x157004_3.length co76) x157004_3) ∧ Aside0 (wc.heap[gb143]? = some (.cells #[.int .i64 a0_0, (.slice A0_1 l0_1.length c0_1), .int .i64 a0_2, .int .i64 a0_3, (.slice A0_4 l0_4.length c0_4)] 25 (0, 0))) ∧ Aside0 (wc.heap[gb144]? = some (.cells #[.int .i64 0, (.slice none 0 0), .int .i64 0, .int .i64 0, (.slice none 0 0)] 25 (0, 0))) ∧ Aside0 (wc.heap[gb156]? = some (.cells #[.int .i64 a1, (.slice Ao58 y161.length co58), .int .i64 (wrap64 (a0_2 - (ji45))), .int .i64 a2, (.slice Ao76 x157004_3.length co76)] 25 (0, 0))) ∧ Aside0 (wc.heap[gb168]? = some (.cells #[.int .i64 ((rd_T60 l3 x12_3).f0), .int .i64 ((rd_T60 l3 x12_3).f1)] 60 (0, 0))) ∧ Aside0 (Below w.heap.size w wc))
                            case first =>
                              have H := HC67.out
                              clear HC67
                              by_cases c77 : ((rd_T60 l3 x12_3).f0) > a1
                              · rw [if_pos c77] at H
                                have c77b0 : decide (a1 < ((rd_T60 l3 x12_3).f0)) = true := decide_eq_true c77
                                clear c77
                                (first | rw [c77b0] | (simp only [i64_w, i32_w]; rw [c77b0]) | skip)
                                by_cases c78 : ((rd_T60 l3 x12_3).f1) > ((rd_T60 l3 x12_3).f0)
                                · rw [if_pos c78] at H
                                  have c78b0 : decide (((rd_T60 l3 x12_3).f0) < ((rd_T60 l3 x12_3).f1)) = true := decide_eq_true c78
                                  clear c78
                                  by_cases c79 : ((rd_T60 l3 x12_3).f1) ≤ (wrap64 (a1 + (wrap64 (a0_2 - (ji45)))))
                                  · rw [if_pos c79] at H
                                    have c79b0 : decide (((rd_T60 l3 x12_3).f1) ≤ (wrap64 (a1 + (wrap64 (a0_2 - (ji45)))))) = true := decide_eq_true c79
                                    clear c79
                                    by_cases c80 : (x157004_3.length : Int) < 2
                                    · rw [if_pos c80] at H
                                      have c80b0 : decide ((x157004_3.length : Int) < 2) = true := decide_eq_true c80
                                      have c80b1 : decide (x157004_3.length < 2) = true := decide_eq_true (by omega)
                                      clear c80
                                      by_cases c81 : (wrap64 ((x157004_3.length : Int) - 1)) < 0
                                      · rw [if_pos c81] at H
                                        have c81b0 : decide ((wrap64 ((x157004_3.length : Int) - 1)) < 0) = true := decide_eq_true c81
                                        clear c81
                                        have H' := Aside0.mk H
                                        clear H
                                        have hnb82 := NB168_143.out
                                        have hnc82 := NB143_168.out
                                        have hnb83 := NB168_144.out
                                        have hnc83 := NB144_168.out
                                        have hnb84 := NB168_156.out
                                        have hnc84 := NB156_168.out
                                        have hcz85_0 : w68.cell? ⟨gb168, 0, none⟩ = some (.int .i64 0) := (blk_cell BK168.out 0).trans rfl
                                        have hcz85_1 : w68.cell? ⟨gb168, 1, none⟩ = some (.int .i64 0) := (blk_cell BK168.out 1).trans rfl
                                        have hfz85_0 := blk_frozen BK168.out 0
                                        have hfz85_1 := blk_frozen BK168.out 1
                                        have hnb86 := NB156_143.out
                                        have hnc86 := NB143_156.out
                                        have hnb87 := NB156_144.out
                                        have hnc87 := NB144_156.out
                                        have hcz88_0 : w68.cell? ⟨gb156, 0, none⟩ = some (.int .i64 a1) := (blk_cell BK156.out 0).trans rfl
                                        have hcz88_1 : w68.cell? ⟨gb156, 1, none⟩ = some (.slice Ao58 y161.length co58) := (blk_cell BK156.out 1).trans rfl
                                        have hcz88_2 : w68.cell? ⟨gb156, 2, none⟩ = some (.int .i64 (wrap64 (a0_2 - (ji45)))) := (blk_cell BK156.out 2).trans rfl
                                        have hcz88_3 : w68.cell? ⟨gb156, 3, none⟩ = some (.int .i64 a2) := (blk_cell BK156.out 3).trans rfl
                                        have hcz88_4 : w68.cell? ⟨gb156, 4, none⟩ = some (.slice Ao76 x157004_3.length co76) := (blk_cell BK156.out 4).trans rfl
                                        have hfz88_0 := blk_frozen BK156.out 0
                                        have hfz88_1 := blk_frozen BK156.out 1
                                        have hfz88_2 := blk_frozen BK156.out 2
                                        have hfz88_3 := blk_frozen BK156.out 3
                                        have hfz88_4 := blk_frozen BK156.out 4
                                        go_wp2
                                        repeat (go_quiet (fail); try go_wp2)
                                        go_meet
                                        case rel => exact ⟨_, (true), (by first | rfl | (simp; done) | (simp [*]; done)), H', ⟨by have := HJ4.out; have := HJ20.out; have := HK3.out; first | omega | exact Nat.le_refl _⟩, ⟨by refine kR_ ?_; exact Kd.R_mono (Kd.R_f gb168 1 (.int .i64 ((rd_T60 l3 x12_3).f1)) (Kd.R_f gb168 0 (.int .i64 ((rd_T60 l3 x12_3).f0)) (Kd.R_types HO_157001.out BK168.out (by decide)))) (fun _ hk => trivial)⟩, ⟨by refine kR_ ?_; exact Kd.R_mono (Kd.R_f gb168 1 (.int .i64 ((rd_T60 l3 x12_3).f1)) (Kd.R_f gb168 0 (.int .i64 ((rd_T60 l3 x12_3).f0)) (Kd.R_mono HO_157004.out (fun k_ hk => (⟨hk, hk.2⟩ : _ ∧ k_ ≠ gb168))))) (fun _ hk => hk.1.2)⟩, ⟨by refine kb_ ?_; refine blk_far ?_ NB143_168.out _; refine kb_ ?_; refine blk_far ?_ NB143_168.out _; refine kb_ ?_; exact BK143.out⟩, ⟨by refine kb_ ?_; refine blk_far ?_ NB144_168.out _; refine kb_ ?_; refine blk_far ?_ NB144_168.out _; refine kb_ ?_; exact BK144.out⟩, ⟨by refine kb_ ?_; refine blk_far ?_ NB156_168.out _; refine kb_ ?_; refine blk_far ?_ NB156_168.out _; refine kb_ ?_; exact BK156.out⟩, ⟨by refine kb_ ?_; refine blk_put (cs := #[.int .i64 ((rd_T60 l3 x12_3).f0), .int .i64 0]) ?_ 1 _ rfl; refine kb_ ?_; refine blk_put (cs := #[.int .i64 0, .int .i64 0]) ?_ 0 _ rfl; refine kb_ ?_; exact BK168.out⟩, ⟨by repeat (first | (with_reducible first | exact HB.out | apply below_alloc | apply pw_below_drewN | apply below_drew1 | refine below_set ?_ GE143.out | refine below_set ?_ GE144.out | refine below_set ?_ GE156.out | refine below_set ?_ GE168.out) | exact HB.out)⟩⟩
                                      · rw [if_neg c81] at H
                                        have c81b0 : decide ((wrap64 ((x157004_3.length : Int) - 1)) < 0) = false := decide_eq_false c81
                                        clear c81
                                        obtain ⟨ji89, hji89⟩ : ∃ j_ : Int, (wrap64 ((x157004_3.length : Int) - 1)) = j_ := ⟨_, rfl⟩
                                        replace H : (if 0 ≤ (ji89) then (if (ji89) < (x157004_3.length : Int) then (spec_MouthHear.j3 k3 a1 l3 (ji45) x12_3 (decide (((rd_T60 l3 x12_3).f0) > ((rd_T60 x157004_3 (ji89)).f1))) a1 y161 (wrap64 (a0_2 - (ji45))) a2 x157004_3 ((rd_T60 l3 x12_3).f0) ((rd_T60 l3 x12_3).f1)) else (none)) else (none)) = some (r1, r2, r3, r4, r5, r6) := by first | (rw [hji89] at H; exact H) | (simp only [hji89] at H ⊢; exact H)
                                        (try rw [hji89] at c81b0)
                                        have hji89w : (IntKind.i64.wrap ((x157004_3.length : Int) - 1)) = ji89 := (i64_w _).trans hji89
                                        by_cases c90 : 0 ≤ (ji89)
                                        · rw [if_pos c90] at H
                                          have c90b0 : decide (0 ≤ (ji89)) = true := decide_eq_true c90
                                          clear c90
                                          by_cases c91 : (ji89) < (x157004_3.length : Int)
                                          · rw [if_pos c91] at H
                                            have c91b0 : decide ((ji89) < (x157004_3.length : Int)) = true := decide_eq_true c91
                                            clear c91
                                            have H' := Aside0.mk H
                                            clear H
                                            have hnb92 := NB168_143.out
                                            have hnc92 := NB143_168.out
                                            have hnb93 := NB168_144.out
                                            have hnc93 := NB144_168.out
                                            have hnb94 := NB168_156.out
                                            have hnc94 := NB156_168.out
                                            have hcz95_0 : w68.cell? ⟨gb168, 0, none⟩ = some (.int .i64 0) := (blk_cell BK168.out 0).trans rfl
                                            have hcz95_1 : w68.cell? ⟨gb168, 1, none⟩ = some (.int .i64 0) := (blk_cell BK168.out 1).trans rfl
                                            have hfz95_0 := blk_frozen BK168.out 0
                                            have hfz95_1 := blk_frozen BK168.out 1
                                            have hnb96 := NB156_143.out
                                            have hnc96 := NB143_156.out
                                            have hnb97 := NB156_144.out
                                            have hnc97 := NB144_156.out
                                            have hcz98_0 : w68.cell? ⟨gb156, 0, none⟩ = some (.int .i64 a1) := (blk_cell BK156.out 0).trans rfl
                                            have hcz98_1 : w68.cell? ⟨gb156, 1, none⟩ = some (.slice Ao58 y161.length co58) := (blk_cell BK156.out 1).trans rfl
                                            have hcz98_2 : w68.cell? ⟨gb156, 2, none⟩ = some (.int .i64 (wrap64 (a0_2 - (ji45)))) := (blk_cell BK156.out 2).trans rfl
                                            have hcz98_3 : w68.cell? ⟨gb156, 3, none⟩ = some (.int .i64 a2) := (blk_cell BK156.out 3).trans rfl
                                            have hcz98_4 : w68.cell? ⟨gb156, 4, none⟩ = some (.slice Ao76 x157004_3.length co76) := (blk_cell BK156.out 4).trans rfl
                                            have hfz98_0 := blk_frozen BK156.out 0
                                            have hfz98_1 := blk_frozen BK156.out 1
                                            have hfz98_2 := blk_frozen BK156.out 2
                                            have hfz98_3 := blk_frozen BK156.out 3
                                            have hfz98_4 := blk_frozen BK156.out 4
                                            have p169 : 0 ≤ ((ji89) : Int) := of_decide_eq_true (by first | (with_reducible assumption) | assumption)
                                            have q169 : (ji89) < (x157004_3.length : Int) := of_decide_eq_true (by first | (with_reducible assumption) | assumption)
                                            obtain ⟨ad169, e169, hx169_0, hx169_1⟩ := at_T60 (Kd.R_reads' HO_157004.out).2.2 (ji89) p169 q169
                                            cases e169
                                            have hn169_0 : ad169.block ≠ gb168 := Kd.own_blk (Kd.R_away HO_157004.out (fun _ hk => hk.2))
                                            have hn169_1 : ad169.block ≠ gb168 := Kd.own_blk (Kd.R_away HO_157004.out (fun _ hk => hk.2))
                                            replace hx169_0 := (cell_far (p := ⟨gb168, 0, none⟩) (by first | (rw [add_block]; exact hn169_0) | (show (Addr.add _ _).block ≠ _; rw [add_block]; exact hn169_0) | exact hn169_0) (.int .i64 ((rd_T60 l3 x12_3).f0))).trans hx169_0
                                            replace hx169_1 := (cell_far (p := ⟨gb168, 0, none⟩) (by first | (rw [add_block]; exact hn169_0) | (show (Addr.add _ _).block ≠ _; rw [add_block]; exact hn169_0) | exact hn169_0) (.int .i64 ((rd_T60 l3 x12_3).f0))).trans hx169_1
                                            replace hx169_0 := (cell_far (p := ⟨gb168, 1, none⟩) (by first | (rw [add_block]; exact hn169_1) | (show (Addr.add _ _).block ≠ _; rw [add_block]; exact hn169_1) | exact hn169_1) (.int .i64 ((rd_T60 l3 x12_3).f1))).trans hx169_0
                                            replace hx169_1 := (cell_far (p := ⟨gb168, 1, none⟩) (by first | (rw [add_block]; exact hn169_1) | (show (Addr.add _ _).block ≠ _; rw [add_block]; exact hn169_1) | exact hn169_1) (.int .i64 ((rd_T60 l3 x12_3).f1))).trans hx169_1
                                            (try have hy169_0 := fun (n_ : Nat) => (show ((((w68.drewN n_).setCell ⟨gb168, 0, none⟩ (.int .i64 ((rd_T60 l3 x12_3).f0))).setCell ⟨gb168, 1, none⟩ (.int .i64 ((rd_T60 l3 x12_3).f1)))).cell? _ = some _ from hx169_0))
                                            (try have hy169_1 := fun (n_ : Nat) => (show ((((w68.drewN n_).setCell ⟨gb168, 0, none⟩ (.int .i64 ((rd_T60 l3 x12_3).f0))).setCell ⟨gb168, 1, none⟩ (.int .i64 ((rd_T60 l3 x12_3).f1)))).cell? _ = some _ from hx169_1))
                                            clear hn169_0
                                            clear hn169_1
                                            replace p169 := eq_true p169
                                            replace q169 := eq_true q169
                                            go_wp2
                                            repeat (go_quiet (fail); try go_wp2)
                                            first | go_meet | ((try simp only [← hji89]); go_meet)
                                            case rel => exact ⟨_, (decide (((rd_T60 l3 x12_3).f0) > ((rd_T60 x157004_3 (ji89)).f1))), (by first | rfl | (simp; done) | (simp only [← hji89] <;> (first | rfl | simp)) | (simp [*]; done)), H', ⟨by have := HJ4.out; have := HJ20.out; have := HK3.out; first | omega | exact Nat.le_refl _⟩, ⟨by refine kR_ ?_; exact Kd.R_mono (Kd.R_f gb168 1 (.int .i64 ((rd_T60 l3 x12_3).f1)) (Kd.R_f gb168 0 (.int .i64 ((rd_T60 l3 x12_3).f0)) (Kd.R_types HO_157001.out BK168.out (by decide)))) (fun _ hk => trivial)⟩, ⟨by refine kR_ ?_; exact Kd.R_mono (Kd.R_f gb168 1 (.int .i64 ((rd_T60 l3 x12_3).f1)) (Kd.R_f gb168 0 (.int .i64 ((rd_T60 l3 x12_3).f0)) (Kd.R_mono HO_157004.out (fun k_ hk => (⟨hk, hk.2⟩ : _ ∧ k_ ≠ gb168))))) (fun _ hk => hk.1.2)⟩, ⟨by refine kb_ ?_; refine blk_far ?_ NB143_168.out _; refine kb_ ?_; refine blk_far ?_ NB143_168.out _; refine kb_ ?_; exact BK143.out⟩, ⟨by refine kb_ ?_; refine blk_far ?_ NB144_168.out _; refine kb_ ?_; refine blk_far ?_ NB144_168.out _; refine kb_ ?_; exact BK144.out⟩, ⟨by refine kb_ ?_; refine blk_far ?_ NB156_168.out _; refine kb_ ?_; refine blk_far ?_ NB156_168.out _; refine kb_ ?_; exact BK156.out⟩, ⟨by refine kb_ ?_; refine blk_put (cs := #[.int .i64 ((rd_T60 l3 x12_3).f0), .int .i64 0]) ?_ 1 _ rfl; refine kb_ ?_; refine blk_put (cs := #[.int .i64 0, .int .i64 0]) ?_ 0 _ rfl; refine kb_ ?_; exact BK168.out⟩, ⟨by repeat (first | (with_reducible first | exact HB.out | apply below_alloc | apply pw_below_drewN | apply below_drew1 | refine below_set ?_ GE143.out | refine below_set ?_ GE144.out | refine below_set ?_ GE156.out | refine below_set ?_ GE168.out) | exact HB.out)⟩⟩
                                          · rw [if_neg c91] at H
                                            exact absurd H (by simp)
                                        · rw [if_neg c90] at H
                                          exact absurd H (by simp)
                                    · rw [if_neg c80] at H
                                      have c80b0 : decide ((x157004_3.length : Int) < 2) = false := decide_eq_false c80
                                      have c80b1 : decide (x157004_3.length < 2) = false := decide_eq_false (by omega)
                                      clear c80
                                      have H' := Aside0.mk H
                                      clear H
                                      have hnb99 := NB168_143.out
                                      have hnc99 := NB143_168.out
                                      have hnb100 := NB168_144.out
                                      have hnc100 := NB144_168.out
                                      have hnb101 := NB168_156.out
                                      have hnc101 := NB156_168.out
                                      have hcz102_0 : w68.cell? ⟨gb168, 0, none⟩ = some (.int .i64 0) := (blk_cell BK168.out 0).trans rfl
                                      have hcz102_1 : w68.cell? ⟨gb168, 1, none⟩ = some (.int .i64 0) := (blk_cell BK168.out 1).trans rfl
                                      have hfz102_0 := blk_frozen BK168.out 0
                                      have hfz102_1 := blk_frozen BK168.out 1
                                      have hnb103 := NB156_143.out
                                      have hnc103 := NB143_156.out
                                      have hnb104 := NB156_144.out
                                      have hnc104 := NB144_156.out
                                      have hcz105_0 : w68.cell? ⟨gb156, 0, none⟩ = some (.int .i64 a1) := (blk_cell BK156.out 0).trans rfl
                                      have hcz105_1 : w68.cell? ⟨gb156, 1, none⟩ = some (.slice Ao58 y161.length co58) := (blk_cell BK156.out 1).trans rfl
                                      have hcz105_2 : w68.cell? ⟨gb156, 2, none⟩ = some (.int .i64 (wrap64 (a0_2 - (ji45)))) := (blk_cell BK156.out 2).trans rfl
                                      have hcz105_3 : w68.cell? ⟨gb156, 3, none⟩ = some (.int .i64 a2) := (blk_cell BK156.out 3).trans rfl
                                      have hcz105_4 : w68.cell? ⟨gb156, 4, none⟩ = some (.slice Ao76 x157004_3.length co76) := (blk_cell BK156.out 4).trans rfl
                                      have hfz105_0 := blk_frozen BK156.out 0
                                      have hfz105_1 := blk_frozen BK156.out 1
                                      have hfz105_2 := blk_frozen BK156.out 2
                                      have hfz105_3 := blk_frozen BK156.out 3
                                      have hfz105_4 := blk_frozen BK156.out 4
                                      go_wp2
                                      repeat (go_quiet (fail); try go_wp2)
                                      go_meet
                                      case rel => exact ⟨_, (false), (by first | rfl | (simp; done) | (simp [*]; done)), H', ⟨by have := HJ4.out; have := HJ20.out; have := HK3.out; first | omega | exact Nat.le_refl _⟩, ⟨by refine kR_ ?_; exact Kd.R_mono (Kd.R_f gb168 1 (.int .i64 ((rd_T60 l3 x12_3).f1)) (Kd.R_f gb168 0 (.int .i64 ((rd_T60 l3 x12_3).f0)) (Kd.R_types HO_157001.out BK168.out (by decide)))) (fun _ hk => trivial)⟩, ⟨by refine kR_ ?_; exact Kd.R_mono (Kd.R_f gb168 1 (.int .i64 ((rd_T60 l3 x12_3).f1)) (Kd.R_f gb168 0 (.int .i64 ((rd_T60 l3 x12_3).f0)) (Kd.R_mono HO_157004.out (fun k_ hk => (⟨hk, hk.2⟩ : _ ∧ k_ ≠ gb168))))) (fun _ hk => hk.1.2)⟩, ⟨by refine kb_ ?_; refine blk_far ?_ NB143_168.out _; refine kb_ ?_; refine blk_far ?_ NB143_168.out _; refine kb_ ?_; exact BK143.out⟩, ⟨by refine kb_ ?_; refine blk_far ?_ NB144_168.out _; refine kb_ ?_; refine blk_far ?_ NB144_168.out _; refine kb_ ?_; exact BK144.out⟩, ⟨by refine kb_ ?_; refine blk_far ?_ NB156_168.out _; refine kb_ ?_; refine blk_far ?_ NB156_168.out _; refine kb_ ?_; exact BK156.out⟩, ⟨by refine kb_ ?_; refine blk_put (cs := #[.int .i64 ((rd_T60 l3 x12_3).f0), .int .i64 0]) ?_ 1 _ rfl; refine kb_ ?_; refine blk_put (cs := #[.int .i64 0, .int .i64 0]) ?_ 0 _ rfl; refine kb_ ?_; exact BK168.out⟩, ⟨by repeat (first | (with_reducible first | exact HB.out | apply below_alloc | apply pw_below_drewN | apply below_drew1 | refine below_set ?_ GE143.out | refine below_set ?_ GE144.out | refine below_set ?_ GE156.out | refine below_set ?_ GE168.out) | exact HB.out)⟩⟩
                                  · rw [if_neg c79] at H
                                    have c79b0 : decide (((rd_T60 l3 x12_3).f1) ≤ (wrap64 (a1 + (wrap64 (a0_2 - (ji45)))))) = false := decide_eq_false c79
                                    clear c79
                                    have H' := Aside0.mk H
                                    clear H
                                    have hnb106 := NB168_143.out
                                    have hnc106 := NB143_168.out
                                    have hnb107 := NB168_144.out
                                    have hnc107 := NB144_168.out
                                    have hnb108 := NB168_156.out
                                    have hnc108 := NB156_168.out
                                    have hcz109_0 : w68.cell? ⟨gb168, 0, none⟩ = some (.int .i64 0) := (blk_cell BK168.out 0).trans rfl
                                    have hcz109_1 : w68.cell? ⟨gb168, 1, none⟩ = some (.int .i64 0) := (blk_cell BK168.out 1).trans rfl
                                    have hfz109_0 := blk_frozen BK168.out 0
                                    have hfz109_1 := blk_frozen BK168.out 1
                                    have hnb110 := NB156_143.out
                                    have hnc110 := NB143_156.out
                                    have hnb111 := NB156_144.out
                                    have hnc111 := NB144_156.out
                                    have hcz112_0 : w68.cell? ⟨gb156, 0, none⟩ = some (.int .i64 a1) := (blk_cell BK156.out 0).trans rfl
                                    have hcz112_1 : w68.cell? ⟨gb156, 1, none⟩ = some (.slice Ao58 y161.length co58) := (blk_cell BK156.out 1).trans rfl
                                    have hcz112_2 : w68.cell? ⟨gb156, 2, none⟩ = some (.int .i64 (wrap64 (a0_2 - (ji45)))) := (blk_cell BK156.out 2).trans rfl
                                    have hcz112_3 : w68.cell? ⟨gb156, 3, none⟩ = some (.int .i64 a2) := (blk_cell BK156.out 3).trans rfl
                                    have hcz112_4 : w68.cell? ⟨gb156, 4, none⟩ = some (.slice Ao76 x157004_3.length co76) := (blk_cell BK156.out 4).trans rfl
                                    have hfz112_0 := blk_frozen BK156.out 0
                                    have hfz112_1 := blk_frozen BK156.out 1
                                    have hfz112_2 := blk_frozen BK156.out 2
                                    have hfz112_3 := blk_frozen BK156.out 3
                                    have hfz112_4 := blk_frozen BK156.out 4
                                    go_wp2
                                    repeat (go_quiet (fail); try go_wp2)
                                    go_meet
                                    case rel => exact ⟨_, (false), (by first | rfl | (simp; done) | (simp [*]; done)), H', ⟨by have := HJ4.out; have := HJ20.out; have := HK3.out; first | omega | exact Nat.le_refl _⟩, ⟨by refine kR_ ?_; exact Kd.R_mono (Kd.R_f gb168 1 (.int .i64 ((rd_T60 l3 x12_3).f1)) (Kd.R_f gb168 0 (.int .i64 ((rd_T60 l3 x12_3).f0)) (Kd.R_types HO_157001.out BK168.out (by decide)))) (fun _ hk => trivial)⟩, ⟨by refine kR_ ?_; exact Kd.R_mono (Kd.R_f gb168 1 (.int .i64 ((rd_T60 l3 x12_3).f1)) (Kd.R_f gb168 0 (.int .i64 ((rd_T60 l3 x12_3).f0)) (Kd.R_mono HO_157004.out (fun k_ hk => (⟨hk, hk.2⟩ : _ ∧ k_ ≠ gb168))))) (fun _ hk => hk.1.2)⟩, ⟨by refine kb_ ?_; refine blk_far ?_ NB143_168.out _; refine kb_ ?_; refine blk_far ?_ NB143_168.out _; refine kb_ ?_; exact BK143.out⟩, ⟨by refine kb_ ?_; refine blk_far ?_ NB144_168.out _; refine kb_ ?_; refine blk_far ?_ NB144_168.out _; refine kb_ ?_; exact BK144.out⟩, ⟨by refine kb_ ?_; refine blk_far ?_ NB156_168.out _; refine kb_ ?_; refine blk_far ?_ NB156_168.out _; refine kb_ ?_; exact BK156.out⟩, ⟨by refine kb_ ?_; refine blk_put (cs := #[.int .i64 ((rd_T60 l3 x12_3).f0), .int .i64 0]) ?_ 1 _ rfl; refine kb_ ?_; refine blk_put (cs := #[.int .i64 0, .int .i64 0]) ?_ 0 _ rfl; refine kb_ ?_; exact BK168.out⟩, ⟨by repeat (first | (with_reducible first | exact HB.out | apply below_alloc | apply pw_below_drewN | apply below_drew1 | refine below_set ?_ GE143.out | refine below_set ?_ GE144.out | refine below_set ?_ GE156.out | refine below_set ?_ GE168.out) | exact HB.out)⟩⟩
                                · rw [if_neg c78] at H
                                  have c78b0 : decide (((rd_T60 l3 x12_3).f0) < ((rd_T60 l3 x12_3).f1)) = false := decide_eq_false c78
                                  clear c78
                                  have H' := Aside0.mk H
                                  clear H
                                  have hnb113 := NB168_143.out
                                  have hnc113 := NB143_168.out
                                  have hnb114 := NB168_144.out
                                  have hnc114 := NB144_168.out
                                  have hnb115 := NB168_156.out
                                  have hnc115 := NB156_168.out
                                  have hcz116_0 : w68.cell? ⟨gb168, 0, none⟩ = some (.int .i64 0) := (blk_cell BK168.out 0).trans rfl
                                  have hcz116_1 : w68.cell? ⟨gb168, 1, none⟩ = some (.int .i64 0) := (blk_cell BK168.out 1).trans rfl
                                  have hfz116_0 := blk_frozen BK168.out 0
                                  have hfz116_1 := blk_frozen BK168.out 1
                                  go_wp2
                                  repeat (go_quiet (fail); try go_wp2)
                                  go_meet
                                  case rel => exact ⟨_, (false), (by first | rfl | (simp; done) | (simp [*]; done)), H', ⟨by have := HJ4.out; have := HJ20.out; have := HK3.out; first | omega | exact Nat.le_refl _⟩, ⟨by refine kR_ ?_; exact Kd.R_mono (Kd.R_f gb168 1 (.int .i64 ((rd_T60 l3 x12_3).f1)) (Kd.R_f gb168 0 (.int .i64 ((rd_T60 l3 x12_3).f0)) (Kd.R_types HO_157001.out BK168.out (by decide)))) (fun _ hk => trivial)⟩, ⟨by refine kR_ ?_; exact Kd.R_mono (Kd.R_f gb168 1 (.int .i64 ((rd_T60 l3 x12_3).f1)) (Kd.R_f gb168 0 (.int .i64 ((rd_T60 l3 x12_3).f0)) (Kd.R_mono HO_157004.out (fun k_ hk => (⟨hk, hk.2⟩ : _ ∧ k_ ≠ gb168))))) (fun _ hk => hk.1.2)⟩, ⟨by refine kb_ ?_; refine blk_far ?_ NB143_168.out _; refine kb_ ?_; refine blk_far ?_ NB143_168.out _; refine kb_ ?_; exact BK143.out⟩, ⟨by refine kb_ ?_; refine blk_far ?_ NB144_168.out _; refine kb_ ?_; refine blk_far ?_ NB144_168.out _; refine kb_ ?_; exact BK144.out⟩, ⟨by refine kb_ ?_; refine blk_far ?_ NB156_168.out _; refine kb_ ?_; refine blk_far ?_ NB156_168.out _; refine kb_ ?_; exact BK156.out⟩, ⟨by refine kb_ ?_; refine blk_put (cs := #[.int .i64 ((rd_T60 l3 x12_3).f0), .int .i64 0]) ?_ 1 _ rfl; refine kb_ ?_; refine blk_put (cs := #[.int .i64 0, .int .i64 0]) ?_ 0 _ rfl; refine kb_ ?_; exact BK168.out⟩, ⟨by repeat (first | (with_reducible first | exact HB.out | apply below_alloc | apply pw_below_drewN | apply below_drew1 | refine below_set ?_ GE143.out | refine below_set ?_ GE144.out | refine below_set ?_ GE156.out | refine below_set ?_ GE168.out) | exact HB.out)⟩⟩
                              · rw [if_neg c77] at H
                                have c77b0 : decide (a1 < ((rd_T60 l3 x12_3).f0)) = false := decide_eq_false c77
                                clear c77
                                (first | rw [c77b0] | (simp only [i64_w, i32_w]; rw [c77b0]) | skip)
                                have H' := Aside0.mk H
                                clear H
                                have hnb117 := NB168_143.out
                                have hnc117 := NB143_168.out
                                have hnb118 := NB168_144.out
                                have hnc118 := NB144_168.out
                                have hnb119 := NB168_156.out
                                have hnc119 := NB156_168.out
                                have hcz120_0 : w68.cell? ⟨gb168, 0, none⟩ = some (.int .i64 0) := (blk_cell BK168.out 0).trans rfl
                                have hcz120_1 : w68.cell? ⟨gb168, 1, none⟩ = some (.int .i64 0) := (blk_cell BK168.out 1).trans rfl
                                have hfz120_0 := blk_frozen BK168.out 0
                                have hfz120_1 := blk_frozen BK168.out 1
                                go_wp2
                                repeat (go_quiet (fail); try go_wp2)
                                go_meet
                                case rel => exact ⟨_, (false), (by first | rfl | (simp; done) | (simp [*]; done)), H', ⟨by have := HJ4.out; have := HJ20.out; have := HK3.out; first | omega | exact Nat.le_refl _⟩, ⟨by refine kR_ ?_; exact Kd.R_mono (Kd.R_f gb168 1 (.int .i64 ((rd_T60 l3 x12_3).f1)) (Kd.R_f gb168 0 (.int .i64 ((rd_T60 l3 x12_3).f0)) (Kd.R_types HO_157001.out BK168.out (by decide)))) (fun _ hk => trivial)⟩, ⟨by refine kR_ ?_; exact Kd.R_mono (Kd.R_f gb168 1 (.int .i64 ((rd_T60 l3 x12_3).f1)) (Kd.R_f gb168 0 (.int .i64 ((rd_T60 l3 x12_3).f0)) (Kd.R_mono HO_157004.out (fun k_ hk => (⟨hk, hk.2⟩ : _ ∧ k_ ≠ gb168))))) (fun _ hk => hk.1.2)⟩, ⟨by refine kb_ ?_; refine blk_far ?_ NB143_168.out _; refine kb_ ?_; refine blk_far ?_ NB143_168.out _; refine kb_ ?_; exact BK143.out⟩, ⟨by refine kb_ ?_; refine blk_far ?_ NB144_168.out _; refine kb_ ?_; refine blk_far ?_ NB144_168.out _; refine kb_ ?_; exact BK144.out⟩, ⟨by refine kb_ ?_; refine blk_far ?_ NB156_168.out _; refine kb_ ?_; refine blk_far ?_ NB156_168.out _; refine kb_ ?_; exact BK156.out⟩, ⟨by refine kb_ ?_; refine blk_put (cs := #[.int .i64 ((rd_T60 l3 x12_3).f0), .int .i64 0]) ?_ 1 _ rfl; refine kb_ ?_; refine blk_put (cs := #[.int .i64 0, .int .i64 0]) ?_ 0 _ rfl; refine kb_ ?_; exact BK168.out⟩, ⟨by repeat (first | (with_reducible first | exact HB.out | apply below_alloc | apply pw_below_drewN | apply below_drew1 | refine below_set ?_ GE143.out | refine below_set ?_ GE144.out | refine below_set ?_ GE156.out | refine below_set ?_ GE168.out) | exact HB.out)⟩⟩
                            case rest =>
                              clear HC67
                              try clear c1
                              try clear p1
                              try clear q1
                              try clear hx1
                              try clear c2
                              try clear p2
                              try clear c3
                              try clear c4
                              try clear c5
                              try clear c6
                              try clear p6
                              try clear c7
                              try clear c8
                              try clear c9
                              try clear c10
                              try clear c11
                              try clear c14
                              try clear c15
                              try clear p16
                              try clear q16
                              try clear hx16
                              try clear c17
                              try clear c18
                              try clear c22
                              try clear c26
                              try clear c27
                              try clear c32
                              try clear c32b0
                              try clear c33
                              try clear c34
                              try clear c36
                              try clear c37
                              try clear c39
                              try clear c40
                              try clear c41
                              try clear c43
                              try clear c46
                              try clear c46b0
                              try clear c46b1
                              try clear c47
                              try clear c47b0
                              try clear c47b1
                              try clear c48
                              try clear c49
                              try clear c50
                              try clear c54
                              try clear p64
                              try clear c65
                              try clear c65b0
                              try clear c66
                              try clear c66b0
                              try clear c69
                              try clear c70
                              try clear c71
                              try clear c73
                              try clear c74
                              try clear c77
                              try clear c77b0
                              try clear c78
                              try clear c78b0
                              try clear c79
                              try clear c79b0
                              try clear c80
                              try clear c80b0
                              try clear c80b1
                              try clear c81
                              try clear c81b0
                              try clear c82
                              try clear c83
                              try clear c84
                              try clear c86
                              try clear c87
                              try clear c90
                              try clear c90b0
                              try clear c91
                              try clear c91b0
                              try clear c92
                              try clear c93
                              try clear c94
                              try clear c96
                              try clear c97
                              try clear c99
                              try clear c100
                              try clear c101
                              try clear c103
                              try clear c104
                              try clear c106
                              try clear c107
                              try clear c108
                              try clear c110
                              try clear c111
                              try clear c113
                              try clear c114
                              try clear c115
                              try clear c117
                              try clear c118
                              try clear c119
                              try clear hcz102_0
                              try clear hcz102_1
                              try clear hcz105_0
                              try clear hcz105_1
                              try clear hcz105_2
                              try clear hcz105_3
                              try clear hcz105_4
                              try clear hcz109_0
                              try clear hcz109_1
                              try clear hcz112_0
                              try clear hcz112_1
                              try clear hcz112_2
                              try clear hcz112_3
                              try clear hcz112_4
                              try clear hcz116_0
                              try clear hcz116_1
                              try clear hcz120_0
                              try clear hcz120_1
                              try clear hcz12_0
                              try clear hcz12_1
                              try clear hcz12_2
                              try clear hcz12_3
                              try clear hcz12_4
                              try clear hcz15_0
                              try clear hcz15_1
                              try clear hcz15_2
                              try clear hcz15_3
                              try clear hcz15_4
                              try clear hcz19_0
                              try clear hcz19_1
                              try clear hcz19_2
                              try clear hcz19_3
                              try clear hcz19_4
                              try clear hcz23_0
                              try clear hcz23_1
                              try clear hcz23_2
                              try clear hcz23_3
                              try clear hcz23_4
                              try clear hcz28_0
                              try clear hcz28_1
                              try clear hcz28_2
                              try clear hcz28_3
                              try clear hcz28_4
                              try clear hcz31_0
                              try clear hcz31_1
                              try clear hcz31_2
                              try clear hcz31_3
                              try clear hcz31_4
                              try clear hcz35_0
                              try clear hcz35_1
                              try clear hcz35_2
                              try clear hcz35_3
                              try clear hcz35_4
                              try clear hcz38_0
                              try clear hcz38_1
                              try clear hcz38_2
                              try clear hcz38_3
                              try clear hcz38_4
                              try clear hcz42_0
                              try clear hcz42_1
                              try clear hcz42_2
                              try clear hcz42_3
                              try clear hcz42_4
                              try clear hcz44_0
                              try clear hcz44_1
                              try clear hcz44_2
                              try clear hcz44_3
                              try clear hcz44_4
                              try clear hcz51_0
                              try clear hcz51_1
                              try clear hcz51_2
                              try clear hcz51_3
                              try clear hcz51_4
                              try clear hcz55_0
                              try clear hcz55_1
                              try clear hcz55_2
                              try clear hcz55_3
                              try clear hcz55_4
                              try clear hcz59_0
                              try clear hcz59_1
                              try clear hcz59_2
                              try clear hcz59_3
                              try clear hcz59_4
                              try clear hcz60_0
                              try clear hcz60_1
                              try clear hcz60_2
                              try clear hcz60_3
                              try clear hcz60_4
                              try clear hcz64_0
                              try clear hcz64_1
                              try clear hcz64_2
                              try clear hcz64_3
                              try clear hcz64_4
                              try clear hcz72_0
                              try clear hcz72_1
                              try clear hcz75_0
                              try clear hcz75_1
                              try clear hcz75_2
                              try clear hcz75_3
                              try clear hcz75_4
                              try clear hcz85_0
                              try clear hcz85_1
                              try clear hcz88_0
                              try clear hcz88_1
                              try clear hcz88_2
                              try clear hcz88_3
                              try clear hcz88_4
                              try clear hcz95_0
                              try clear hcz95_1
                              try clear hcz98_0
                              try clear hcz98_1
                              try clear hcz98_2
                              try clear hcz98_3
                              try clear hcz98_4
                              try clear hfz102_0
                              try clear hfz102_1
                              try clear hfz105_0
                              try clear hfz105_1
                              try clear hfz105_2
                              try clear hfz105_3
                              try clear hfz105_4
                              try clear hfz109_0
                              try clear hfz109_1
                              try clear hfz112_0
                              try clear hfz112_1
                              try clear hfz112_2
                              try clear hfz112_3
                              try clear hfz112_4
                              try clear hfz116_0
                              try clear hfz116_1
                              try clear hfz120_0
                              try clear hfz120_1
                              try clear hfz12_0
                              try clear hfz12_1
                              try clear hfz12_2
                              try clear hfz12_3
                              try clear hfz12_4
                              try clear hfz15_0
                              try clear hfz15_1
                              try clear hfz15_2
                              try clear hfz15_3
                              try clear hfz15_4
                              try clear hfz19_0
                              try clear hfz19_1
                              try clear hfz19_2
                              try clear hfz19_3
                              try clear hfz19_4
                              try clear hfz23_0
                              try clear hfz23_1
                              try clear hfz23_2
                              try clear hfz23_3
                              try clear hfz23_4
                              try clear hfz28_0
                              try clear hfz28_1
                              try clear hfz28_2
                              try clear hfz28_3
                              try clear hfz28_4
                              try clear hfz31_0
                              try clear hfz31_1
                              try clear hfz31_2
                              try clear hfz31_3
                              try clear hfz31_4
                              try clear hfz35_0
                              try clear hfz35_1
                              try clear hfz35_2
                              try clear hfz35_3
                              try clear hfz35_4
                              try clear hfz38_0
                              try clear hfz38_1
                              try clear hfz38_2
                              try clear hfz38_3
                              try clear hfz38_4
                              try clear hfz42_0
                              try clear hfz42_1
                              try clear hfz42_2
                              try clear hfz42_3
                              try clear hfz42_4
                              try clear hfz44_0
                              try clear hfz44_1
                              try clear hfz44_2
                              try clear hfz44_3
                              try clear hfz44_4
                              try clear hfz51_0
                              try clear hfz51_1
                              try clear hfz51_2
                              try clear hfz51_3
                              try clear hfz51_4
                              try clear hfz55_0
                              try clear hfz55_1
                              try clear hfz55_2
                              try clear hfz55_3
                              try clear hfz55_4
                              try clear hfz59_0
                              try clear hfz59_1
                              try clear hfz59_2
                              try clear hfz59_3
                              try clear hfz59_4
                              try clear hfz60_0
                              try clear hfz60_1
                              try clear hfz60_2
                              try clear hfz60_3
                              try clear hfz60_4
                              try clear hfz64_0
                              try clear hfz64_1
                              try clear hfz64_2
                              try clear hfz64_3
                              try clear hfz64_4
                              try clear hfz72_0
                              try clear hfz72_1
                              try clear hfz75_0
                              try clear hfz75_1
                              try clear hfz75_2
                              try clear hfz75_3
                              try clear hfz75_4
                              try clear hfz85_0
                              try clear hfz85_1
                              try clear hfz88_0
                              try clear hfz88_1
                              try clear hfz88_2
                              try clear hfz88_3
                              try clear hfz88_4
                              try clear hfz95_0
                              try clear hfz95_1
                              try clear hfz98_0
                              try clear hfz98_1
                              try clear hfz98_2
                              try clear hfz98_3
                              try clear hfz98_4
                              try clear hx167_0
                              try clear hx167_1
                              try clear hx169_0
                              try clear hx169_1
                              try clear p167
                              try clear p169
                              try clear p2
                              try clear p6
                              try clear p64
                              try clear q167
                              try clear q169
                              obtain ⟨kq, x113_66, rfl, HA, HJ66, HO_157001, HO_157004, BK143, BK144, BK156, BK168, HB⟩ := hcut
                              cases kq with
                              | zero => exact absurd HA.out (by simp [spec_MouthHear.j3])
                              | succ kj66 =>
                                have H := HA.out
                                clear HA
                                simp only [spec_MouthHear.j3] at H
                                by_cases c121 : x113_66 = true
                                · subst c121
                                  have H1 : (if x157004_3.length < 8796093022208 then (spec_MouthHear.l0 kj66 a1 l3 (ji45) (wrap64 (x12_3 + 1)) a1 y161 (wrap64 (a0_2 - (ji45))) a2 (x157004_3 ++ [(⟨((rd_T60 l3 x12_3).f0), ((rd_T60 l3 x12_3).f1)⟩ : S60)])) else (none)) = some (r1, r2, r3, r4, r5, r6) := by rw [if_pos rfl] at H; exact H
                                  clear H
                                  have H := H1
                                  clear H1
                                  by_cases c122 : x157004_3.length < 8796093022208
                                  · rw [if_pos c122] at H
                                    have LMc122 := Aside0.mk c122
                                    clear c122
                                    obtain ⟨y170, hy170⟩ : ∃ y_ : List (S60), y_ = (x157004_3 ++ [(⟨((rd_T60 l3 x12_3).f0), ((rd_T60 l3 x12_3).f1)⟩ : S60)]) := ⟨_, rfl⟩
                                    replace H : (spec_MouthHear.l0 kj66 a1 l3 (ji45) (wrap64 (x12_3 + 1)) a1 y161 (wrap64 (a0_2 - (ji45))) a2 y170) = some (r1, r2, r3, r4, r5, r6) := by first | (rw [hy170]; with_reducible exact H) | (have H2_ := (Option.bind_some _ _).symm.trans H; rw [hy170]; with_reducible exact H2_) | (have H2_ := (Option.bind_some _ _).symm.trans H; with_reducible exact H2_) | with_reducible exact H | (rw [hy170]; exact H) | exact H
                                    have Ny170 := Aside0.mk hy170
                                    clear hy170
                                    have H' := Aside0.mk H
                                    clear H
                                    have hnb123 := NB156_143.out
                                    have hnc123 := NB143_156.out
                                    have hnb124 := NB156_144.out
                                    have hnc124 := NB144_156.out
                                    have hnb125 := NB156_168.out
                                    have hnc125 := NB168_156.out
                                    have hcz126_0 : wc.cell? ⟨gb156, 0, none⟩ = some (.int .i64 a1) := (blk_cell BK156.out 0).trans rfl
                                    have hcz126_1 : wc.cell? ⟨gb156, 1, none⟩ = some (.slice Ao58 y161.length co58) := (blk_cell BK156.out 1).trans rfl
                                    have hcz126_2 : wc.cell? ⟨gb156, 2, none⟩ = some (.int .i64 (wrap64 (a0_2 - (ji45)))) := (blk_cell BK156.out 2).trans rfl
                                    have hcz126_3 : wc.cell? ⟨gb156, 3, none⟩ = some (.int .i64 a2) := (blk_cell BK156.out 3).trans rfl
                                    have hcz126_4 : wc.cell? ⟨gb156, 4, none⟩ = some (.slice Ao76 x157004_3.length co76) := (blk_cell BK156.out 4).trans rfl
                                    have hfz126_0 := blk_frozen BK156.out 0
                                    have hfz126_1 := blk_frozen BK156.out 1
                                    have hfz126_2 := blk_frozen BK156.out 2
                                    have hfz126_3 := blk_frozen BK156.out 3
                                    have hfz126_4 := blk_frozen BK156.out 4
                                    have hnb127 := NB168_143.out
                                    have hnc127 := NB143_168.out
                                    have hnb128 := NB168_144.out
                                    have hnc128 := NB144_168.out
                                    have hcz129_0 : wc.cell? ⟨gb168, 0, none⟩ = some (.int .i64 ((rd_T60 l3 x12_3).f0)) := (blk_cell BK168.out 0).trans rfl
                                    have hcz129_1 : wc.cell? ⟨gb168, 1, none⟩ = some (.int .i64 ((rd_T60 l3 x12_3).f1)) := (blk_cell BK168.out 1).trans rfl
                                    have hfz129_0 := blk_frozen BK168.out 0
                                    have hfz129_1 := blk_frozen BK168.out 1
                                    go_wp2_with (first | ((with_reducible refine gate_builtin (b := .append) (xs := #[.tmp 115, .tmp 117]) rfl ?_); (try (refine gate_guard (by rfl) ?_; dsimp only)); at_builtin; refine Kd.R_append k60 (w0 := w) w.heap.size rfl (.tmp 115) (.tmp 117) 23 60 (.agg #[(.int .i64 0), (.int .i64 0)]) 16 rfl Try.underlying23 info60 rfl (by decide) (by omega) (.slice Ao76 x157004_3.length co76) x157004_3 (⟨((rd_T60 l3 x12_3).f0), ((rd_T60 l3 x12_3).f1)⟩ : S60) [.int .i64 ((rd_T60 l3 x12_3).f0), .int .i64 ((rd_T60 l3 x12_3).f1)] (fun k_ => k_ ≠ gb168) (fun _ => False) rfl rfl ?aP (fun _ hk => hk.elim) ?aF ?aO ?aB ?aS ?aL ?_; (case aP => exact k60_mkM _ _ _ (⟨((rd_T60 l3 x12_3).f0), ((rd_T60 l3 x12_3).f1)⟩ : S60)); (case aB => exact (hb4_ HB.out GE143.out GE144.out GE156.out GE168.out)); (case aF => exact (fun k_ hk => Kd.freshB (g := gb168) (o := .cells #[.int .i64 ((rd_T60 l3 x12_3).f0), .int .i64 ((rd_T60 l3 x12_3).f1)] 60 (0, 0)) (kb_ BK168.out) k_ hk)); (case aO => exact (kR_ HO_157004.out)); (case aS => exact (below_size (hb4_ HB.out GE143.out GE144.out GE156.out GE168.out))); (case aL => have := LMc122.out; omega); intro v171 w130 ho hb hg hat; rw [← Ny170.out] at ho; have n0_ := Aside0.mk (Kd.R_over' (kR_ HO_157001.out) (Kd.R_typed (kR_ HO_157004.out)) (by decide) hg); have n1_ := Aside0.mk (blk_grown (g := gb143) (o := .cells #[.int .i64 a0_0, .slice A0_1 l0_1.length c0_1, .int .i64 a0_2, .int .i64 a0_3, .slice A0_4 l0_4.length c0_4] 25 (0, 0)) (kb_ BK143.out) hg (Kd.R_ne HO_157004.out BK143.out (by decide))); have n2_ := Aside0.mk (blk_grown (g := gb144) (o := .cells #[.int .i64 0, .slice none 0 0, .int .i64 0, .int .i64 0, .slice none 0 0] 25 (0, 0)) (kb_ BK144.out) hg (Kd.R_ne HO_157004.out BK144.out (by decide))); have n3_ := Aside0.mk (blk_grown (g := gb156) (o := .cells #[.int .i64 a1, .slice Ao58 y161.length co58, .int .i64 (wrap64 (a0_2 - (ji45))), .int .i64 a2, .slice Ao76 x157004_3.length co76] 25 (0, 0)) (kb_ BK156.out) hg (Kd.R_ne HO_157004.out BK156.out (by decide))); have n4_ := Aside0.mk (blk_grown (g := gb168) (o := .cells #[.int .i64 ((rd_T60 l3 x12_3).f0), .int .i64 ((rd_T60 l3 x12_3).f1)] 60 (0, 0)) (kb_ BK168.out) hg (Kd.R_away HO_157004.out (fun _ hk => hk))); have n5_ := Aside0.mk (hb); have n6_ := Aside0.mk (ho); clear HO_157001; clear BK143; clear BK144; clear BK156; clear BK168; clear HB; clear HO_157004; have HO_157001 := n0_; have BK143 := n1_; have BK144 := n2_; have BK156 := n3_; have BK168 := n4_; have HB := n5_; have HO172 := n6_; clear n0_ n1_ n2_ n3_ n4_ n5_ n6_; clear ho hb hg hat; obtain ⟨Ao131, co131, eo131⟩ := Kd.R_slice HO172.out; subst eo131; have hcz132_0 : w130.cell? ⟨gb156, 0, none⟩ = some (.int .i64 a1) := (blk_cell BK156.out 0).trans rfl; have hcz132_1 : w130.cell? ⟨gb156, 1, none⟩ = some (.slice Ao58 y161.length co58) := (blk_cell BK156.out 1).trans rfl; have hcz132_2 : w130.cell? ⟨gb156, 2, none⟩ = some (.int .i64 (wrap64 (a0_2 - (ji45)))) := (blk_cell BK156.out 2).trans rfl; have hcz132_3 : w130.cell? ⟨gb156, 3, none⟩ = some (.int .i64 a2) := (blk_cell BK156.out 3).trans rfl; have hcz132_4 : w130.cell? ⟨gb156, 4, none⟩ = some (.slice Ao76 x157004_3.length co76) := (blk_cell BK156.out 4).trans rfl; have hfz132_0 := blk_frozen BK156.out 0; have hfz132_1 := blk_frozen BK156.out 1; have hfz132_2 := blk_frozen BK156.out 2; have hfz132_3 := blk_frozen BK156.out 3; have hfz132_4 := blk_frozen BK156.out 4))
                                    repeat (go_quiet (first | ((with_reducible refine gate_builtin (b := .append) (xs := #[.tmp 115, .tmp 117]) rfl ?_); (try (refine gate_guard (by rfl) ?_; dsimp only)); at_builtin; refine Kd.R_append k60 (w0 := w) w.heap.size rfl (.tmp 115) (.tmp 117) 23 60 (.agg #[(.int .i64 0), (.int .i64 0)]) 16 rfl Try.underlying23 info60 rfl (by decide) (by omega) (.slice Ao76 x157004_3.length co76) x157004_3 (⟨((rd_T60 l3 x12_3).f0), ((rd_T60 l3 x12_3).f1)⟩ : S60) [.int .i64 ((rd_T60 l3 x12_3).f0), .int .i64 ((rd_T60 l3 x12_3).f1)] (fun k_ => k_ ≠ gb168) (fun _ => False) rfl rfl ?aP (fun _ hk => hk.elim) ?aF ?aO ?aB ?aS ?aL ?_; (case aP => exact k60_mkM _ _ _ (⟨((rd_T60 l3 x12_3).f0), ((rd_T60 l3 x12_3).f1)⟩ : S60)); (case aB => exact (hb4_ HB.out GE143.out GE144.out GE156.out GE168.out)); (case aF => exact (fun k_ hk => Kd.freshB (g := gb168) (o := .cells #[.int .i64 ((rd_T60 l3 x12_3).f0), .int .i64 ((rd_T60 l3 x12_3).f1)] 60 (0, 0)) (kb_ BK168.out) k_ hk)); (case aO => exact (kR_ HO_157004.out)); (case aS => exact (below_size (hb4_ HB.out GE143.out GE144.out GE156.out GE168.out))); (case aL => have := LMc122.out; omega); intro v171 w130 ho hb hg hat; rw [← Ny170.out] at ho; have n0_ := Aside0.mk (Kd.R_over' (kR_ HO_157001.out) (Kd.R_typed (kR_ HO_157004.out)) (by decide) hg); have n1_ := Aside0.mk (blk_grown (g := gb143) (o := .cells #[.int .i64 a0_0, .slice A0_1 l0_1.length c0_1, .int .i64 a0_2, .int .i64 a0_3, .slice A0_4 l0_4.length c0_4] 25 (0, 0)) (kb_ BK143.out) hg (Kd.R_ne HO_157004.out BK143.out (by decide))); have n2_ := Aside0.mk (blk_grown (g := gb144) (o := .cells #[.int .i64 0, .slice none 0 0, .int .i64 0, .int .i64 0, .slice none 0 0] 25 (0, 0)) (kb_ BK144.out) hg (Kd.R_ne HO_157004.out BK144.out (by decide))); have n3_ := Aside0.mk (blk_grown (g := gb156) (o := .cells #[.int .i64 a1, .slice Ao58 y161.length co58, .int .i64 (wrap64 (a0_2 - (ji45))), .int .i64 a2, .slice Ao76 x157004_3.length co76] 25 (0, 0)) (kb_ BK156.out) hg (Kd.R_ne HO_157004.out BK156.out (by decide))); have n4_ := Aside0.mk (blk_grown (g := gb168) (o := .cells #[.int .i64 ((rd_T60 l3 x12_3).f0), .int .i64 ((rd_T60 l3 x12_3).f1)] 60 (0, 0)) (kb_ BK168.out) hg (Kd.R_away HO_157004.out (fun _ hk => hk))); have n5_ := Aside0.mk (hb); have n6_ := Aside0.mk (ho); clear HO_157001; clear BK143; clear BK144; clear BK156; clear BK168; clear HB; clear HO_157004; have HO_157001 := n0_; have BK143 := n1_; have BK144 := n2_; have BK156 := n3_; have BK168 := n4_; have HB := n5_; have HO172 := n6_; clear n0_ n1_ n2_ n3_ n4_ n5_ n6_; clear ho hb hg hat; obtain ⟨Ao131, co131, eo131⟩ := Kd.R_slice HO172.out; subst eo131; have hcz132_0 : w130.cell? ⟨gb156, 0, none⟩ = some (.int .i64 a1) := (blk_cell BK156.out 0).trans rfl; have hcz132_1 : w130.cell? ⟨gb156, 1, none⟩ = some (.slice Ao58 y161.length co58) := (blk_cell BK156.out 1).trans rfl; have hcz132_2 : w130.cell? ⟨gb156, 2, none⟩ = some (.int .i64 (wrap64 (a0_2 - (ji45)))) := (blk_cell BK156.out 2).trans rfl; have hcz132_3 : w130.cell? ⟨gb156, 3, none⟩ = some (.int .i64 a2) := (blk_cell BK156.out 3).trans rfl; have hcz132_4 : w130.cell? ⟨gb156, 4, none⟩ = some (.slice Ao76 x157004_3.length co76) := (blk_cell BK156.out 4).trans rfl; have hfz132_0 := blk_frozen BK156.out 0; have hfz132_1 := blk_frozen BK156.out 1; have hfz132_2 := blk_frozen BK156.out 2; have hfz132_3 := blk_frozen BK156.out 3; have hfz132_4 := blk_frozen BK156.out 4)); try go_wp2_with (first | ((with_reducible refine gate_builtin (b := .append) (xs := #[.tmp 115, .tmp 117]) rfl ?_); (try (refine gate_guard (by rfl) ?_; dsimp only)); at_builtin; refine Kd.R_append k60 (w0 := w) w.heap.size rfl (.tmp 115) (.tmp 117) 23 60 (.agg #[(.int .i64 0), (.int .i64 0)]) 16 rfl Try.underlying23 info60 rfl (by decide) (by omega) (.slice Ao76 x157004_3.length co76) x157004_3 (⟨((rd_T60 l3 x12_3).f0), ((rd_T60 l3 x12_3).f1)⟩ : S60) [.int .i64 ((rd_T60 l3 x12_3).f0), .int .i64 ((rd_T60 l3 x12_3).f1)] (fun k_ => k_ ≠ gb168) (fun _ => False) rfl rfl ?aP (fun _ hk => hk.elim) ?aF ?aO ?aB ?aS ?aL ?_; (case aP => exact k60_mkM _ _ _ (⟨((rd_T60 l3 x12_3).f0), ((rd_T60 l3 x12_3).f1)⟩ : S60)); (case aB => exact (hb4_ HB.out GE143.out GE144.out GE156.out GE168.out)); (case aF => exact (fun k_ hk => Kd.freshB (g := gb168) (o := .cells #[.int .i64 ((rd_T60 l3 x12_3).f0), .int .i64 ((rd_T60 l3 x12_3).f1)] 60 (0, 0)) (kb_ BK168.out) k_ hk)); (case aO => exact (kR_ HO_157004.out)); (case aS => exact (below_size (hb4_ HB.out GE143.out GE144.out GE156.out GE168.out))); (case aL => have := LMc122.out; omega); intro v171 w130 ho hb hg hat; rw [← Ny170.out] at ho; have n0_ := Aside0.mk (Kd.R_over' (kR_ HO_157001.out) (Kd.R_typed (kR_ HO_157004.out)) (by decide) hg); have n1_ := Aside0.mk (blk_grown (g := gb143) (o := .cells #[.int .i64 a0_0, .slice A0_1 l0_1.length c0_1, .int .i64 a0_2, .int .i64 a0_3, .slice A0_4 l0_4.length c0_4] 25 (0, 0)) (kb_ BK143.out) hg (Kd.R_ne HO_157004.out BK143.out (by decide))); have n2_ := Aside0.mk (blk_grown (g := gb144) (o := .cells #[.int .i64 0, .slice none 0 0, .int .i64 0, .int .i64 0, .slice none 0 0] 25 (0, 0)) (kb_ BK144.out) hg (Kd.R_ne HO_157004.out BK144.out (by decide))); have n3_ := Aside0.mk (blk_grown (g := gb156) (o := .cells #[.int .i64 a1, .slice Ao58 y161.length co58, .int .i64 (wrap64 (a0_2 - (ji45))), .int .i64 a2, .slice Ao76 x157004_3.length co76] 25 (0, 0)) (kb_ BK156.out) hg (Kd.R_ne HO_157004.out BK156.out (by decide))); have n4_ := Aside0.mk (blk_grown (g := gb168) (o := .cells #[.int .i64 ((rd_T60 l3 x12_3).f0), .int .i64 ((rd_T60 l3 x12_3).f1)] 60 (0, 0)) (kb_ BK168.out) hg (Kd.R_away HO_157004.out (fun _ hk => hk))); have n5_ := Aside0.mk (hb); have n6_ := Aside0.mk (ho); clear HO_157001; clear BK143; clear BK144; clear BK156; clear BK168; clear HB; clear HO_157004; have HO_157001 := n0_; have BK143 := n1_; have BK144 := n2_; have BK156 := n3_; have BK168 := n4_; have HB := n5_; have HO172 := n6_; clear n0_ n1_ n2_ n3_ n4_ n5_ n6_; clear ho hb hg hat; obtain ⟨Ao131, co131, eo131⟩ := Kd.R_slice HO172.out; subst eo131; have hcz132_0 : w130.cell? ⟨gb156, 0, none⟩ = some (.int .i64 a1) := (blk_cell BK156.out 0).trans rfl; have hcz132_1 : w130.cell? ⟨gb156, 1, none⟩ = some (.slice Ao58 y161.length co58) := (blk_cell BK156.out 1).trans rfl; have hcz132_2 : w130.cell? ⟨gb156, 2, none⟩ = some (.int .i64 (wrap64 (a0_2 - (ji45)))) := (blk_cell BK156.out 2).trans rfl; have hcz132_3 : w130.cell? ⟨gb156, 3, none⟩ = some (.int .i64 a2) := (blk_cell BK156.out 3).trans rfl; have hcz132_4 : w130.cell? ⟨gb156, 4, none⟩ = some (.slice Ao76 x157004_3.length co76) := (blk_cell BK156.out 4).trans rfl; have hfz132_0 := blk_frozen BK156.out 0; have hfz132_1 := blk_frozen BK156.out 1; have hfz132_2 := blk_frozen BK156.out 2; have hfz132_3 := blk_frozen BK156.out 3; have hfz132_4 := blk_frozen BK156.out 4)))
                                    go_roundg kj66
                                    case measure => have := HJ4.out; have := HJ20.out; have := HK3.out; have := HJ66.out; omega
                                    case rel => exact ⟨(wrap64 (x12_3 + 1)), (y170), (.slice Ao131 y170.length co131), (by first | rfl | (simp; done) | (simp [*]; done)), H', ⟨by have := HJ4.out; have := HJ20.out; have := HK3.out; have := HJ66.out; omega⟩, ⟨by refine kR_ ?_; exact Kd.R_mono (Kd.R_f gb156 4 (.slice Ao131 y170.length co131) (Kd.R_types HO_157001.out BK156.out (by decide))) (fun _ hk => trivial)⟩, ⟨by refine kR_ ?_; exact Kd.R_mono (Kd.R_f gb156 4 (.slice Ao131 y170.length co131) (Kd.R_types HO172.out BK156.out (by decide))) (fun _ hk => trivial)⟩, ⟨by refine kb_ ?_; refine blk_far ?_ NB143_156.out _; refine kb_ ?_; exact BK143.out⟩, ⟨by refine kb_ ?_; refine blk_far ?_ NB144_156.out _; refine kb_ ?_; exact BK144.out⟩, ⟨by refine kb_ ?_; refine blk_put (cs := #[.int .i64 a1, .slice Ao58 y161.length co58, .int .i64 (wrap64 (a0_2 - (ji45))), .int .i64 a2, .slice Ao76 x157004_3.length co76]) ?_ 4 _ rfl; refine kb_ ?_; exact BK156.out⟩, ⟨by repeat (first | (with_reducible first | exact HB.out | apply below_alloc | apply pw_below_drewN | apply below_drew1 | refine below_set ?_ GE143.out | refine below_set ?_ GE144.out | refine below_set ?_ GE156.out | refine below_set ?_ GE168.out) | exact HB.out)⟩⟩
                                  · rw [if_neg c122] at H
                                    exact absurd H (by simp)
                                · replace c121 := Bool.eq_false_iff.mpr c121
                                  subst c121
                                  have H1 : (spec_MouthHear.l0 kj66 a1 l3 (ji45) (wrap64 (x12_3 + 1)) a1 y161 (wrap64 (a0_2 - (ji45))) a2 x157004_3) = some (r1, r2, r3, r4, r5, r6) := by rw [if_neg (show ¬ (false = true) by decide)] at H; exact H
                                  clear H
                                  have H := H1
                                  clear H1
                                  have H' := Aside0.mk H
                                  clear H
                                  go_wp2
                                  repeat (go_quiet (fail); try go_wp2)
                                  go_roundg kj66
                                  case measure => have := HJ4.out; have := HJ20.out; have := HK3.out; have := HJ66.out; omega
                                  case rel => exact ⟨(wrap64 (x12_3 + 1)), (x157004_3), (.slice Ao76 x157004_3.length co76), (by first | rfl | (simp; done) | (simp [*]; done)), H', ⟨by have := HJ4.out; have := HJ20.out; have := HK3.out; have := HJ66.out; omega⟩, ⟨kR_ HO_157001.out⟩, ⟨by refine kR_ ?_; exact Kd.R_mono HO_157004.out (fun _ hk => trivial)⟩, ⟨by refine kb_ ?_; exact BK143.out⟩, ⟨by refine kb_ ?_; exact BK144.out⟩, ⟨by refine kb_ ?_; exact BK156.out⟩, ⟨by repeat (first | (with_reducible first | exact HB.out | apply below_alloc | apply pw_below_drewN | apply below_drew1 | refine below_set ?_ GE143.out | refine below_set ?_ GE144.out | refine below_set ?_ GE156.out | refine below_set ?_ GE168.out) | exact HB.out)⟩⟩
                          · rw [if_neg c66] at H
                            exact absurd H (by simp)
                        · rw [if_neg c65] at H
                          have c65b0 : decide (x12_3 < (l3.length : Int)) = false := decide_eq_false c65
                          clear c65
                          by_cases c133 : a1 > 1000000
                          · rw [if_pos c133] at H
                            have c133b0 : decide (1000000 < a1) = true := decide_eq_true c133
                            clear c133
                            simp only [Option.some.injEq, Prod.mk.injEq] at H
                            obtain ⟨rfl, rfl, rfl, rfl, rfl, rfl⟩ := H
                            have hnb134 := NB144_143.out
                            have hnc134 := NB143_144.out
                            have hnb135 := NB144_156.out
                            have hnc135 := NB156_144.out
                            have hcz136_0 : wr.cell? ⟨gb144, 0, none⟩ = some (.int .i64 0) := (blk_cell BK144.out 0).trans rfl
                            have hcz136_1 : wr.cell? ⟨gb144, 1, none⟩ = some (.slice none 0 0) := (blk_cell BK144.out 1).trans rfl
                            have hcz136_2 : wr.cell? ⟨gb144, 2, none⟩ = some (.int .i64 0) := (blk_cell BK144.out 2).trans rfl
                            have hcz136_3 : wr.cell? ⟨gb144, 3, none⟩ = some (.int .i64 0) := (blk_cell BK144.out 3).trans rfl
                            have hcz136_4 : wr.cell? ⟨gb144, 4, none⟩ = some (.slice none 0 0) := (blk_cell BK144.out 4).trans rfl
                            have hfz136_0 := blk_frozen BK144.out 0
                            have hfz136_1 := blk_frozen BK144.out 1
                            have hfz136_2 := blk_frozen BK144.out 2
                            have hfz136_3 := blk_frozen BK144.out 3
                            have hfz136_4 := blk_frozen BK144.out 4
                            go_wp2
                            repeat (go_quiet (fail); try go_wp2)
                            refine bodyPost_ret (results_ct rfl _ _ gb144 25 #[.int .i64 0, .slice none 0 0, .int .i64 0, .int .i64 0, .slice none 0 0] (0, 0) _ rfl (by refine kb_ ?_; refine blk_put (cs := #[.int .i64 0, .slice none 0 0, .int .i64 0, .int .i64 0, .slice none 0 0]) ?_ 4 _ rfl; refine kb_ ?_; refine blk_put (cs := #[.int .i64 0, .slice none 0 0, .int .i64 0, .int .i64 0, .slice none 0 0]) ?_ 3 _ rfl; refine kb_ ?_; refine blk_put (cs := #[.int .i64 0, .slice none 0 0, .int .i64 0, .int .i64 0, .slice none 0 0]) ?_ 2 _ rfl; refine kb_ ?_; refine blk_put (cs := #[.int .i64 0, .slice none 0 0, .int .i64 0, .int .i64 0, .slice none 0 0]) ?_ 1 _ rfl; refine kb_ ?_; refine blk_put (cs := #[.int .i64 0, .slice none 0 0, .int .i64 0, .int .i64 0, .slice none 0 0]) ?_ 0 _ rfl; refine kb_ ?_; exact BK144.out) Try.underlying25 rfl (by kernel_rfl)) rfl ?_
                            exact ⟨_, _, by first | rfl | (simp [errW_none, errW_some] <;> rfl) | (simp only [← hji45]; first | rfl | (simp [errW_none, errW_some] <;> rfl)) | (simp [*, errW_none, errW_some] <;> rfl), by first | exact Kd.R_nil _ _ _ _ _ | exact Kd.N_nil _ _ _ _ _ | exact Kd.V_nil _ _ _ _ _ | exact Kd.Q_nil _ _ _ _ _ | exact Kd.S_nil _ _ _ _ _, by first | exact Kd.R_nil _ _ _ _ _ | exact Kd.N_nil _ _ _ _ _ | exact Kd.V_nil _ _ _ _ _ | exact Kd.Q_nil _ _ _ _ _ | exact Kd.S_nil _ _ _ _ _, by repeat (first | (with_reducible first | exact HB.out | apply below_alloc | apply pw_below_drewN | apply below_drew1 | refine below_set ?_ GE143.out | refine below_set ?_ GE144.out | refine below_set ?_ GE156.out) | exact HB.out)⟩
                          · rw [if_neg c133] at H
                            have c133b0 : decide (1000000 < a1) = false := decide_eq_false c133
                            clear c133
                            simp only [Option.some.injEq, Prod.mk.injEq] at H
                            obtain ⟨rfl, rfl, rfl, rfl, rfl, rfl⟩ := H
                            have hnb137 := NB156_143.out
                            have hnc137 := NB143_156.out
                            have hnb138 := NB156_144.out
                            have hnc138 := NB144_156.out
                            have hcz139_0 : wr.cell? ⟨gb156, 0, none⟩ = some (.int .i64 a1) := (blk_cell BK156.out 0).trans rfl
                            have hcz139_1 : wr.cell? ⟨gb156, 1, none⟩ = some (.slice Ao58 y161.length co58) := (blk_cell BK156.out 1).trans rfl
                            have hcz139_2 : wr.cell? ⟨gb156, 2, none⟩ = some (.int .i64 (wrap64 (a0_2 - (ji45)))) := (blk_cell BK156.out 2).trans rfl
                            have hcz139_3 : wr.cell? ⟨gb156, 3, none⟩ = some (.int .i64 a2) := (blk_cell BK156.out 3).trans rfl
                            have hcz139_4 : wr.cell? ⟨gb156, 4, none⟩ = some (u157004) := (blk_cell BK156.out 4).trans rfl
                            have hfz139_0 := blk_frozen BK156.out 0
                            have hfz139_1 := blk_frozen BK156.out 1
                            have hfz139_2 := blk_frozen BK156.out 2
                            have hfz139_3 := blk_frozen BK156.out 3
                            have hfz139_4 := blk_frozen BK156.out 4
                            have hnb140 := NB144_143.out
                            have hnc140 := NB143_144.out
                            have hcz141_0 : wr.cell? ⟨gb144, 0, none⟩ = some (.int .i64 0) := (blk_cell BK144.out 0).trans rfl
                            have hcz141_1 : wr.cell? ⟨gb144, 1, none⟩ = some (.slice none 0 0) := (blk_cell BK144.out 1).trans rfl
                            have hcz141_2 : wr.cell? ⟨gb144, 2, none⟩ = some (.int .i64 0) := (blk_cell BK144.out 2).trans rfl
                            have hcz141_3 : wr.cell? ⟨gb144, 3, none⟩ = some (.int .i64 0) := (blk_cell BK144.out 3).trans rfl
                            have hcz141_4 : wr.cell? ⟨gb144, 4, none⟩ = some (.slice none 0 0) := (blk_cell BK144.out 4).trans rfl
                            have hfz141_0 := blk_frozen BK144.out 0
                            have hfz141_1 := blk_frozen BK144.out 1
                            have hfz141_2 := blk_frozen BK144.out 2
                            have hfz141_3 := blk_frozen BK144.out 3
                            have hfz141_4 := blk_frozen BK144.out 4
                            obtain ⟨Ao142, co142, eo142⟩ := Kd.R_slice HO_157004.out
                            subst eo142
                            go_wp2
                            repeat (go_quiet (fail); try go_wp2)
                            refine bodyPost_ret (results_ct rfl _ _ gb144 25 #[.int .i64 a1, .slice Ao58 y161.length co58, .int .i64 (wrap64 (a0_2 - (ji45))), .int .i64 a2, .slice Ao142 x157004_3.length co142] (0, 0) _ rfl (by refine kb_ ?_; refine blk_put (cs := #[.int .i64 a1, .slice Ao58 y161.length co58, .int .i64 (wrap64 (a0_2 - (ji45))), .int .i64 a2, .slice none 0 0]) ?_ 4 _ rfl; refine kb_ ?_; refine blk_put (cs := #[.int .i64 a1, .slice Ao58 y161.length co58, .int .i64 (wrap64 (a0_2 - (ji45))), .int .i64 0, .slice none 0 0]) ?_ 3 _ rfl; refine kb_ ?_; refine blk_put (cs := #[.int .i64 a1, .slice Ao58 y161.length co58, .int .i64 0, .int .i64 0, .slice none 0 0]) ?_ 2 _ rfl; refine kb_ ?_; refine blk_put (cs := #[.int .i64 a1, .slice none 0 0, .int .i64 0, .int .i64 0, .slice none 0 0]) ?_ 1 _ rfl; refine kb_ ?_; refine blk_put (cs := #[.int .i64 0, .slice none 0 0, .int .i64 0, .int .i64 0, .slice none 0 0]) ?_ 0 _ rfl; refine kb_ ?_; exact BK144.out) Try.underlying25 rfl (by kernel_rfl)) rfl ?_
                            exact ⟨_, _, by first | rfl | (simp [errW_none, errW_some] <;> rfl) | (simp only [← hji45]; first | rfl | (simp [errW_none, errW_some] <;> rfl)) | (simp [*, errW_none, errW_some] <;> rfl), by refine kR_ ?_; exact Kd.R_mono (Kd.R_f gb144 4 (.slice Ao142 x157004_3.length co142) (Kd.R_f gb144 3 (.int .i64 a2) (Kd.R_f gb144 2 (.int .i64 (wrap64 (a0_2 - (ji45)))) (Kd.R_f gb144 1 (.slice Ao58 y161.length co58) (Kd.R_f gb144 0 (.int .i64 a1) (Kd.R_types HO_157001.out BK144.out (by decide))))))) (fun _ hk => trivial), by refine kR_ ?_; exact Kd.R_mono (Kd.R_f gb144 4 (.slice Ao142 x157004_3.length co142) (Kd.R_f gb144 3 (.int .i64 a2) (Kd.R_f gb144 2 (.int .i64 (wrap64 (a0_2 - (ji45)))) (Kd.R_f gb144 1 (.slice Ao58 y161.length co58) (Kd.R_f gb144 0 (.int .i64 a1) (Kd.R_types HO_157004.out BK144.out (by decide))))))) (fun _ hk => trivial), by repeat (first | (with_reducible first | exact HB.out | apply below_alloc | apply pw_below_drewN | apply below_drew1 | refine below_set ?_ GE143.out | refine below_set ?_ GE144.out | refine below_set ?_ GE156.out) | exact HB.out)⟩
                  · rw [if_neg c48] at H
                    exact absurd H (by simp)
                · rw [if_neg c47] at H
                  exact absurd H (by simp)
              · rw [if_neg c46] at H
                exact absurd H (by simp)

end Go.Proofs.Ytjiodkbbmhhccab.PFnMouthWrite
