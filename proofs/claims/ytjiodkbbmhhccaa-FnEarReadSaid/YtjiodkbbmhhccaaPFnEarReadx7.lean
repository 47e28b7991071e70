/- Printed by wip/xp/xprint.sh out of the translation, for this claim: what each function answers, as a plain function, and that the machine does just that. No condition. -/
import Derived.Test.YtjiodkbbmhhccaaPFnEarReadx0
import Derived.Test.YtjiodkbbmhhccaaPFnEarReadx3
import Derived.Test.YtjiodkbbmhhccaaPFnEarReadx4
import Derived.Test.YtjiodkbbmhhccaaPFnEarReadx6
namespace Go.Proofs.Ytjiodkbbmhhccaa.PFnEarRead
open Go.RowKit Go.Proofs.YtjiodkbbmhhccaaW.PrintWords Go.Proofs.YtjiodkbbmhhccaaW.PrintLast Go.Proofs.YtjiodkbbmhhccaaW.PrintMore
attribute [local go_sem] max2_int min2_int max_two min_two max_three min_three max_four min_four   -- for this text's walks alone
set_option linter.unusedVariables false
set_option linter.unusedSimpArgs false

/-! ### spec_EarHear: function 70 -/
mutual
def spec_EarHear.j0 : Nat → Int → List Int → Bool → Int → Int → List Int → List (S70) → Option (Int × Int × List Int × (List (S70)))
  | 0, _, _, _, _, _, _, _ => none
  | k + 1, x1, x2, x19, x214000, x214001, x214002, x214003 => if x19 = true then (some (0, 0, ([] : List Int), ([] : List (S70)))) else ((spec_EarFree.f k x214000 x214001 x214002 x214003).bind fun t217 => ((some (([] : List (S70)) : List (S70))).bind fun y218 => (if y218.length + x214003.length < 8796093022208 then (spec_EarHear.l0 k x1 x2 t217 (y218 ++ x214003) 0 x214000 x214001 x214002 x214003) else (none))))
def spec_EarHear.l0 : Nat → Int → List Int → Int → List (S70) → Int → Int → Int → List Int → List (S70) → Option (Int × Int × List Int × (List (S70)))
  | 0, _, _, _, _, _, _, _, _, _ => none
  | k + 1, x1, x2, x7, x8, x9, x214000, x214001, x214002, x214003 => if x9 < (x2.length : Int) then (if (wrap64 (x1 + x9)) ≥ x214000 then (if (wrap64 (x1 + x9)) < (wrap64 (x214000 + x7)) then (if 0 ≤ x9 then ((spec_l12Put.f k x8 (wrap64 (x1 + x9)) (rd x2 x9)).bind fun t225 => (spec_EarHear.l0 k x1 x2 x7 t225 (wrap64 (x9 + 1)) x214000 x214001 x214002 x214003)) else (none)) else (spec_EarHear.l0 k x1 x2 x7 x8 (wrap64 (x9 + 1)) x214000 x214001 x214002 x214003)) else (spec_EarHear.l0 k x1 x2 x7 x8 (wrap64 (x9 + 1)) x214000 x214001 x214002 x214003)) else ((some (([] : List Int) : List Int)).bind fun y228 => (if y228.length + x214002.length < 140737488355328 then (spec_EarHear.l1 k x8 0 x214000 x214001 (y228 ++ x214002)) else (none)))
def spec_EarHear.j3 : Nat → List (S70) → Int → Int → Int → List Int → Option (Int × Int × List Int × (List (S70)))
  | 0, _, _, _, _, _ => none
  | k + 1, x8, x11, x235000, x235001, x235002 => if 0 ≤ x11 then (if x11 ≤ (x8.length : Int) then (if x235000 > 1000000 then (some (0, 0, ([] : List Int), ([] : List (S70)))) else (some (x235000, x235001, x235002, (x8.drop (x11 : Int).toNat)))) else (none)) else (none)
def spec_EarHear.l1 : Nat → List (S70) → Int → Int → Int → List Int → Option (Int × Int × List Int × (List (S70)))
  | 0, _, _, _, _, _ => none
  | k + 1, x8, x11, x235000, x235001, x235002 => if x11 < (x8.length : Int) then (if 0 ≤ x11 then (if ((rd_T70 x8 x11).f0) = x235000 then (if x235002.length < 140737488355328 then (spec_EarHear.l1 k x8 (wrap64 (x11 + 1)) (wrap64 (x235000 + 1)) x235001 (x235002 ++ [(rd_T70 x8 x11).f1])) else (none)) else (spec_EarHear.j3 k x8 x11 x235000 x235001 x235002)) else (none)) else (spec_EarHear.j3 k x8 x11 x235000 x235001 x235002)
end
def spec_EarHear.f (k : Nat) (a0_0 : Int) (a0_1 : Int) (l0_2 : List Int) (l0_3 : List (S70)) (a1 : Int) (l2 : List Int) : Option (Int × Int × List Int × (List (S70))) := (spec_EarOk.f k a0_0 a0_1 l0_2 l0_3).bind fun t215 => (if t215 = true then ((spec_l1In.f a1 0 1000000).bind fun t216 => (spec_EarHear.j0 k a1 l2 (!t216) a0_0 a0_1 l0_2 l0_3)) else (spec_EarHear.j0 k a1 l2 true a0_0 a0_1 l0_2 l0_3))
theorem spec_EarHear.mono_l : ∀ k, (∀ y0 y1 y2 y3 y4 y5 y6, LeO (spec_EarHear.j0 k y0 y1 y2 y3 y4 y5 y6) (spec_EarHear.j0 (k + 1) y0 y1 y2 y3 y4 y5 y6)) ∧ (∀ y0 y1 y2 y3 y4 y5 y6 y7 y8, LeO (spec_EarHear.l0 k y0 y1 y2 y3 y4 y5 y6 y7 y8) (spec_EarHear.l0 (k + 1) y0 y1 y2 y3 y4 y5 y6 y7 y8)) ∧ (∀ y0 y1 y2 y3 y4, LeO (spec_EarHear.j3 k y0 y1 y2 y3 y4) (spec_EarHear.j3 (k + 1) y0 y1 y2 y3 y4)) ∧ (∀ y0 y1 y2 y3 y4, LeO (spec_EarHear.l1 k y0 y1 y2 y3 y4) (spec_EarHear.l1 (k + 1) y0 y1 y2 y3 y4))
  | 0 => ⟨fun _ _ _ _ _ _ _ r h => by simp [spec_EarHear.j0] at h, fun _ _ _ _ _ _ _ _ _ r h => by simp [spec_EarHear.l0] at h, fun _ _ _ _ _ r h => by simp [spec_EarHear.j3] at h, fun _ _ _ _ _ r h => by simp [spec_EarHear.l1] at h⟩
  | k + 1 => by
    obtain ⟨ih0, ih1, ih2, ih3⟩ := spec_EarHear.mono_l k
    refine ⟨?_, ?_, ?_, ?_⟩
    · intro y0 y1 y2 y3 y4 y5 y6
      unfold spec_EarHear.j0
      repeat' first
      | (with_reducible exact ih0 _ _ _ _ _ _ _)
      | (with_reducible exact ih1 _ _ _ _ _ _ _ _ _)
      | (with_reducible exact ih2 _ _ _ _ _)
      | (with_reducible exact ih3 _ _ _ _ _)
      | (with_reducible exact spec_EarFree.mono _ _ _ _ _)
      | (with_reducible exact spec_EarOk.mono _ _ _ _ _)
      | (with_reducible exact spec_l12Put.mono _ _ _ _)
      | (with_reducible exact LeO.refl _)
      | (with_reducible exact LeO.none _)
      | (with_reducible refine LeO.ite ?_ ?_)
      | (with_reducible refine LeO.bind ?_ (fun _ => ?_))
      | exact ih0 _ _ _ _ _ _ _
      | exact ih1 _ _ _ _ _ _ _ _ _
      | exact ih2 _ _ _ _ _
      | exact ih3 _ _ _ _ _
      | exact spec_EarFree.mono _ _ _ _ _
      | exact spec_EarOk.mono _ _ _ _ _
      | exact spec_l12Put.mono _ _ _ _
      | exact LeO.none _
      | refine LeO.ite ?_ ?_
      | refine LeO.bind ?_ (fun _ => ?_)
    · intro y0 y1 y2 y3 y4 y5 y6 y7 y8
      unfold spec_EarHear.l0
      repeat' first
      | (with_reducible exact ih0 _ _ _ _ _ _ _)
      | (with_reducible exact ih1 _ _ _ _ _ _ _ _ _)
      | (with_reducible exact ih2 _ _ _ _ _)
      | (with_reducible exact ih3 _ _ _ _ _)
      | (with_reducible exact spec_EarFree.mono _ _ _ _ _)
      | (with_reducible exact spec_EarOk.mono _ _ _ _ _)
      | (with_reducible exact spec_l12Put.mono _ _ _ _)
      | (with_reducible exact LeO.refl _)
      | (with_reducible exact LeO.none _)
      | (with_reducible refine LeO.ite ?_ ?_)
      | (with_reducible refine LeO.bind ?_ (fun _ => ?_))
      | exact ih0 _ _ _ _ _ _ _
      | exact ih1 _ _ _ _ _ _ _ _ _
      | exact ih2 _ _ _ _ _
      | exact ih3 _ _ _ _ _
      | exact spec_EarFree.mono _ _ _ _ _
      | exact spec_EarOk.mono _ _ _ _ _
      | exact spec_l12Put.mono _ _ _ _
      | exact LeO.none _
      | refine LeO.ite ?_ ?_
      | refine LeO.bind ?_ (fun _ => ?_)
    · intro y0 y1 y2 y3 y4
      unfold spec_EarHear.j3
      repeat' first
      | (with_reducible exact ih0 _ _ _ _ _ _ _)
      | (with_reducible exact ih1 _ _ _ _ _ _ _ _ _)
      | (with_reducible exact ih2 _ _ _ _ _)
      | (with_reducible exact ih3 _ _ _ _ _)
      | (with_reducible exact spec_EarFree.mono _ _ _ _ _)
      | (with_reducible exact spec_EarOk.mono _ _ _ _ _)
      | (with_reducible exact spec_l12Put.mono _ _ _ _)
      | (with_reducible exact LeO.refl _)
      | (with_reducible exact LeO.none _)
      | (with_reducible refine LeO.ite ?_ ?_)
      | (with_reducible refine LeO.bind ?_ (fun _ => ?_))
      | exact ih0 _ _ _ _ _ _ _
      | exact ih1 _ _ _ _ _ _ _ _ _
      | exact ih2 _ _ _ _ _
      | exact ih3 _ _ _ _ _
      | exact spec_EarFree.mono _ _ _ _ _
      | exact spec_EarOk.mono _ _ _ _ _
      | exact spec_l12Put.mono _ _ _ _
      | exact LeO.none _
      | refine LeO.ite ?_ ?_
      | refine LeO.bind ?_ (fun _ => ?_)
    · intro y0 y1 y2 y3 y4
      unfold spec_EarHear.l1
      repeat' first
      | (with_reducible exact ih0 _ _ _ _ _ _ _)
      | (with_reducible exact ih1 _ _ _ _ _ _ _ _ _)
      | (with_reducible exact ih2 _ _ _ _ _)
      | (with_reducible exact ih3 _ _ _ _ _)
      | (with_reducible exact spec_EarFree.mono _ _ _ _ _)
      | (with_reducible exact spec_EarOk.mono _ _ _ _ _)
      | (with_reducible exact spec_l12Put.mono _ _ _ _)
      | (with_reducible exact LeO.refl _)
      | (with_reducible exact LeO.none _)
      | (with_reducible refine LeO.ite ?_ ?_)
      | (with_reducible refine LeO.bind ?_ (fun _ => ?_))
      | exact ih0 _ _ _ _ _ _ _
      | exact ih1 _ _ _ _ _ _ _ _ _
      | exact ih2 _ _ _ _ _
      | exact ih3 _ _ _ _ _
      | exact spec_EarFree.mono _ _ _ _ _
      | exact spec_EarOk.mono _ _ _ _ _
      | exact spec_l12Put.mono _ _ _ _
      | exact LeO.none _
      | refine LeO.ite ?_ ?_
      | refine LeO.bind ?_ (fun _ => ?_)
theorem spec_EarHear.mono : ∀ a0 a1 a2 a3 a4 a5 k, LeO (spec_EarHear.f k a0 a1 a2 a3 a4 a5) (spec_EarHear.f (k + 1) a0 a1 a2 a3 a4 a5) := by
  intro a0 a1 a2 a3 a4 a5 k
  obtain ⟨ih0, ih1, ih2, ih3⟩ := spec_EarHear.mono_l k
  unfold spec_EarHear.f
  repeat' first
      | (with_reducible exact ih0 _ _ _ _ _ _ _)
      | (with_reducible exact ih1 _ _ _ _ _ _ _ _ _)
      | (with_reducible exact ih2 _ _ _ _ _)
      | (with_reducible exact ih3 _ _ _ _ _)
      | (with_reducible exact spec_EarFree.mono _ _ _ _ _)
      | (with_reducible exact spec_EarOk.mono _ _ _ _ _)
      | (with_reducible exact spec_l12Put.mono _ _ _ _)
      | (with_reducible exact LeO.refl _)
      | (with_reducible exact LeO.none _)
      | (with_reducible refine LeO.ite ?_ ?_)
      | (with_reducible refine LeO.bind ?_ (fun _ => ?_))
      | exact ih0 _ _ _ _ _ _ _
      | exact ih1 _ _ _ _ _ _ _ _ _
      | exact ih2 _ _ _ _ _
      | exact ih3 _ _ _ _ _
      | exact spec_EarFree.mono _ _ _ _ _
      | exact spec_EarOk.mono _ _ _ _ _
      | exact spec_l12Put.mono _ _ _ _
      | exact LeO.none _
      | refine LeO.ite ?_ ?_
      | refine LeO.bind ?_ (fun _ => ?_)
def spec_EarHear.T10 : Bool × List (List Nat × List Nat) := (true, [([], []), ([0], [0]), ([], []), ([2], [2]), ([], []), ([], []), ([5], [5]), ([4, 6], [4, 6]), ([1, 3, 7], [1, 3, 7]), ([], []), ([9, 8, 7, 0, 1, 2, 3, 4, 5, 6, 7, 8, 9], [8, 9])])
def spec_EarHear.B10 : List Nat := [0, 1, 0, 4, 0, 0, 32, 112, 255, 0, 1023]
theorem spec_EarHear.tab10 : rtab .any (opsOf Try.f70 10) = spec_EarHear.T10 := by kernel_rfl
theorem spec_EarHear.bits10 : waitsOk spec_EarHear.T10.2 spec_EarHear.B10 = true := by kernel_rfl
def spec_EarHear.T12 : Bool × List (List Nat × List Nat) := (true, [([], []), ([], []), ([1], [1]), ([0, 2], [0, 2]), ([3], [3]), ([4], [4]), ([4], [4]), ([5, 6, 4], [4, 5, 6]), ([7, 4], [4, 7]), ([8, 4], [4, 8]), ([4], [4]), ([10, 4], [4, 10]), ([9, 11, 4], [4, 9, 11]), ([4, 12], [4, 12])])
def spec_EarHear.B12 : List Nat := [0, 0, 2, 7, 15, 31, 31, 127, 255, 511, 31, 1055, 4095, 8191]
theorem spec_EarHear.tab12 : rtab .any (opsOf Try.f70 12) = spec_EarHear.T12 := by kernel_rfl
theorem spec_EarHear.bits12 : waitsOk spec_EarHear.T12.2 spec_EarHear.B12 = true := by kernel_rfl
def spec_EarHear.T13 : Bool × List (List Nat × List Nat) := (true, [([], []), ([0], [0]), ([], []), ([], []), ([2, 3], [2, 3]), ([4], [4]), ([5], [5]), ([6], [6]), ([1, 7], [1, 7]), ([0, 1, 2, 3, 4, 5, 6, 7, 8], []), ([9, 8, 8, 0, 1, 2, 3, 4, 5, 6, 7, 8], [8, 9])])
def spec_EarHear.B13 : List Nat := [0, 1, 0, 0, 12, 28, 60, 124, 255, 511, 1023]
theorem spec_EarHear.tab13 : rtab .any (opsOf Try.f70 13) = spec_EarHear.T13 := by kernel_rfl
theorem spec_EarHear.bits13 : waitsOk spec_EarHear.T13.2 spec_EarHear.B13 = true := by kernel_rfl
set_option maxHeartbeats 8000000 in
set_option maxRecDepth 100000 in
theorem spec_EarHear.calls (k : Nat) (a0_0 : Int) (a0_1 : Int) (A0_2 : Option Addr) (c0_2 : Nat) (l0_2 : List Int) (A0_3 : Option Addr) (c0_3 : Nat) (l0_3 : List (S70)) (a1 : Int) (A2 : Option Addr) (c2 : Nat) (l2 : List Int) (r1 : Int) (r2 : Int) (r3 : List Int) (r4 : List (S70)) (w : World) (hr0_2 : Kd.C (Kd.int .u8) w A0_2 l0_2.length l0_2) (hc0_2 : l0_2.length ≤ c0_2) (hr0_3 : Kd.C k70 w A0_3 l0_3.length l0_3) (hc0_3 : l0_3.length ≤ c0_3) (hr2 : Kd.C (Kd.int .u8) w A2 l2.length l2) (hc2 : l2.length ≤ c2) (h : spec_EarHear.f k a0_0 a0_1 l0_2 l0_3 a1 l2 = some (r1, r2, r3, r4)) :
    Calls Try.prog 70 #[.agg #[.int .i64 a0_0, .int .i64 a0_1, .slice A0_2 l0_2.length c0_2, .slice A0_3 l0_3.length c0_3], .int .i64 a1, .slice A2 l2.length c2] w fun e w' => ∃ v2_ v3_ : Value, e = .returned (.agg #[.int .i64 r1, .int .i64 r2, v2_, v3_]) ∧ Kd.R (Kd.int .u8) 5 w' w.heap.size (fun _ => True) v2_ r3 ∧ Kd.Q k70 70 w' w.heap.size (fun _ => True) v3_ r4 ∧ Below w.heap.size w w' := by
  have hu25 := Try.underlying25
  have hu70 := Try.underlying70
  have HR0_2 := Aside0.mk hr0_2
  have HC0_2 := Aside0.mk hc0_2
  clear hr0_2 hc0_2
  have HR0_3 := Aside0.mk hr0_3
  have HC0_3 := Aside0.mk hc0_3
  clear hr0_3 hc0_3
  have HR2 := Aside0.mk hr2
  have HC2 := Aside0.mk hc2
  clear hr2 hc2
  have HB := Aside0.mk (Below.refl w.heap.size w)
  have H : ((spec_EarOk.f k a0_0 a0_1 l0_2 l0_3).bind fun t215 => (if t215 = true then ((spec_l1In.f a1 0 1000000).bind fun t216 => (spec_EarHear.j0 k a1 l2 (!t216) a0_0 a0_1 l0_2 l0_3)) else (spec_EarHear.j0 k a1 l2 true a0_0 a0_1 l0_2 l0_3))) = some (r1, r2, r3, r4) := h
  clear h
  have HC4 := Aside0.mk H
  clear H
  go_enter Try.func70, Try.ntmps70
  go_upto_region 1 with (first | ((with_reducible refine gate_dst (N := 3) rfl ?_); refine box_event ?hg (N := 3) ?hd (cs := #[.int .i64 a0_0, .int .i64 a0_1, .slice A0_2 l0_2.length c0_2, .slice A0_3 l0_3.length c0_3]) (t := 25) ?hr ?_; (case hd => rfl); (case hg => rfl); (case hr => first | (go_simp; done) | (go_simp; rfl)); intro gb213 hg w5 hbox hb; have n0_ := Aside0.mk (below_step (hb0_ HB.out) hb); have n1_ := Aside0.mk (hbox); have n2_ := Aside0.mk ((by rw [hg]; exact (below_size (hb0_ HB.out)) : w.heap.size ≤ gb213)); have n3_ := Aside0.mk ((by rw [hg]; exact (below_size (hb0_ HB.out)) : w.heap.size ≤ gb213)); clear HB; have HB := n0_; have BK213 := n1_; have GW213 := n2_; have GE213 := n3_; clear n0_ n1_ n2_ n3_; clear hb hbox hg) | ((with_reducible refine gate_dst (N := 6) rfl ?_); refine box_event ?hg (N := 6) ?hd (cs := #[.int .i64 0, .int .i64 0, .slice none 0 0, .slice none 0 0]) (t := 25) ?hr ?_; (case hd => rfl); (case hg => rfl); (case hr => first | (go_simp; done) | (go_simp; rfl)); intro gb214 hg w6 hbox hb; have n0_ := Aside0.mk (blk_below (g := gb213) (o := .cells #[.int .i64 a0_0, .int .i64 a0_1, .slice A0_2 l0_2.length c0_2, .slice A0_3 l0_3.length c0_3] 25 (0, 0)) (kb_ BK213.out) hb); have n1_ := Aside0.mk (below_step (hb1_ HB.out GE213.out) hb); have n2_ := Aside0.mk (hbox); have n3_ := Aside0.mk ((by rw [hg]; exact (below_size (hb1_ HB.out GE213.out)) : w.heap.size ≤ gb214)); have n4_ := Aside0.mk ((by rw [hg]; exact (below_size (hb1_ HB.out GE213.out)) : w.heap.size ≤ gb214)); have n5_ := Aside0.mk ((by rw [hg]; exact Nat.ne_of_lt (blk_lt (g := gb213) (o := .cells #[.int .i64 a0_0, .int .i64 a0_1, .slice A0_2 l0_2.length c0_2, .slice A0_3 l0_3.length c0_3] 25 (0, 0)) (kb_ BK213.out)) : gb213 ≠ gb214)); have n6_ := Aside0.mk ((by rw [hg]; exact Nat.ne_of_gt (blk_lt (g := gb213) (o := .cells #[.int .i64 a0_0, .int .i64 a0_1, .slice A0_2 l0_2.length c0_2, .slice A0_3 l0_3.length c0_3] 25 (0, 0)) (kb_ BK213.out)) : gb214 ≠ gb213)); clear BK213; clear HB; have BK213 := n0_; have HB := n1_; have BK214 := n2_; have GW214 := n3_; have GE214 := n4_; have NB213_214 := n5_; have NB214_213 := n6_; clear n0_ n1_ n2_ n3_ n4_ n5_ n6_; clear hb hbox hg))
  (try simp only [Act.put, List.setIfInBounds_toArray, List.set_cons_zero, List.set_cons_succ])
  go_cut [19] (fun v19 wc => ∃ (kq : Nat) (x19_3 : Bool), v19 = .bool x19_3 ∧ Aside0 (spec_EarHear.j0 kq a1 l2 x19_3 a0_0 a0_1 l0_2 l0_3 = some (r1, r2, r3, r4)) ∧ Aside0 (kq ≤ k) ∧ Aside0 (wc.heap[gb213]? = some (.cells #[.int .i64 a0_0, .int .i64 a0_1, (.slice A0_2 l0_2.length c0_2), (.slice A0_3 l0_3.length c0_3)] 25 (0, 0))) ∧ Aside0 (wc.heap[gb214]? = some (.cells #[.int .i64 0, .int .i64 0, (.slice none 0 0), (.slice none 0 0)] 25 (0, 0))) ∧ Aside0 (Below w.heap.size w wc))
  case first =>
    have H := HC4.out
    clear HC4
    replace H := Option.bind_eq_some_iff.mp H
    obtain ⟨t215, A70, H⟩ := H
    replace H : (if t215 = true then ((spec_l1In.f a1 0 1000000).bind fun t216 => (spec_EarHear.j0 k a1 l2 (!t216) a0_0 a0_1 l0_2 l0_3)) else (spec_EarHear.j0 k a1 l2 true a0_0 a0_1 l0_2 l0_3)) = some (r1, r2, r3, r4) := H
    have A7 := Aside0.mk A70
    clear A70
    by_cases c8 : t215 = true
    · subst c8
      have H1 : ((spec_l1In.f a1 0 1000000).bind fun t216 => (spec_EarHear.j0 k a1 l2 (!t216) a0_0 a0_1 l0_2 l0_3)) = some (r1, r2, r3, r4) := by rw [if_pos rfl] at H; exact H
      clear H
      have H := H1
      clear H1
      replace H := Option.bind_eq_some_iff.mp H
      obtain ⟨t216, A90, H⟩ := H
      replace H : (spec_EarHear.j0 k a1 l2 (!t216) a0_0 a0_1 l0_2 l0_3) = some (r1, r2, r3, r4) := H
      have A9 := Aside0.mk A90
      clear A90
      have H' := Aside0.mk H
      clear H
      have hnb10 := NB213_214.out
      have hnc10 := NB214_213.out
      have hcz11_0 : w6.cell? ⟨gb213, 0, none⟩ = some (.int .i64 a0_0) := (blk_cell BK213.out 0).trans rfl
      have hcz11_1 : w6.cell? ⟨gb213, 1, none⟩ = some (.int .i64 a0_1) := (blk_cell BK213.out 1).trans rfl
      have hcz11_2 : w6.cell? ⟨gb213, 2, none⟩ = some (.slice A0_2 l0_2.length c0_2) := (blk_cell BK213.out 2).trans rfl
      have hcz11_3 : w6.cell? ⟨gb213, 3, none⟩ = some (.slice A0_3 l0_3.length c0_3) := (blk_cell BK213.out 3).trans rfl
      have hfz11_0 := blk_frozen BK213.out 0
      have hfz11_1 := blk_frozen BK213.out 1
      have hfz11_2 := blk_frozen BK213.out 2
      have hfz11_3 := blk_frozen BK213.out 3
      go_wp2_with (first | ((with_reducible refine gate_callee (f := 43) rfl ?_); refine goesL_ (some 13) rfl rfl Try.func43 (by kernel_rfl) rfl #[.agg #[.int .i64 a0_0, .int .i64 a0_1, .slice A0_2 l0_2.length c0_2, .slice A0_3 l0_3.length c0_3]] rfl ar_ ?_; (with_reducible refine (spec_EarOk.calls k a0_0 a0_1 _ _ l0_2 _ _ l0_3 true _ ?side1 ?side2 ?side3 ?side4 A7.out).mono ?_); (case side1 => exact kC_ (Kd.C_below HR0_2.out HB.out)); (case side2 => exact HC0_2.out); (case side3 => exact kC_ (Kd.C_below HR0_3.out HB.out)); (case side4 => exact HC0_3.out); rintro e w12 ⟨rfl, hb⟩; refine ⟨_, rfl, ?_⟩; have n0_ := Aside0.mk (blk_below (g := gb213) (o := .cells #[.int .i64 a0_0, .int .i64 a0_1, .slice A0_2 l0_2.length c0_2, .slice A0_3 l0_3.length c0_3] 25 (0, 0)) (kb_ BK213.out) hb); have n1_ := Aside0.mk (blk_below (g := gb214) (o := .cells #[.int .i64 0, .int .i64 0, .slice none 0 0, .slice none 0 0] 25 (0, 0)) (kb_ BK214.out) hb); have n2_ := Aside0.mk (below_step (hb2_ HB.out GE213.out GE214.out) hb); clear BK213; clear BK214; clear HB; have BK213 := n0_; have BK214 := n1_; have HB := n2_; clear n0_ n1_ n2_; (try clear hb); (try clear hb2); (try clear hk); (try clear hi)) | (go_at_call 60; (with_reducible refine (spec_l1In.calls a1 0 1000000 t216 _ A9.out).mono ?_); rintro e w' ⟨rfl, ⟨nd, rfl⟩⟩))
      go_meet
      case rel => exact ⟨_, (!t216), (by first | rfl | (simp; done) | (simp [*]; done)), H', ⟨by first | omega | exact Nat.le_refl _⟩, ⟨by refine kb_ ?_; exact BK213.out⟩, ⟨by refine kb_ ?_; exact BK214.out⟩, ⟨by repeat (first | (with_reducible first | exact HB.out | apply below_alloc | apply pw_below_drewN | apply below_drew1 | refine below_set ?_ GE213.out | refine below_set ?_ GE214.out) | exact HB.out)⟩⟩
    · replace c8 := Bool.eq_false_iff.mpr c8
      subst c8
      have H1 : (spec_EarHear.j0 k a1 l2 true a0_0 a0_1 l0_2 l0_3) = some (r1, r2, r3, r4) := by rw [if_neg (show ¬ (false = true) by decide)] at H; exact H
      clear H
      have H := H1
      clear H1
      have H' := Aside0.mk H
      clear H
      have hnb13 := NB213_214.out
      have hnc13 := NB214_213.out
      have hcz14_0 : w6.cell? ⟨gb213, 0, none⟩ = some (.int .i64 a0_0) := (blk_cell BK213.out 0).trans rfl
      have hcz14_1 : w6.cell? ⟨gb213, 1, none⟩ = some (.int .i64 a0_1) := (blk_cell BK213.out 1).trans rfl
      have hcz14_2 : w6.cell? ⟨gb213, 2, none⟩ = some (.slice A0_2 l0_2.length c0_2) := (blk_cell BK213.out 2).trans rfl
      have hcz14_3 : w6.cell? ⟨gb213, 3, none⟩ = some (.slice A0_3 l0_3.length c0_3) := (blk_cell BK213.out 3).trans rfl
      have hfz14_0 := blk_frozen BK213.out 0
      have hfz14_1 := blk_frozen BK213.out 1
      have hfz14_2 := blk_frozen BK213.out 2
      have hfz14_3 := blk_frozen BK213.out 3
      go_wp2_with (first | ((with_reducible refine gate_callee (f := 43) rfl ?_); refine goesL_ (some 13) rfl rfl Try.func43 (by kernel_rfl) rfl #[.agg #[.int .i64 a0_0, .int .i64 a0_1, .slice A0_2 l0_2.length c0_2, .slice A0_3 l0_3.length c0_3]] rfl ar_ ?_; (with_reducible refine (spec_EarOk.calls k a0_0 a0_1 _ _ l0_2 _ _ l0_3 false _ ?side1 ?side2 ?side3 ?side4 A7.out).mono ?_); (case side1 => exact kC_ (Kd.C_below HR0_2.out HB.out)); (case side2 => exact HC0_2.out); (case side3 => exact kC_ (Kd.C_below HR0_3.out HB.out)); (case side4 => exact HC0_3.out); rintro e w15 ⟨rfl, hb⟩; refine ⟨_, rfl, ?_⟩; have n0_ := Aside0.mk (blk_below (g := gb213) (o := .cells #[.int .i64 a0_0, .int .i64 a0_1, .slice A0_2 l0_2.length c0_2, .slice A0_3 l0_3.length c0_3] 25 (0, 0)) (kb_ BK213.out) hb); have n1_ := Aside0.mk (blk_below (g := gb214) (o := .cells #[.int .i64 0, .int .i64 0, .slice none 0 0, .slice none 0 0] 25 (0, 0)) (kb_ BK214.out) hb); have n2_ := Aside0.mk (below_step (hb2_ HB.out GE213.out GE214.out) hb); clear BK213; clear BK214; clear HB; have BK213 := n0_; have BK214 := n1_; have HB := n2_; clear n0_ n1_ n2_; (try clear hb); (try clear hb2); (try clear hk); (try clear hi)))
      go_meet
      case rel => exact ⟨_, (true), (by first | rfl | (simp; done) | (simp [*]; done)), H', ⟨by first | omega | exact Nat.le_refl _⟩, ⟨by refine kb_ ?_; exact BK213.out⟩, ⟨by refine kb_ ?_; exact BK214.out⟩, ⟨by repeat (first | (with_reducible first | exact HB.out | apply below_alloc | apply pw_below_drewN | apply below_drew1 | refine below_set ?_ GE213.out | refine below_set ?_ GE214.out) | exact HB.out)⟩⟩
  case rest =>
    clear HC4
    try clear c1
    try clear c2
    try clear p2
    try clear c4
    try clear c7
    try clear c8
    try clear c10
    try clear c13
    try clear hcz11_0
    try clear hcz11_1
    try clear hcz11_2
    try clear hcz11_3
    try clear hcz14_0
    try clear hcz14_1
    try clear hcz14_2
    try clear hcz14_3
    try clear hfz11_0
    try clear hfz11_1
    try clear hfz11_2
    try clear hfz11_3
    try clear hfz14_0
    try clear hfz14_1
    try clear hfz14_2
    try clear hfz14_3
    obtain ⟨kq, x19_3, rfl, HA, HJ3, BK213, BK214, HB⟩ := hcut
    cases kq with
    | zero => exact absurd HA.out (by simp [spec_EarHear.j0])
    | succ kj3 =>
      have H := HA.out
      clear HA
      simp only [spec_EarHear.j0] at H
      by_cases c16 : x19_3 = true
      · subst c16
        have H1 : (some (0, 0, ([] : List Int), ([] : List (S70)))) = some (r1, r2, r3, r4) := by rw [if_pos rfl] at H; exact H
        clear H
        have H := H1
        clear H1
        simp only [Option.some.injEq, Prod.mk.injEq] at H
        obtain ⟨rfl, rfl, rfl, rfl⟩ := H
        have hnb17 := NB214_213.out
        have hnc17 := NB213_214.out
        have hcz18_0 : wc.cell? ⟨gb214, 0, none⟩ = some (.int .i64 0) := (blk_cell BK214.out 0).trans rfl
        have hcz18_1 : wc.cell? ⟨gb214, 1, none⟩ = some (.int .i64 0) := (blk_cell BK214.out 1).trans rfl
        have hcz18_2 : wc.cell? ⟨gb214, 2, none⟩ = some (.slice none 0 0) := (blk_cell BK214.out 2).trans rfl
        have hcz18_3 : wc.cell? ⟨gb214, 3, none⟩ = some (.slice none 0 0) := (blk_cell BK214.out 3).trans rfl
        have hfz18_0 := blk_frozen BK214.out 0
        have hfz18_1 := blk_frozen BK214.out 1
        have hfz18_2 := blk_frozen BK214.out 2
        have hfz18_3 := blk_frozen BK214.out 3
        go_wp2
        refine bodyPost_ret (results_cell_row rfl _ _ gb214 25 #[.int .i64 0, .int .i64 0, .slice none 0 0, .slice none 0 0] (0, 0) _ rfl (by refine kb_ ?_; refine blk_put (cs := #[.int .i64 0, .int .i64 0, .slice none 0 0, .slice none 0 0]) ?_ 3 _ rfl; refine kb_ ?_; refine blk_put (cs := #[.int .i64 0, .int .i64 0, .slice none 0 0, .slice none 0 0]) ?_ 2 _ rfl; refine kb_ ?_; refine blk_put (cs := #[.int .i64 0, .int .i64 0, .slice none 0 0, .slice none 0 0]) ?_ 1 _ rfl; refine kb_ ?_; refine blk_put (cs := #[.int .i64 0, .int .i64 0, .slice none 0 0, .slice none 0 0]) ?_ 0 _ rfl; refine kb_ ?_; exact BK214.out) Try.underlying25 rfl (by kernel_rfl)) rfl ?_
        exact ⟨_, _, by first | rfl | (simp [errW_none, errW_some] <;> rfl) | (simp [*, errW_none, errW_some] <;> rfl), by first | exact Kd.R_nil _ _ _ _ _ | exact Kd.N_nil _ _ _ _ _ | exact Kd.V_nil _ _ _ _ _ | exact Kd.Q_nil _ _ _ _ _ | exact Kd.S_nil _ _ _ _ _, Kd.Q_of_R (by first | exact Kd.R_nil _ _ _ _ _ | exact Kd.N_nil _ _ _ _ _ | exact Kd.V_nil _ _ _ _ _ | exact Kd.Q_nil _ _ _ _ _ | exact Kd.S_nil _ _ _ _ _), by repeat (first | (with_reducible first | exact HB.out | apply below_alloc | apply pw_below_drewN | apply below_drew1 | refine below_set ?_ GE213.out | refine below_set ?_ GE214.out) | exact HB.out)⟩
      · replace c16 := Bool.eq_false_iff.mpr c16
        subst c16
        have H1 : ((spec_EarFree.f kj3 a0_0 a0_1 l0_2 l0_3).bind fun t217 => ((some (([] : List (S70)) : List (S70))).bind fun y218 => (if y218.length + l0_3.length < 8796093022208 then (spec_EarHear.l0 kj3 a1 l2 t217 (y218 ++ l0_3) 0 a0_0 a0_1 l0_2 l0_3) else (none)))) = some (r1, r2, r3, r4) := by rw [if_neg (show ¬ (false = true) by decide)] at H; exact H
        clear H
        have H := H1
        clear H1
        replace H := Option.bind_eq_some_iff.mp H
        obtain ⟨t217, A190, H⟩ := H
        replace H : ((some (([] : List (S70)) : List (S70))).bind fun y218 => (if y218.length + l0_3.length < 8796093022208 then (spec_EarHear.l0 kj3 a1 l2 t217 (y218 ++ l0_3) 0 a0_0 a0_1 l0_2 l0_3) else (none))) = some (r1, r2, r3, r4) := H
        have A19 := Aside0.mk A190
        clear A190
        obtain ⟨y218, hy218⟩ : ∃ y_ : List (S70), y_ = (([] : List (S70))) := ⟨_, rfl⟩
        replace H : (if y218.length + l0_3.length < 8796093022208 then (spec_EarHear.l0 kj3 a1 l2 t217 (y218 ++ l0_3) 0 a0_0 a0_1 l0_2 l0_3) else (none)) = some (r1, r2, r3, r4) := by first | (rw [hy218]; with_reducible exact H) | (have H2_ := (Option.bind_some _ _).symm.trans H; rw [hy218]; with_reducible exact H2_) | (have H2_ := (Option.bind_some _ _).symm.trans H; with_reducible exact H2_) | with_reducible exact H | (rw [hy218]; exact H) | exact H
        have Ny218 := Aside0.mk hy218
        clear hy218
        by_cases c20 : y218.length + l0_3.length < 8796093022208
        · rw [if_pos c20] at H
          have LMc20 := Aside0.mk c20
          clear c20
          obtain ⟨y221, hy221⟩ : ∃ y_ : List (S70), y_ = (y218 ++ l0_3) := ⟨_, rfl⟩
          replace H : (spec_EarHear.l0 kj3 a1 l2 t217 y221 0 a0_0 a0_1 l0_2 l0_3) = some (r1, r2, r3, r4) := by first | (rw [hy221]; with_reducible exact H) | (have H2_ := (Option.bind_some _ _).symm.trans H; rw [hy221]; with_reducible exact H2_) | (have H2_ := (Option.bind_some _ _).symm.trans H; with_reducible exact H2_) | with_reducible exact H | (rw [hy221]; exact H) | exact H
          have Ny221 := Aside0.mk hy221
          clear hy221
          have H' := Aside0.mk H
          clear H
          have hnb21 := NB213_214.out
          have hnc21 := NB214_213.out
          have hcz22_0 : wc.cell? ⟨gb213, 0, none⟩ = some (.int .i64 a0_0) := (blk_cell BK213.out 0).trans rfl
          have hcz22_1 : wc.cell? ⟨gb213, 1, none⟩ = some (.int .i64 a0_1) := (blk_cell BK213.out 1).trans rfl
          have hcz22_2 : wc.cell? ⟨gb213, 2, none⟩ = some (.slice A0_2 l0_2.length c0_2) := (blk_cell BK213.out 2).trans rfl
          have hcz22_3 : wc.cell? ⟨gb213, 3, none⟩ = some (.slice A0_3 l0_3.length c0_3) := (blk_cell BK213.out 3).trans rfl
          have hfz22_0 := blk_frozen BK213.out 0
          have hfz22_1 := blk_frozen BK213.out 1
          have hfz22_2 := blk_frozen BK213.out 2
          have hfz22_3 := blk_frozen BK213.out 3
          go_wp2_with (first | ((with_reducible refine gate_callee (f := 11) rfl ?_); refine goesL_ (some 22) rfl rfl Try.func11 (by kernel_rfl) rfl #[.agg #[.int .i64 a0_0, .int .i64 a0_1, .slice A0_2 l0_2.length c0_2, .slice A0_3 l0_3.length c0_3]] rfl ar_ ?_; (with_reducible refine (spec_EarFree.calls kj3 a0_0 a0_1 _ _ l0_2 _ _ l0_3 t217 _ ?side1 ?side2 ?side3 ?side4 A19.out).mono ?_); (case side1 => exact kC_ (Kd.C_below HR0_2.out HB.out)); (case side2 => exact HC0_2.out); (case side3 => exact kC_ (Kd.C_below HR0_3.out HB.out)); (case side4 => exact HC0_3.out); rintro e w23 ⟨rfl, hb⟩; refine ⟨_, rfl, ?_⟩; have n0_ := Aside0.mk (blk_below (g := gb213) (o := .cells #[.int .i64 a0_0, .int .i64 a0_1, .slice A0_2 l0_2.length c0_2, .slice A0_3 l0_3.length c0_3] 25 (0, 0)) (kb_ BK213.out) hb); have n1_ := Aside0.mk (blk_below (g := gb214) (o := .cells #[.int .i64 0, .int .i64 0, .slice none 0 0, .slice none 0 0] 25 (0, 0)) (kb_ BK214.out) hb); have n2_ := Aside0.mk (below_step (hb2_ HB.out GE213.out GE214.out) hb); clear BK213; clear BK214; clear HB; have BK213 := n0_; have BK214 := n1_; have HB := n2_; clear n0_ n1_ n2_; (try clear hb); (try clear hb2); (try clear hk); (try clear hi)) | ((with_reducible refine gate_dst (N := 23) rfl ?_); refine Kd.R_lit k70 _ 70 ?hg (N := 23) ?hd (xs := ([] : List (S70))) (inner := []) (ok := fun _ => True) (okp := fun _ => True) ?hr ?hp (fun _ hk => hk) trivial (Below.refl _ _) (Nat.le_refl _) (by simp) ?_; (case hd => rfl); (case hg => rfl); (case hr => first | (go_simp; done) | (go_simp; rfl)); (case hp => exact (Reps.none _ _)); intro v219 w24 ho25 hb hg_ hnew_; clear hg_ hnew_; (first | rw [← Ny218.out] at ho25 | (simp only [Int.reduceToNat] at ho25; rw [← Ny218.out] at ho25)); have n0_ := Aside0.mk (Kd.R_lower ho25 (below_size (hb2_ HB.out GE213.out GE214.out))); have n1_ := Aside0.mk (blk_below (g := gb213) (o := .cells #[.int .i64 a0_0, .int .i64 a0_1, .slice A0_2 l0_2.length c0_2, .slice A0_3 l0_3.length c0_3] 25 (0, 0)) (kb_ BK213.out) hb); have n2_ := Aside0.mk (blk_below (g := gb214) (o := .cells #[.int .i64 0, .int .i64 0, .slice none 0 0, .slice none 0 0] 25 (0, 0)) (kb_ BK214.out) hb); have n3_ := Aside0.mk (below_step (hb2_ HB.out GE213.out GE214.out) hb); clear BK213; clear BK214; clear HB; have HO220 := n0_; have BK213 := n1_; have BK214 := n2_; have HB := n3_; clear n0_ n1_ n2_ n3_; clear hb ho25; have hcz26_0 : w24.cell? ⟨gb213, 0, none⟩ = some (.int .i64 a0_0) := (blk_cell BK213.out 0).trans rfl; have hcz26_1 : w24.cell? ⟨gb213, 1, none⟩ = some (.int .i64 a0_1) := (blk_cell BK213.out 1).trans rfl; have hcz26_2 : w24.cell? ⟨gb213, 2, none⟩ = some (.slice A0_2 l0_2.length c0_2) := (blk_cell BK213.out 2).trans rfl; have hcz26_3 : w24.cell? ⟨gb213, 3, none⟩ = some (.slice A0_3 l0_3.length c0_3) := (blk_cell BK213.out 3).trans rfl; have hfz26_0 := blk_frozen BK213.out 0; have hfz26_1 := blk_frozen BK213.out 1; have hfz26_2 := blk_frozen BK213.out 2; have hfz26_3 := blk_frozen BK213.out 3) | ((with_reducible refine gate_builtin (b := .append) (xs := #[.tmp 23, .tmp 25]) rfl ?_); at_builtin; refine Kd.R_append_rows k70 (w0 := w) w.heap.size rfl (.tmp 23) (.tmp 25) 23 70 (.agg #[(.int .i64 0), (.int .u8 0)]) 16 rfl Try.underlying23 info70 rfl (by decide) (by omega) v219 y218 l0_3 _ _ _ (fun _ => True) (fun _ => False) rfl rfl ?aO ?aR (fun _ _ h => h) (fun _ h => h.elim) ?aF ?aB ?aS ?aL ?_; (case aR => exact kC_ (Kd.C_below HR0_3.out HB.out)); (case aB => exact (hb2_ HB.out GE213.out GE214.out)); (case aF => exact (fun _ _ => trivial)); (case aO => exact (kR_ HO220.out)); (case aS => exact (below_size (hb2_ HB.out GE213.out GE214.out))); (case aL => have := LMc20.out; omega); intro v222 w27 ho hb hg hat; rw [← Ny221.out] at ho; have n0_ := Aside0.mk (blk_grown (g := gb213) (o := .cells #[.int .i64 a0_0, .int .i64 a0_1, .slice A0_2 l0_2.length c0_2, .slice A0_3 l0_3.length c0_3] 25 (0, 0)) (kb_ BK213.out) hg (Kd.R_ne HO220.out BK213.out (by decide))); have n1_ := Aside0.mk (blk_grown (g := gb214) (o := .cells #[.int .i64 0, .int .i64 0, .slice none 0 0, .slice none 0 0] 25 (0, 0)) (kb_ BK214.out) hg (Kd.R_ne HO220.out BK214.out (by decide))); have n2_ := Aside0.mk (hb); have n3_ := Aside0.mk (ho); clear BK213; clear BK214; clear HB; clear HO220; have BK213 := n0_; have BK214 := n1_; have HB := n2_; have HO223 := n3_; clear n0_ n1_ n2_ n3_; clear ho hb hg hat))
          go_loopg [8, 9] kj3 (fun kq v8 v9 w' => ∃ (x8_2 : List (S70)) (x9_2 : Int), v9 = .int .i64 x9_2 ∧ Aside0 (spec_EarHear.l0 kq a1 l2 t217 x8_2 x9_2 a0_0 a0_1 l0_2 l0_3 = some (r1, r2, r3, r4)) ∧ Aside0 (kq ≤ kj3) ∧ Aside0 (Kd.R k70 70 w' w.heap.size (fun _ => True) v8 x8_2) ∧ Aside0 (w'.heap[gb213]? = some (.cells #[.int .i64 a0_0, .int .i64 a0_1, (.slice A0_2 l0_2.length c0_2), (.slice A0_3 l0_3.length c0_3)] 25 (0, 0))) ∧ Aside0 (w'.heap[gb214]? = some (.cells #[.int .i64 0, .int .i64 0, (.slice none 0 0), (.slice none 0 0)] 25 (0, 0))) ∧ Aside0 (Below w.heap.size w w'))
          case atStart => exact ⟨(y221), (0), (by first | rfl | (simp; done) | (simp [*]; done)), H', ⟨Nat.le_refl _⟩, ⟨kR_ HO223.out⟩, ⟨by refine kb_ ?_; exact BK213.out⟩, ⟨by refine kb_ ?_; exact BK214.out⟩, ⟨by repeat (first | (with_reducible first | exact HB.out | apply below_alloc | apply pw_below_drewN | apply below_drew1 | refine below_set ?_ GE213.out | refine below_set ?_ GE214.out) | exact HB.out)⟩⟩
          case round =>
            clear H'
            try clear c1
            try clear c2
            try clear p2
            try clear c4
            try clear c7
            try clear c8
            try clear c10
            try clear c11
            try clear c13
            try clear c16
            try clear c17
            try clear c20
            try clear c21
            try clear hcz11_0
            try clear hcz11_1
            try clear hcz11_2
            try clear hcz11_3
            try clear hcz14_0
            try clear hcz14_1
            try clear hcz14_2
            try clear hcz14_3
            try clear hcz18_0
            try clear hcz18_1
            try clear hcz18_2
            try clear hcz18_3
            try clear hcz22_0
            try clear hcz22_1
            try clear hcz22_2
            try clear hcz22_3
            try clear hcz26_0
            try clear hcz26_1
            try clear hcz26_2
            try clear hcz26_3
            try clear hfz11_0
            try clear hfz11_1
            try clear hfz11_2
            try clear hfz11_3
            try clear hfz14_0
            try clear hfz14_1
            try clear hfz14_2
            try clear hfz14_3
            try clear hfz18_0
            try clear hfz18_1
            try clear hfz18_2
            try clear hfz18_3
            try clear hfz22_0
            try clear hfz22_1
            try clear hfz22_2
            try clear hfz22_3
            try clear hfz26_0
            try clear hfz26_1
            try clear hfz26_2
            try clear hfz26_3
            try clear p2
            obtain ⟨x8_2, x9_2, rfl, HA, HK2, HO_8, BK213, BK214, HB⟩ := hrel
            cases gk with
            | zero => exact absurd HA.out (by simp [spec_EarHear.l0])
            | succ k2 =>
              have H := HA.out
              clear HA
              simp only [spec_EarHear.l0] at H
              by_cases c28 : x9_2 < (l2.length : Int)
              · rw [if_pos c28] at H
                have c28b0 : decide (x9_2 < (l2.length : Int)) = true := decide_eq_true c28
                clear c28
                by_cases c29 : (wrap64 (a1 + x9_2)) ≥ a0_0
                · rw [if_pos c29] at H
                  have c29b0 : decide (a0_0 ≤ (wrap64 (a1 + x9_2))) = true := decide_eq_true c29
                  clear c29
                  by_cases c30 : (wrap64 (a1 + x9_2)) < (wrap64 (a0_0 + t217))
                  · rw [if_pos c30] at H
                    have c30b0 : decide ((wrap64 (a1 + x9_2)) < (wrap64 (a0_0 + t217))) = true := decide_eq_true c30
                    clear c30
                    by_cases c31 : 0 ≤ x9_2
                    · rw [if_pos c31] at H
                      have c31b0 : decide (0 ≤ x9_2) = true := decide_eq_true c31
                      clear c31
                      replace H := Option.bind_eq_some_iff.mp H
                      obtain ⟨t225, A320, H⟩ := H
                      replace H : (spec_EarHear.l0 k2 a1 l2 t217 t225 (wrap64 (x9_2 + 1)) a0_0 a0_1 l0_2 l0_3) = some (r1, r2, r3, r4) := H
                      have A32 := Aside0.mk A320
                      clear A320
                      have H' := Aside0.mk H
                      clear H
                      have hnb33 := NB213_214.out
                      have hnc33 := NB214_213.out
                      have hcz34_0 : wr.cell? ⟨gb213, 0, none⟩ = some (.int .i64 a0_0) := (blk_cell BK213.out 0).trans rfl
                      have hcz34_1 : wr.cell? ⟨gb213, 1, none⟩ = some (.int .i64 a0_1) := (blk_cell BK213.out 1).trans rfl
                      have hcz34_2 : wr.cell? ⟨gb213, 2, none⟩ = some (.slice A0_2 l0_2.length c0_2) := (blk_cell BK213.out 2).trans rfl
                      have hcz34_3 : wr.cell? ⟨gb213, 3, none⟩ = some (.slice A0_3 l0_3.length c0_3) := (blk_cell BK213.out 3).trans rfl
                      have hfz34_0 := blk_frozen BK213.out 0
                      have hfz34_1 := blk_frozen BK213.out 1
                      have hfz34_2 := blk_frozen BK213.out 2
                      have hfz34_3 := blk_frozen BK213.out 3
                      have p224 : 0 ≤ (x9_2 : Int) := of_decide_eq_true (by first | (with_reducible assumption) | assumption)
                      have q224 : x9_2 < (l2.length : Int) := of_decide_eq_true (by first | (with_reducible assumption) | assumption)
                      obtain ⟨ad224, e224, hx224_0⟩ := Kd.at_int HR2.out x9_2 p224 q224
                      cases e224
                      replace hx224_0 := (HB.out.cell (World.block_lt_of_cell? w _ hx224_0)).trans hx224_0
                      replace p224 := eq_true p224
                      replace q224 := eq_true q224
                      obtain ⟨Ao35, co35, eo35⟩ := Kd.R_slice HO_8.out
                      subst eo35
                      go_wp2_with (first | ((with_reducible refine gate_callee (f := 82) rfl ?_); refine goesL_ (some 58) rfl rfl Try.func82 (by kernel_rfl) rfl #[.slice Ao35 x8_2.length co35, .agg #[.int .i64 (wrap64 (a1 + x9_2)), .int .u8 (rd l2 x9_2)]] rfl ar_ ?_; (with_reducible refine (spec_l12Put.calls k2 _ _ x8_2 (wrap64 (a1 + x9_2)) (rd l2 x9_2) t225 _ ?side1 ?side2 A32.out).mono ?_); (case side1 => exact kC_ (Kd.R_reads' HO_8.out).2.2); (case side2 => exact (Kd.R_reads' HO_8.out).2.1); rintro e w36 ⟨v226, rfl, ho0, hb⟩; refine ⟨_, rfl, ?_⟩; have n0_ := Aside0.mk (Kd.R_elder' (kR_ HO_8.out) (Kd.R_base ho0) hb); have n1_ := Aside0.mk (Kd.R_lower (Kd.R_new' ho0 (Kd.R_lt (kR_ HO_8.out))) (below_size (hb2_ HB.out GE213.out GE214.out))); have n2_ := Aside0.mk (blk_below (g := gb213) (o := .cells #[.int .i64 a0_0, .int .i64 a0_1, .slice A0_2 l0_2.length c0_2, .slice A0_3 l0_3.length c0_3] 25 (0, 0)) (kb_ BK213.out) hb); have n3_ := Aside0.mk (blk_below (g := gb214) (o := .cells #[.int .i64 0, .int .i64 0, .slice none 0 0, .slice none 0 0] 25 (0, 0)) (kb_ BK214.out) hb); have n4_ := Aside0.mk (below_step (hb2_ HB.out GE213.out GE214.out) hb); clear HO_8; clear BK213; clear BK214; clear HB; have HO_8 := n0_; have HO227 := n1_; have BK213 := n2_; have BK214 := n3_; have HB := n4_; clear n0_ n1_ n2_ n3_ n4_; (try clear hb); (try clear hb2); (try clear hk); (try clear hi); (try clear ho0)))
                      go_roundg k2
                      case measure => have := HJ3.out; have := HK2.out; omega
                      case rel => exact ⟨(t225), (wrap64 (x9_2 + 1)), (by first | rfl | (simp; done) | (simp [*]; done)), H', ⟨by have := HJ3.out; have := HK2.out; omega⟩, ⟨by refine kR_ ?_; exact Kd.R_mono HO227.out (fun _ hk => trivial)⟩, ⟨by refine kb_ ?_; exact BK213.out⟩, ⟨by refine kb_ ?_; exact BK214.out⟩, ⟨by repeat (first | (with_reducible first | exact HB.out | apply below_alloc | apply pw_below_drewN | apply below_drew1 | refine below_set ?_ GE213.out | refine below_set ?_ GE214.out) | exact HB.out)⟩⟩
                    · rw [if_neg c31] at H
                      exact absurd H (by simp)
                  · rw [if_neg c30] at H
                    have c30b0 : decide ((wrap64 (a1 + x9_2)) < (wrap64 (a0_0 + t217))) = false := decide_eq_false c30
                    clear c30
                    have H' := Aside0.mk H
                    clear H
                    have hnb37 := NB213_214.out
                    have hnc37 := NB214_213.out
                    have hcz38_0 : wr.cell? ⟨gb213, 0, none⟩ = some (.int .i64 a0_0) := (blk_cell BK213.out 0).trans rfl
                    have hcz38_1 : wr.cell? ⟨gb213, 1, none⟩ = some (.int .i64 a0_1) := (blk_cell BK213.out 1).trans rfl
                    have hcz38_2 : wr.cell? ⟨gb213, 2, none⟩ = some (.slice A0_2 l0_2.length c0_2) := (blk_cell BK213.out 2).trans rfl
                    have hcz38_3 : wr.cell? ⟨gb213, 3, none⟩ = some (.slice A0_3 l0_3.length c0_3) := (blk_cell BK213.out 3).trans rfl
                    have hfz38_0 := blk_frozen BK213.out 0
                    have hfz38_1 := blk_frozen BK213.out 1
                    have hfz38_2 := blk_frozen BK213.out 2
                    have hfz38_3 := blk_frozen BK213.out 3
                    go_wp2
                    go_roundg k2
                    case measure => have := HJ3.out; have := HK2.out; omega
                    case rel => exact ⟨(x8_2), (wrap64 (x9_2 + 1)), (by first | rfl | (simp; done) | (simp [*]; done)), H', ⟨by have := HJ3.out; have := HK2.out; omega⟩, ⟨kR_ HO_8.out⟩, ⟨by refine kb_ ?_; exact BK213.out⟩, ⟨by refine kb_ ?_; exact BK214.out⟩, ⟨by repeat (first | (with_reducible first | exact HB.out | apply below_alloc | apply pw_below_drewN | apply below_drew1 | refine below_set ?_ GE213.out | refine below_set ?_ GE214.out) | exact HB.out)⟩⟩
                · rw [if_neg c29] at H
                  have c29b0 : decide (a0_0 ≤ (wrap64 (a1 + x9_2))) = false := decide_eq_false c29
                  clear c29
                  have H' := Aside0.mk H
                  clear H
                  have hnb39 := NB213_214.out
                  have hnc39 := NB214_213.out
                  have hcz40_0 : wr.cell? ⟨gb213, 0, none⟩ = some (.int .i64 a0_0) := (blk_cell BK213.out 0).trans rfl
                  have hcz40_1 : wr.cell? ⟨gb213, 1, none⟩ = some (.int .i64 a0_1) := (blk_cell BK213.out 1).trans rfl
                  have hcz40_2 : wr.cell? ⟨gb213, 2, none⟩ = some (.slice A0_2 l0_2.length c0_2) := (blk_cell BK213.out 2).trans rfl
                  have hcz40_3 : wr.cell? ⟨gb213, 3, none⟩ = some (.slice A0_3 l0_3.length c0_3) := (blk_cell BK213.out 3).trans rfl
                  have hfz40_0 := blk_frozen BK213.out 0
                  have hfz40_1 := blk_frozen BK213.out 1
                  have hfz40_2 := blk_frozen BK213.out 2
                  have hfz40_3 := blk_frozen BK213.out 3
                  go_wp2
                  go_roundg k2
                  case measure => have := HJ3.out; have := HK2.out; omega
                  case rel => exact ⟨(x8_2), (wrap64 (x9_2 + 1)), (by first | rfl | (simp; done) | (simp [*]; done)), H', ⟨by have := HJ3.out; have := HK2.out; omega⟩, ⟨kR_ HO_8.out⟩, ⟨by refine kb_ ?_; exact BK213.out⟩, ⟨by refine kb_ ?_; exact BK214.out⟩, ⟨by repeat (first | (with_reducible first | exact HB.out | apply below_alloc | apply pw_below_drewN | apply below_drew1 | refine below_set ?_ GE213.out | refine below_set ?_ GE214.out) | exact HB.out)⟩⟩
              · rw [if_neg c28] at H
                have c28b0 : decide (x9_2 < (l2.length : Int)) = false := decide_eq_false c28
                clear c28
                obtain ⟨y228, hy228⟩ : ∃ y_ : List Int, y_ = (([] : List Int)) := ⟨_, rfl⟩
                replace H : (if y228.length + l0_2.length < 140737488355328 then (spec_EarHear.l1 k2 x8_2 0 a0_0 a0_1 (y228 ++ l0_2)) else (none)) = some (r1, r2, r3, r4) := by first | (rw [hy228]; with_reducible exact H) | (have H2_ := (Option.bind_some _ _).symm.trans H; rw [hy228]; with_reducible exact H2_) | (have H2_ := (Option.bind_some _ _).symm.trans H; with_reducible exact H2_) | with_reducible exact H | (rw [hy228]; exact H) | exact H
                have Ny228 := Aside0.mk hy228
                clear hy228
                by_cases c41 : y228.length + l0_2.length < 140737488355328
                · rw [if_pos c41] at H
                  have LMc41 := Aside0.mk c41
                  clear c41
                  obtain ⟨y231, hy231⟩ : ∃ y_ : List Int, y_ = (y228 ++ l0_2) := ⟨_, rfl⟩
                  replace H : (spec_EarHear.l1 k2 x8_2 0 a0_0 a0_1 y231) = some (r1, r2, r3, r4) := by first | (rw [hy231]; with_reducible exact H) | (have H2_ := (Option.bind_some _ _).symm.trans H; rw [hy231]; with_reducible exact H2_) | (have H2_ := (Option.bind_some _ _).symm.trans H; with_reducible exact H2_) | with_reducible exact H | (rw [hy231]; exact H) | exact H
                  have Ny231 := Aside0.mk hy231
                  clear hy231
                  have HC42 := Aside0.mk H
                  clear H
                  try go_wp2
                  have n0_ := Aside0.mk (Kd.R_drew HO_8.out)
                  have n1_ := Aside0.mk (blk_drew BK213.out)
                  have n2_ := Aside0.mk (blk_drew BK214.out)
                  have n3_ := Aside0.mk (below_drew1 HB.out)
                  clear HO_8
                  clear BK213
                  clear BK214
                  clear HB
                  have HO_8 := n0_
                  have BK213 := n1_
                  have BK214 := n2_
                  have HB := n3_
                  clear n0_ n1_ n2_ n3_
                  refine start_ (n := 11) (S := fun w' => w'.cell? ⟨gb213, 0, none⟩ = some (.int .i64 a0_0) ∧ w'.cell? ⟨gb213, 1, none⟩ = some (.int .i64 a0_1) ∧ w'.cell? ⟨gb213, 2, none⟩ = some (.slice A0_2 l0_2.length c0_2) ∧ w'.cell? ⟨gb213, 3, none⟩ = some (.slice A0_3 l0_3.length c0_3)) (ds := []) #[false, false, false, false, false, false, false, false, false, false, false] (by kernel_rfl) rfl rfl ⟨(blk_cell BK213.out 0).trans rfl, (blk_cell BK213.out 1).trans rfl, (blk_cell BK213.out 2).trans rfl, (blk_cell BK213.out 3).trans rfl⟩ (fun hHeld => ?_); refine with_tabW spec_EarHear.tab10 spec_EarHear.bits10 (fun HT_ HW_ => ?_)
                  generalize wr.drew = w43 at HO_8 BK213 BK214 HB hHeld ⊢
                  refine pu_ (i := 0) (N := some 59) HT_ ?_
                  refine pu_ (i := 2) (N := some 61) HT_ ?_
                  refine pu_ (i := 5) (N := some 64) HT_ ?_
                  refine tk_ (i := 1) (N := some 60) HT_ HW_ hHeld ?_
                  refine tk_ (i := 3) (N := some 62) HT_ HW_ hHeld ?_
                  refine tk_ (i := 6) (N := some 65) HT_ HW_ hHeld ?_
                  refine join_ (σ := Value × Value × Nat) 1 #[true, true, true, true, true, true, true, true, true, true, false] (fun s_ => [(63, s_.1), (66, s_.2.1), (10, .pointer (some ⟨s_.2.2, 0, none⟩)), (67, .agg #[.int .i64 a0_0, .int .i64 a0_1, s_.2.1, .slice none 0 0])]) (fun s_ w' => (w'.cell? ⟨gb213, 0, none⟩ = some (.int .i64 a0_0) ∧ w'.cell? ⟨gb213, 1, none⟩ = some (.int .i64 a0_1) ∧ w'.cell? ⟨gb213, 2, none⟩ = some (.slice A0_2 l0_2.length c0_2) ∧ w'.cell? ⟨gb213, 3, none⟩ = some (.slice A0_3 l0_3.length c0_3)) ∧ (Kd.R (Kd.int .u8) 5 w' w.heap.size (fun _ => True) s_.2.1 y231) ∧ (Kd.R k70 70 w' w.heap.size (fun _ => True) u8 x8_2) ∧ (w'.heap[gb213]? = some (.cells #[.int .i64 a0_0, .int .i64 a0_1, .slice A0_2 l0_2.length c0_2, .slice A0_3 l0_3.length c0_3] 25 (0, 0))) ∧ (w'.heap[gb214]? = some (.cells #[.int .i64 0, .int .i64 0, .slice none 0 0, .slice none 0 0] 25 (0, 0))) ∧ (w'.heap[s_.2.2]? = some (.cells #[.int .i64 0, .int .i64 0, .slice none 0 0, .slice none 0 0] 25 (0, 0))) ∧ (w.heap.size ≤ s_.2.2) ∧ (w.heap.size ≤ s_.2.2) ∧ (gb213 ≠ s_.2.2) ∧ (s_.2.2 ≠ gb213) ∧ (gb214 ≠ s_.2.2) ∧ (s_.2.2 ≠ gb214) ∧ (Below w.heap.size w w')) ?_ ?_
                  rotate_left
                  · intro hCont
                    refine two_ (i := 4) (j := 9) (Ni := some 63) (Nj := some 10) #[true, true, true, true, true, true, true, false, false, false, false] #[true, true, true, true, false, true, true, false, false, true, false] rfl rfl rfl rfl (two_of HT_.out (by kernel_rfl)) (by decide) (by decide) (fun K hK => ?_) (fun K hK => ?_)
                    · skip
                      refine Kd.R_lit_step (Kd.int .u8) _ 5 ?hg (N := 63) ?hd (xs := ([] : List Int)) (inner := []) (ok := fun _ => True) (okp := fun _ => True) ?hr ?hp (fun _ hk => hk) trivial (Below.refl _ _) (Nat.le_refl _) (by simp) ?_; (case hd => rfl); (case hg => rfl); (case hr => first | (go_simp; done) | (go_simp; rfl)); (case hp => exact (Reps.none _ _))
                      intro v229 w44 ho45 hb hg_ hnew_
                      clear hg_ hnew_
                      (first | rw [← Ny228.out] at ho45 | (simp only [Int.reduceToNat] at ho45; rw [← Ny228.out] at ho45))
                      have n0_ := Aside0.mk (Kd.R_below (kR_ HO_8.out) hb)
                      have n1_ := Aside0.mk (Kd.R_lower ho45 (below_size (hb2_ HB.out GE213.out GE214.out)))
                      have n2_ := Aside0.mk (blk_below (g := gb213) (o := .cells #[.int .i64 a0_0, .int .i64 a0_1, .slice A0_2 l0_2.length c0_2, .slice A0_3 l0_3.length c0_3] 25 (0, 0)) (kb_ BK213.out) hb)
                      have n3_ := Aside0.mk (blk_below (g := gb214) (o := .cells #[.int .i64 0, .int .i64 0, .slice none 0 0, .slice none 0 0] 25 (0, 0)) (kb_ BK214.out) hb)
                      have n4_ := Aside0.mk (below_step (hb2_ HB.out GE213.out GE214.out) hb)
                      clear HO_8
                      clear BK213
                      clear BK214
                      clear HB
                      have HO_8 := n0_
                      have HO230 := n1_
                      have BK213 := n2_
                      have BK214 := n3_
                      have HB := n4_
                      clear n0_ n1_ n2_ n3_ n4_
                      clear hb ho45
                      refine hK.out _ _ ⟨(blk_cell BK213.out 0).trans rfl, (blk_cell BK213.out 1).trans rfl, (blk_cell BK213.out 2).trans rfl, (blk_cell BK213.out 3).trans rfl⟩ (fun hHeld => ?_)
                      clear hK K
                      refine nm_ 63 ?_
                      refine two_ (i := 7) (j := 9) (Ni := some 66) (Nj := some 10) #[true, true, true, true, true, true, true, true, false, false, false] #[true, true, true, true, true, true, true, false, false, true, false] rfl rfl rfl rfl (two_of HT_.out (by kernel_rfl)) (by decide) (by decide) (fun K hK => ?_) (fun K hK => ?_)
                      · skip
                        refine Kd.R_append_rows_step (Kd.int .u8) (w0 := w) w.heap.size (by rfl) (.tmp 63) (.tmp 65) 22 5 (.int .u8 0) 1 rfl Try.underlying22 info5 rfl (by decide) (by omega) v229 y228 l0_2 _ _ _ (fun _ => True) (fun _ => False) rfl rfl ?aO ?aR (fun _ _ h => h) (fun _ h => h.elim) ?aF ?aB ?aS ?aL ?_
                        (case aR => exact kC_ (Kd.C_below HR0_2.out HB.out))
                        (case aB => exact (hb2_ HB.out GE213.out GE214.out))
                        (case aF => exact (fun _ _ => trivial))
                        (case aO => exact (kR_ HO230.out))
                        (case aS => exact (below_size (hb2_ HB.out GE213.out GE214.out)))
                        (case aL => have := LMc41.out; omega)
                        intro v232 w46 ho hb hg hat
                        rw [← Ny231.out] at ho
                        have n0_ := Aside0.mk (Kd.R_over' (kR_ HO_8.out) (Kd.R_typed (kR_ HO230.out)) (by decide) hg)
                        have n1_ := Aside0.mk (blk_grown (g := gb213) (o := .cells #[.int .i64 a0_0, .int .i64 a0_1, .slice A0_2 l0_2.length c0_2, .slice A0_3 l0_3.length c0_3] 25 (0, 0)) (kb_ BK213.out) hg (Kd.R_ne HO230.out BK213.out (by decide)))
                        have n2_ := Aside0.mk (blk_grown (g := gb214) (o := .cells #[.int .i64 0, .int .i64 0, .slice none 0 0, .slice none 0 0] 25 (0, 0)) (kb_ BK214.out) hg (Kd.R_ne HO230.out BK214.out (by decide)))
                        have n3_ := Aside0.mk (hb)
                        have n4_ := Aside0.mk (ho)
                        clear HO_8
                        clear BK213
                        clear BK214
                        clear HB
                        clear HO230
                        have HO_8 := n0_
                        have BK213 := n1_
                        have BK214 := n2_
                        have HB := n3_
                        have HO233 := n4_
                        clear n0_ n1_ n2_ n3_ n4_
                        clear ho hb hg hat
                        obtain ⟨Ao47, co47, eo47⟩ := Kd.R_slice HO233.out
                        (first | subst eo47 | (injection eo47 with f1_ f2_ f3_; have f4_ := f1_.symm; have f5_ := f3_.symm; clear f1_ f2_ f3_; subst f4_; subst f5_))
                        refine hK.out _ _ ⟨(blk_cell BK213.out 0).trans rfl, (blk_cell BK213.out 1).trans rfl, (blk_cell BK213.out 2).trans rfl, (blk_cell BK213.out 3).trans rfl⟩ (fun hHeld => ?_)
                        clear hK K
                        refine nm_ 66 ?_
                        refine pu_ (i := 8) (N := some 67) HT_ ?_
                        refine on_ (i := 9) (N := some 10) HT_ (fun K hK => ?_)
                        refine box_step ?hg (N := 10) ?hd (cs := #[.int .i64 0, .int .i64 0, .slice none 0 0, .slice none 0 0]) (t := 25) ?hr ?_; (case hd => rfl); (case hg => rfl); (case hr => first | (go_simp; done) | (go_simp; rfl))
                        intro gb234 hg w48 hbox hb
                        have n0_ := Aside0.mk (Kd.R_below (kR_ HO_8.out) hb)
                        have n1_ := Aside0.mk (Kd.R_below (kR_ HO233.out) hb)
                        have n2_ := Aside0.mk (blk_below (g := gb213) (o := .cells #[.int .i64 a0_0, .int .i64 a0_1, .slice A0_2 l0_2.length c0_2, .slice A0_3 l0_3.length c0_3] 25 (0, 0)) (kb_ BK213.out) hb)
                        have n3_ := Aside0.mk (blk_below (g := gb214) (o := .cells #[.int .i64 0, .int .i64 0, .slice none 0 0, .slice none 0 0] 25 (0, 0)) (kb_ BK214.out) hb)
                        have n4_ := Aside0.mk (below_step (hb2_ HB.out GE213.out GE214.out) hb)
                        have n5_ := Aside0.mk (hbox)
                        have n6_ := Aside0.mk ((by rw [hg]; exact (below_size (hb2_ HB.out GE213.out GE214.out)) : w.heap.size ≤ gb234))
                        have n7_ := Aside0.mk ((by rw [hg]; exact (below_size (hb2_ HB.out GE213.out GE214.out)) : w.heap.size ≤ gb234))
                        have n8_ := Aside0.mk ((by rw [hg]; exact Nat.ne_of_lt (blk_lt (g := gb213) (o := .cells #[.int .i64 a0_0, .int .i64 a0_1, .slice A0_2 l0_2.length c0_2, .slice A0_3 l0_3.length c0_3] 25 (0, 0)) (kb_ BK213.out)) : gb213 ≠ gb234))
                        have n9_ := Aside0.mk ((by rw [hg]; exact Nat.ne_of_gt (blk_lt (g := gb213) (o := .cells #[.int .i64 a0_0, .int .i64 a0_1, .slice A0_2 l0_2.length c0_2, .slice A0_3 l0_3.length c0_3] 25 (0, 0)) (kb_ BK213.out)) : gb234 ≠ gb213))
                        have n10_ := Aside0.mk ((by rw [hg]; exact Nat.ne_of_lt (blk_lt (g := gb214) (o := .cells #[.int .i64 0, .int .i64 0, .slice none 0 0, .slice none 0 0] 25 (0, 0)) (kb_ BK214.out)) : gb214 ≠ gb234))
                        have n11_ := Aside0.mk ((by rw [hg]; exact Nat.ne_of_gt (blk_lt (g := gb214) (o := .cells #[.int .i64 0, .int .i64 0, .slice none 0 0, .slice none 0 0] 25 (0, 0)) (kb_ BK214.out)) : gb234 ≠ gb214))
                        clear HO_8
                        clear HO233
                        clear BK213
                        clear BK214
                        clear HB
                        have HO_8 := n0_
                        have HO233 := n1_
                        have BK213 := n2_
                        have BK214 := n3_
                        have HB := n4_
                        have BK234 := n5_
                        have GW234 := n6_
                        have GE234 := n7_
                        have NB213_234 := n8_
                        have NB234_213 := n9_
                        have NB214_234 := n10_
                        have NB234_214 := n11_
                        clear n0_ n1_ n2_ n3_ n4_ n5_ n6_ n7_ n8_ n9_ n10_ n11_
                        clear hb hbox hg
                        refine hK.out _ _ ⟨(blk_cell BK213.out 0).trans rfl, (blk_cell BK213.out 1).trans rfl, (blk_cell BK213.out 2).trans rfl, (blk_cell BK213.out 3).trans rfl⟩ (fun hHeld => ?_)
                        clear hK K
                        refine nm_ 10 ?_
                        exact norm_ (by simp only [putAll, Act.put, List.setIfInBounds_toArray, List.set_cons_zero, List.set_cons_succ]) (hCont (v229, .slice Ao47 y231.length co47, gb234) _ ⟨hHeld, (kR_ HO233.out), (kR_ HO_8.out), (kb_ BK213.out), (kb_ BK214.out), (kb_ BK234.out), GW234.out, GE234.out, NB213_234.out, NB234_213.out, NB214_234.out, NB234_214.out, (hb3_ HB.out GE213.out GE214.out GE234.out)⟩)
                      · skip
                        refine box_step ?hg (N := 10) ?hd (cs := #[.int .i64 0, .int .i64 0, .slice none 0 0, .slice none 0 0]) (t := 25) ?hr ?_; (case hd => rfl); (case hg => rfl); (case hr => first | (go_simp; done) | (go_simp; rfl))
                        intro gb234 hg w46 hbox hb
                        have n0_ := Aside0.mk (Kd.R_below (kR_ HO_8.out) hb)
                        have n1_ := Aside0.mk (Kd.R_below (kR_ HO230.out) hb)
                        have n2_ := Aside0.mk (blk_below (g := gb213) (o := .cells #[.int .i64 a0_0, .int .i64 a0_1, .slice A0_2 l0_2.length c0_2, .slice A0_3 l0_3.length c0_3] 25 (0, 0)) (kb_ BK213.out) hb)
                        have n3_ := Aside0.mk (blk_below (g := gb214) (o := .cells #[.int .i64 0, .int .i64 0, .slice none 0 0, .slice none 0 0] 25 (0, 0)) (kb_ BK214.out) hb)
                        have n4_ := Aside0.mk (below_step (hb2_ HB.out GE213.out GE214.out) hb)
                        have n5_ := Aside0.mk (hbox)
                        have n6_ := Aside0.mk ((by rw [hg]; exact (below_size (hb2_ HB.out GE213.out GE214.out)) : w.heap.size ≤ gb234))
                        have n7_ := Aside0.mk ((by rw [hg]; exact (below_size (hb2_ HB.out GE213.out GE214.out)) : w.heap.size ≤ gb234))
                        have n8_ := Aside0.mk ((by rw [hg]; exact Nat.ne_of_lt (blk_lt (g := gb213) (o := .cells #[.int .i64 a0_0, .int .i64 a0_1, .slice A0_2 l0_2.length c0_2, .slice A0_3 l0_3.length c0_3] 25 (0, 0)) (kb_ BK213.out)) : gb213 ≠ gb234))
                        have n9_ := Aside0.mk ((by rw [hg]; exact Nat.ne_of_gt (blk_lt (g := gb213) (o := .cells #[.int .i64 a0_0, .int .i64 a0_1, .slice A0_2 l0_2.length c0_2, .slice A0_3 l0_3.length c0_3] 25 (0, 0)) (kb_ BK213.out)) : gb234 ≠ gb213))
                        have n10_ := Aside0.mk ((by rw [hg]; exact Nat.ne_of_lt (blk_lt (g := gb214) (o := .cells #[.int .i64 0, .int .i64 0, .slice none 0 0, .slice none 0 0] 25 (0, 0)) (kb_ BK214.out)) : gb214 ≠ gb234))
                        have n11_ := Aside0.mk ((by rw [hg]; exact Nat.ne_of_gt (blk_lt (g := gb214) (o := .cells #[.int .i64 0, .int .i64 0, .slice none 0 0, .slice none 0 0] 25 (0, 0)) (kb_ BK214.out)) : gb234 ≠ gb214))
                        clear HO_8
                        clear HO230
                        clear BK213
                        clear BK214
                        clear HB
                        have HO_8 := n0_
                        have HO230 := n1_
                        have BK213 := n2_
                        have BK214 := n3_
                        have HB := n4_
                        have BK234 := n5_
                        have GW234 := n6_
                        have GE234 := n7_
                        have NB213_234 := n8_
                        have NB234_213 := n9_
                        have NB214_234 := n10_
                        have NB234_214 := n11_
                        clear n0_ n1_ n2_ n3_ n4_ n5_ n6_ n7_ n8_ n9_ n10_ n11_
                        clear hb hbox hg
                        refine hK.out _ _ ⟨(blk_cell BK213.out 0).trans rfl, (blk_cell BK213.out 1).trans rfl, (blk_cell BK213.out 2).trans rfl, (blk_cell BK213.out 3).trans rfl⟩ (fun hHeld => ?_)
                        clear hK K
                        refine nm_ 10 ?_
                        refine on_ (i := 7) (N := some 66) HT_ (fun K hK => ?_)
                        refine Kd.R_append_rows_step (Kd.int .u8) (w0 := w) w.heap.size (by rfl) (.tmp 63) (.tmp 65) 22 5 (.int .u8 0) 1 rfl Try.underlying22 info5 rfl (by decide) (by omega) v229 y228 l0_2 _ _ _ (fun _ => True) (fun _ => False) rfl rfl ?aO ?aR (fun _ _ h => h) (fun _ h => h.elim) ?aF ?aB ?aS ?aL ?_
                        (case aR => exact kC_ (Kd.C_below HR0_2.out HB.out))
                        (case aB => exact (hb3_ HB.out GE213.out GE214.out GE234.out))
                        (case aF => exact (fun _ _ => trivial))
                        (case aO => exact (kR_ HO230.out))
                        (case aS => exact (below_size (hb3_ HB.out GE213.out GE214.out GE234.out)))
                        (case aL => have := LMc41.out; omega)
                        intro v232 w47 ho hb hg hat
                        rw [← Ny231.out] at ho
                        have n0_ := Aside0.mk (Kd.R_over' (kR_ HO_8.out) (Kd.R_typed (kR_ HO230.out)) (by decide) hg)
                        have n1_ := Aside0.mk (blk_grown (g := gb213) (o := .cells #[.int .i64 a0_0, .int .i64 a0_1, .slice A0_2 l0_2.length c0_2, .slice A0_3 l0_3.length c0_3] 25 (0, 0)) (kb_ BK213.out) hg (Kd.R_ne HO230.out BK213.out (by decide)))
                        have n2_ := Aside0.mk (blk_grown (g := gb214) (o := .cells #[.int .i64 0, .int .i64 0, .slice none 0 0, .slice none 0 0] 25 (0, 0)) (kb_ BK214.out) hg (Kd.R_ne HO230.out BK214.out (by decide)))
                        have n3_ := Aside0.mk (blk_grown (g := gb234) (o := .cells #[.int .i64 0, .int .i64 0, .slice none 0 0, .slice none 0 0] 25 (0, 0)) (kb_ BK234.out) hg (Kd.R_ne HO230.out BK234.out (by decide)))
                        have n4_ := Aside0.mk (hb)
                        have n5_ := Aside0.mk (ho)
                        clear HO_8
                        clear BK213
                        clear BK214
                        clear BK234
                        clear HB
                        clear HO230
                        have HO_8 := n0_
                        have BK213 := n1_
                        have BK214 := n2_
                        have BK234 := n3_
                        have HB := n4_
                        have HO233 := n5_
                        clear n0_ n1_ n2_ n3_ n4_ n5_
                        clear ho hb hg hat
                        obtain ⟨Ao48, co48, eo48⟩ := Kd.R_slice HO233.out
                        (first | subst eo48 | (injection eo48 with f1_ f2_ f3_; have f4_ := f1_.symm; have f5_ := f3_.symm; clear f1_ f2_ f3_; subst f4_; subst f5_))
                        refine hK.out _ _ ⟨(blk_cell BK213.out 0).trans rfl, (blk_cell BK213.out 1).trans rfl, (blk_cell BK213.out 2).trans rfl, (blk_cell BK213.out 3).trans rfl⟩ (fun hHeld => ?_)
                        clear hK K
                        refine nm_ 66 ?_
                        refine pu_ (i := 8) (N := some 67) HT_ ?_
                        exact norm_ (by simp only [putAll, Act.put, List.setIfInBounds_toArray, List.set_cons_zero, List.set_cons_succ]) (hCont (v229, .slice Ao48 y231.length co48, gb234) _ ⟨hHeld, (kR_ HO233.out), (kR_ HO_8.out), (kb_ BK213.out), (kb_ BK214.out), (kb_ BK234.out), GW234.out, GE234.out, NB213_234.out, NB234_213.out, NB214_234.out, NB234_214.out, (hb3_ HB.out GE213.out GE214.out GE234.out)⟩)
                    · skip
                      refine box_step ?hg (N := 10) ?hd (cs := #[.int .i64 0, .int .i64 0, .slice none 0 0, .slice none 0 0]) (t := 25) ?hr ?_; (case hd => rfl); (case hg => rfl); (case hr => first | (go_simp; done) | (go_simp; rfl))
                      intro gb234 hg w44 hbox hb
                      have n0_ := Aside0.mk (Kd.R_below (kR_ HO_8.out) hb)
                      have n1_ := Aside0.mk (blk_below (g := gb213) (o := .cells #[.int .i64 a0_0, .int .i64 a0_1, .slice A0_2 l0_2.length c0_2, .slice A0_3 l0_3.length c0_3] 25 (0, 0)) (kb_ BK213.out) hb)
                      have n2_ := Aside0.mk (blk_below (g := gb214) (o := .cells #[.int .i64 0, .int .i64 0, .slice none 0 0, .slice none 0 0] 25 (0, 0)) (kb_ BK214.out) hb)
                      have n3_ := Aside0.mk (below_step (hb2_ HB.out GE213.out GE214.out) hb)
                      have n4_ := Aside0.mk (hbox)
                      have n5_ := Aside0.mk ((by rw [hg]; exact (below_size (hb2_ HB.out GE213.out GE214.out)) : w.heap.size ≤ gb234))
                      have n6_ := Aside0.mk ((by rw [hg]; exact (below_size (hb2_ HB.out GE213.out GE214.out)) : w.heap.size ≤ gb234))
                      have n7_ := Aside0.mk ((by rw [hg]; exact Nat.ne_of_lt (blk_lt (g := gb213) (o := .cells #[.int .i64 a0_0, .int .i64 a0_1, .slice A0_2 l0_2.length c0_2, .slice A0_3 l0_3.length c0_3] 25 (0, 0)) (kb_ BK213.out)) : gb213 ≠ gb234))
                      have n8_ := Aside0.mk ((by rw [hg]; exact Nat.ne_of_gt (blk_lt (g := gb213) (o := .cells #[.int .i64 a0_0, .int .i64 a0_1, .slice A0_2 l0_2.length c0_2, .slice A0_3 l0_3.length c0_3] 25 (0, 0)) (kb_ BK213.out)) : gb234 ≠ gb213))
                      have n9_ := Aside0.mk ((by rw [hg]; exact Nat.ne_of_lt (blk_lt (g := gb214) (o := .cells #[.int .i64 0, .int .i64 0, .slice none 0 0, .slice none 0 0] 25 (0, 0)) (kb_ BK214.out)) : gb214 ≠ gb234))
                      have n10_ := Aside0.mk ((by rw [hg]; exact Nat.ne_of_gt (blk_lt (g := gb214) (o := .cells #[.int .i64 0, .int .i64 0, .slice none 0 0, .slice none 0 0] 25 (0, 0)) (kb_ BK214.out)) : gb234 ≠ gb214))
                      clear HO_8
                      clear BK213
                      clear BK214
                      clear HB
                      have HO_8 := n0_
                      have BK213 := n1_
                      have BK214 := n2_
                      have HB := n3_
                      have BK234 := n4_
                      have GW234 := n5_
                      have GE234 := n6_
                      have NB213_234 := n7_
                      have NB234_213 := n8_
                      have NB214_234 := n9_
                      have NB234_214 := n10_
                      clear n0_ n1_ n2_ n3_ n4_ n5_ n6_ n7_ n8_ n9_ n10_
                      clear hb hbox hg
                      refine hK.out _ _ ⟨(blk_cell BK213.out 0).trans rfl, (blk_cell BK213.out 1).trans rfl, (blk_cell BK213.out 2).trans rfl, (blk_cell BK213.out 3).trans rfl⟩ (fun hHeld => ?_)
                      clear hK K
                      refine nm_ 10 ?_
                      refine on_ (i := 4) (N := some 63) HT_ (fun K hK => ?_)
                      refine Kd.R_lit_step (Kd.int .u8) _ 5 ?hg (N := 63) ?hd (xs := ([] : List Int)) (inner := []) (ok := fun _ => True) (okp := fun _ => True) ?hr ?hp (fun _ hk => hk) trivial (Below.refl _ _) (Nat.le_refl _) (by simp) ?_; (case hd => rfl); (case hg => rfl); (case hr => first | (go_simp; done) | (go_simp; rfl)); (case hp => exact (Reps.none _ _))
                      intro v229 w45 ho46 hb hg_ hnew_
                      clear hg_ hnew_
                      (first | rw [← Ny228.out] at ho46 | (simp only [Int.reduceToNat] at ho46; rw [← Ny228.out] at ho46))
                      have n0_ := Aside0.mk (Kd.R_below (kR_ HO_8.out) hb)
                      have n1_ := Aside0.mk (Kd.R_lower ho46 (below_size (hb3_ HB.out GE213.out GE214.out GE234.out)))
                      have n2_ := Aside0.mk (blk_below (g := gb213) (o := .cells #[.int .i64 a0_0, .int .i64 a0_1, .slice A0_2 l0_2.length c0_2, .slice A0_3 l0_3.length c0_3] 25 (0, 0)) (kb_ BK213.out) hb)
                      have n3_ := Aside0.mk (blk_below (g := gb214) (o := .cells #[.int .i64 0, .int .i64 0, .slice none 0 0, .slice none 0 0] 25 (0, 0)) (kb_ BK214.out) hb)
                      have n4_ := Aside0.mk (blk_below (g := gb234) (o := .cells #[.int .i64 0, .int .i64 0, .slice none 0 0, .slice none 0 0] 25 (0, 0)) (kb_ BK234.out) hb)
                      have n5_ := Aside0.mk (below_step (hb3_ HB.out GE213.out GE214.out GE234.out) hb)
                      clear HO_8
                      clear BK213
                      clear BK214
                      clear BK234
                      clear HB
                      have HO_8 := n0_
                      have HO230 := n1_
                      have BK213 := n2_
                      have BK214 := n3_
                      have BK234 := n4_
                      have HB := n5_
                      clear n0_ n1_ n2_ n3_ n4_ n5_
                      clear hb ho46
                      refine hK.out _ _ ⟨(blk_cell BK213.out 0).trans rfl, (blk_cell BK213.out 1).trans rfl, (blk_cell BK213.out 2).trans rfl, (blk_cell BK213.out 3).trans rfl⟩ (fun hHeld => ?_)
                      clear hK K
                      refine nm_ 63 ?_
                      refine on_ (i := 7) (N := some 66) HT_ (fun K hK => ?_)
                      refine Kd.R_append_rows_step (Kd.int .u8) (w0 := w) w.heap.size (by rfl) (.tmp 63) (.tmp 65) 22 5 (.int .u8 0) 1 rfl Try.underlying22 info5 rfl (by decide) (by omega) v229 y228 l0_2 _ _ _ (fun _ => True) (fun _ => False) rfl rfl ?aO ?aR (fun _ _ h => h) (fun _ h => h.elim) ?aF ?aB ?aS ?aL ?_
                      (case aR => exact kC_ (Kd.C_below HR0_2.out HB.out))
                      (case aB => exact (hb3_ HB.out GE213.out GE214.out GE234.out))
                      (case aF => exact (fun _ _ => trivial))
                      (case aO => exact (kR_ HO230.out))
                      (case aS => exact (below_size (hb3_ HB.out GE213.out GE214.out GE234.out)))
                      (case aL => have := LMc41.out; omega)
                      intro v232 w47 ho hb hg hat
                      rw [← Ny231.out] at ho
                      have n0_ := Aside0.mk (Kd.R_over' (kR_ HO_8.out) (Kd.R_typed (kR_ HO230.out)) (by decide) hg)
                      have n1_ := Aside0.mk (blk_grown (g := gb213) (o := .cells #[.int .i64 a0_0, .int .i64 a0_1, .slice A0_2 l0_2.length c0_2, .slice A0_3 l0_3.length c0_3] 25 (0, 0)) (kb_ BK213.out) hg (Kd.R_ne HO230.out BK213.out (by decide)))
                      have n2_ := Aside0.mk (blk_grown (g := gb214) (o := .cells #[.int .i64 0, .int .i64 0, .slice none 0 0, .slice none 0 0] 25 (0, 0)) (kb_ BK214.out) hg (Kd.R_ne HO230.out BK214.out (by decide)))
                      have n3_ := Aside0.mk (blk_grown (g := gb234) (o := .cells #[.int .i64 0, .int .i64 0, .slice none 0 0, .slice none 0 0] 25 (0, 0)) (kb_ BK234.out) hg (Kd.R_ne HO230.out BK234.out (by decide)))
                      have n4_ := Aside0.mk (hb)
                      have n5_ := Aside0.mk (ho)
                      clear HO_8
                      clear BK213
                      clear BK214
                      clear BK234
                      clear HB
                      clear HO230
                      have HO_8 := n0_
                      have BK213 := n1_
                      have BK214 := n2_
                      have BK234 := n3_
                      have HB := n4_
                      have HO233 := n5_
                      clear n0_ n1_ n2_ n3_ n4_ n5_
                      clear ho hb hg hat
                      obtain ⟨Ao48, co48, eo48⟩ := Kd.R_slice HO233.out
                      (first | subst eo48 | (injection eo48 with f1_ f2_ f3_; have f4_ := f1_.symm; have f5_ := f3_.symm; clear f1_ f2_ f3_; subst f4_; subst f5_))
                      refine hK.out _ _ ⟨(blk_cell BK213.out 0).trans rfl, (blk_cell BK213.out 1).trans rfl, (blk_cell BK213.out 2).trans rfl, (blk_cell BK213.out 3).trans rfl⟩ (fun hHeld => ?_)
                      clear hK K
                      refine nm_ 66 ?_
                      refine pu_ (i := 8) (N := some 67) HT_ ?_
                      exact norm_ (by simp only [putAll, Act.put, List.setIfInBounds_toArray, List.set_cons_zero, List.set_cons_succ]) (hCont (v229, .slice Ao48 y231.length co48, gb234) _ ⟨hHeld, (kR_ HO233.out), (kR_ HO_8.out), (kb_ BK213.out), (kb_ BK214.out), (kb_ BK234.out), GW234.out, GE234.out, NB213_234.out, NB234_213.out, NB214_234.out, NB234_214.out, (hb3_ HB.out GE213.out GE214.out GE234.out)⟩)
                  rintro ⟨v229, v232, gb234⟩ w49 ⟨hS_, h0_, h1_, h2_, h3_, h4_, h5_, h6_, h7_, h8_, h9_, h10_, h11_⟩
                  have n0_ : Aside0 (Kd.R (Kd.int .u8) 5 w49 w.heap.size (fun _ => True) v232 y231) := ⟨h0_⟩
                  have n1_ : Aside0 (Kd.R k70 70 w49 w.heap.size (fun _ => True) u8 x8_2) := ⟨h1_⟩
                  have n2_ : Aside0 (w49.heap[gb213]? = some (.cells #[.int .i64 a0_0, .int .i64 a0_1, .slice A0_2 l0_2.length c0_2, .slice A0_3 l0_3.length c0_3] 25 (0, 0))) := ⟨h2_⟩
                  have n3_ : Aside0 (w49.heap[gb214]? = some (.cells #[.int .i64 0, .int .i64 0, .slice none 0 0, .slice none 0 0] 25 (0, 0))) := ⟨h3_⟩
                  have n4_ : Aside0 (w49.heap[gb234]? = some (.cells #[.int .i64 0, .int .i64 0, .slice none 0 0, .slice none 0 0] 25 (0, 0))) := ⟨h4_⟩
                  have n5_ : Aside0 (w.heap.size ≤ gb234) := ⟨h5_⟩
                  have n6_ : Aside0 (w.heap.size ≤ gb234) := ⟨h6_⟩
                  have n7_ : Aside0 (gb213 ≠ gb234) := ⟨h7_⟩
                  have n8_ : Aside0 (gb234 ≠ gb213) := ⟨h8_⟩
                  have n9_ : Aside0 (gb214 ≠ gb234) := ⟨h9_⟩
                  have n10_ : Aside0 (gb234 ≠ gb214) := ⟨h10_⟩
                  have n11_ : Aside0 (Below w.heap.size w w49) := ⟨h11_⟩
                  clear HO_8
                  clear BK213
                  clear BK214
                  clear HB
                  clear h0_ h1_ h2_ h3_ h4_ h5_ h6_ h7_ h8_ h9_ h10_ h11_
                  have HO233 := n0_
                  have HO_8 := n1_
                  have BK213 := n2_
                  have BK214 := n3_
                  have BK234 := n4_
                  have GW234 := n5_
                  have GE234 := n6_
                  have NB213_234 := n7_
                  have NB234_213 := n8_
                  have NB214_234 := n9_
                  have NB234_214 := n10_
                  have HB := n11_
                  clear n0_ n1_ n2_ n3_ n4_ n5_ n6_ n7_ n8_ n9_ n10_ n11_
                  have hHeld : w49.cell? ⟨gb213, 0, none⟩ = some (.int .i64 a0_0) ∧ w49.cell? ⟨gb213, 1, none⟩ = some (.int .i64 a0_1) ∧ w49.cell? ⟨gb213, 2, none⟩ = some (.slice A0_2 l0_2.length c0_2) ∧ w49.cell? ⟨gb213, 3, none⟩ = some (.slice A0_3 l0_3.length c0_3) := hS_
                  obtain ⟨Ao50, co50, eo50⟩ := Kd.R_slice HO233.out
                  (first | subst eo50 | (injection eo50 with f1_ f2_ f3_; have f4_ := f1_.symm; have f5_ := f3_.symm; clear f1_ f2_ f3_; subst f4_; subst f5_))
                  refine norm_ (a' := ?_) ?_ ?_
                  rotate_left
                  · simp only [putAll, Act.put, List.setIfInBounds_toArray, List.set_cons_zero, List.set_cons_succ]
                    rfl
                  refine on_ (i := 10) (N := none) HT_ (fun K hK => ?_)
                  have hs51 : w49.cell? ⟨gb234, 0, none⟩ = some (.int .i64 0) := (blk_cell BK234.out 0).trans rfl
                  have hfs51 := blk_frozen BK234.out 0
                  have hns51_0 := NB213_234.out
                  have hns51_1 := NB214_234.out
                  have hms51_0 := NB234_213.out
                  have hms51_1 := NB234_214.out
                  have hs52 : w49.cell? ⟨gb234, 1, none⟩ = some (.int .i64 0) := (blk_cell BK234.out 1).trans rfl
                  have hfs52 := blk_frozen BK234.out 1
                  have hns52_0 := NB213_234.out
                  have hns52_1 := NB214_234.out
                  have hms52_0 := NB234_213.out
                  have hms52_1 := NB234_214.out
                  have hs53 : w49.cell? ⟨gb234, 2, none⟩ = some (.slice none 0 0) := (blk_cell BK234.out 2).trans rfl
                  have hfs53 := blk_frozen BK234.out 2
                  have hns53_0 := NB213_234.out
                  have hns53_1 := NB214_234.out
                  have hms53_0 := NB234_213.out
                  have hms53_1 := NB234_214.out
                  have hs54 : w49.cell? ⟨gb234, 3, none⟩ = some (.slice none 0 0) := (blk_cell BK234.out 3).trans rfl
                  have hfs54 := blk_frozen BK234.out 3
                  have hns54_0 := NB213_234.out
                  have hns54_1 := NB214_234.out
                  have hms54_0 := NB234_213.out
                  have hms54_1 := NB234_214.out
                  refine skip_ (w1 := ?_) (by rfl) rfl ?_ ?_
                  rotate_left
                  · go_simp
                    rfl
                  refine hK.out _ _ ⟨((cell_far (p := ⟨gb234, _, none⟩) NB213_234.out _).trans (((cell_far (p := ⟨gb234, _, none⟩) NB213_234.out _).trans (((cell_far (p := ⟨gb234, _, none⟩) NB213_234.out _).trans (((cell_far (p := ⟨gb234, _, none⟩) NB213_234.out _).trans (hHeld.1)))))))), ((cell_far (p := ⟨gb234, _, none⟩) NB213_234.out _).trans (((cell_far (p := ⟨gb234, _, none⟩) NB213_234.out _).trans (((cell_far (p := ⟨gb234, _, none⟩) NB213_234.out _).trans (((cell_far (p := ⟨gb234, _, none⟩) NB213_234.out _).trans (hHeld.2.1)))))))), ((cell_far (p := ⟨gb234, _, none⟩) NB213_234.out _).trans (((cell_far (p := ⟨gb234, _, none⟩) NB213_234.out _).trans (((cell_far (p := ⟨gb234, _, none⟩) NB213_234.out _).trans (((cell_far (p := ⟨gb234, _, none⟩) NB213_234.out _).trans (hHeld.2.2.1)))))))), ((cell_far (p := ⟨gb234, _, none⟩) NB213_234.out _).trans (((cell_far (p := ⟨gb234, _, none⟩) NB213_234.out _).trans (((cell_far (p := ⟨gb234, _, none⟩) NB213_234.out _).trans (((cell_far (p := ⟨gb234, _, none⟩) NB213_234.out _).trans (hHeld.2.2.2))))))))⟩ (fun hHeld => ?_)
                  clear hK K
                  refine done_ (done_of HT_.out (by kernel_rfl)) ?_
                  go_upto_block 2 with (fail)
                  go_cut [11] (fun v11 wc => ∃ (kq : Nat) (x11_41 : Int) (x235000_41 : Int) (x235002_41 : List Int) (u235002 : Value), v11 = .int .i64 x11_41 ∧ Aside0 (spec_EarHear.j3 kq x8_2 x11_41 x235000_41 a0_1 x235002_41 = some (r1, r2, r3, r4)) ∧ Aside0 (kq ≤ k2) ∧ Aside0 (Kd.R k70 70 wc w.heap.size (fun _ => True) u8 x8_2) ∧ Aside0 (Kd.R (Kd.int .u8) 5 wc w.heap.size (fun _ => True) u235002 x235002_41) ∧ Aside0 (wc.heap[gb213]? = some (.cells #[.int .i64 a0_0, .int .i64 a0_1, (.slice A0_2 l0_2.length c0_2), (.slice A0_3 l0_3.length c0_3)] 25 (0, 0))) ∧ Aside0 (wc.heap[gb214]? = some (.cells #[.int .i64 0, .int .i64 0, (.slice none 0 0), (.slice none 0 0)] 25 (0, 0))) ∧ Aside0 (wc.heap[gb234]? = some (.cells #[.int .i64 x235000_41, .int .i64 a0_1, u235002, (.slice none 0 0)] 25 (0, 0))) ∧ Aside0 (Below w.heap.size w wc))
                  case first =>
                    have H := HC42.out
                    clear HC42
                    have H' := Aside0.mk H
                    clear H
                    go_wp2
                    go_loopg [11] k2 (fun kq v11 w' => ∃ (x11_3 : Int) (x235000_3 : Int) (x235002_3 : List Int) (u235002 : Value), v11 = .int .i64 x11_3 ∧ Aside0 (spec_EarHear.l1 kq x8_2 x11_3 x235000_3 a0_1 x235002_3 = some (r1, r2, r3, r4)) ∧ Aside0 (kq ≤ k2) ∧ Aside0 (Kd.R k70 70 w' w.heap.size (fun _ => True) u8 x8_2) ∧ Aside0 (Kd.R (Kd.int .u8) 5 w' w.heap.size (fun _ => True) u235002 x235002_3) ∧ Aside0 (w'.heap[gb213]? = some (.cells #[.int .i64 a0_0, .int .i64 a0_1, (.slice A0_2 l0_2.length c0_2), (.slice A0_3 l0_3.length c0_3)] 25 (0, 0))) ∧ Aside0 (w'.heap[gb214]? = some (.cells #[.int .i64 0, .int .i64 0, (.slice none 0 0), (.slice none 0 0)] 25 (0, 0))) ∧ Aside0 (w'.heap[gb234]? = some (.cells #[.int .i64 x235000_3, .int .i64 a0_1, u235002, (.slice none 0 0)] 25 (0, 0))) ∧ Aside0 (Below w.heap.size w w'))
                    case atStart => exact ⟨(0), (a0_0), (y231), (.slice Ao50 y231.length co50), (by first | rfl | (simp; done) | (simp [*]; done)), H', ⟨Nat.le_refl _⟩, ⟨by refine kR_ ?_; exact Kd.R_mono (Kd.R_f gb234 3 (.slice none 0 0) (Kd.R_f gb234 2 (.slice Ao50 y231.length co50) (Kd.R_f gb234 1 (.int .i64 a0_1) (Kd.R_f gb234 0 (.int .i64 a0_0) (Kd.R_types HO_8.out BK234.out (by decide)))))) (fun _ hk => trivial)⟩, ⟨by refine kR_ ?_; exact Kd.R_mono (Kd.R_f gb234 3 (.slice none 0 0) (Kd.R_f gb234 2 (.slice Ao50 y231.length co50) (Kd.R_f gb234 1 (.int .i64 a0_1) (Kd.R_f gb234 0 (.int .i64 a0_0) (Kd.R_types HO233.out BK234.out (by decide)))))) (fun _ hk => trivial)⟩, ⟨by refine kb_ ?_; refine blk_far ?_ NB213_234.out _; refine kb_ ?_; refine blk_far ?_ NB213_234.out _; refine kb_ ?_; refine blk_far ?_ NB213_234.out _; refine kb_ ?_; refine blk_far ?_ NB213_234.out _; refine kb_ ?_; exact BK213.out⟩, ⟨by refine kb_ ?_; refine blk_far ?_ NB214_234.out _; refine kb_ ?_; refine blk_far ?_ NB214_234.out _; refine kb_ ?_; refine blk_far ?_ NB214_234.out _; refine kb_ ?_; refine blk_far ?_ NB214_234.out _; refine kb_ ?_; exact BK214.out⟩, ⟨by refine kb_ ?_; refine blk_put (cs := #[.int .i64 a0_0, .int .i64 a0_1, .slice Ao50 y231.length co50, .slice none 0 0]) ?_ 3 _ rfl; refine kb_ ?_; refine blk_put (cs := #[.int .i64 a0_0, .int .i64 a0_1, .slice none 0 0, .slice none 0 0]) ?_ 2 _ rfl; refine kb_ ?_; refine blk_put (cs := #[.int .i64 a0_0, .int .i64 0, .slice none 0 0, .slice none 0 0]) ?_ 1 _ rfl; refine kb_ ?_; refine blk_put (cs := #[.int .i64 0, .int .i64 0, .slice none 0 0, .slice none 0 0]) ?_ 0 _ rfl; refine kb_ ?_; exact BK234.out⟩, ⟨by repeat (first | (with_reducible first | exact HB.out | apply below_alloc | apply pw_below_drewN | apply below_drew1 | refine below_set ?_ GE213.out | refine below_set ?_ GE214.out | refine below_set ?_ GE234.out) | exact HB.out)⟩⟩
                    case round =>
                      clear H'
                      try clear c2
                      try clear p2
                      try clear q2
                      try clear hx2
                      try clear c3
                      try clear c4
                      try clear p6
                      try clear c8
                      try clear p22
                      try clear q22
                      try clear hx22
                      try clear c28
                      try clear c28b0
                      try clear c29
                      try clear c29b0
                      try clear c30
                      try clear c30b0
                      try clear c31
                      try clear c31b0
                      try clear c33
                      try clear c37
                      try clear c39
                      try clear c41
                      try clear hcz34_0
                      try clear hcz34_1
                      try clear hcz34_2
                      try clear hcz34_3
                      try clear hcz38_0
                      try clear hcz38_1
                      try clear hcz38_2
                      try clear hcz38_3
                      try clear hcz40_0
                      try clear hcz40_1
                      try clear hcz40_2
                      try clear hcz40_3
                      try clear hfz11_2
                      try clear hfz11_3
                      try clear hfz14_0
                      try clear hfz14_1
                      try clear hfz14_2
                      try clear hfz14_3
                      try clear hfz18_0
                      try clear hfz18_1
                      try clear hfz18_2
                      try clear hfz18_3
                      try clear hfz22_0
                      try clear hfz22_1
                      try clear hfz22_2
                      try clear hfz22_3
                      try clear hfz26_0
                      try clear hfz26_1
                      try clear hfz26_2
                      try clear hfz26_3
                      try clear hfz34_0
                      try clear hfz34_1
                      try clear hfz34_2
                      try clear hfz34_3
                      try clear hfz38_0
                      try clear hfz38_1
                      try clear hfz38_2
                      try clear hfz38_3
                      try clear hfz40_0
                      try clear hfz40_1
                      try clear hfz40_2
                      try clear hfz40_3
                      try clear hx224_0
                      try clear p2
                      try clear p224
                      try clear q224
                      obtain ⟨x11_3, x235000_3, x235002_3, u235002, rfl, HA, HK3, HO_8, HO_235002, BK213, BK214, BK234, HB⟩ := hrel
                      cases gk with
                      | zero => exact absurd HA.out (by simp [spec_EarHear.l1])
                      | succ k3 =>
                        have H := HA.out
                        clear HA
                        simp only [spec_EarHear.l1] at H
                        by_cases c55 : x11_3 < (x8_2.length : Int)
                        · rw [if_pos c55] at H
                          have c55b0 : decide (x11_3 < (x8_2.length : Int)) = true := decide_eq_true c55
                          clear c55
                          (first | rw [c55b0] | (simp only [i64_w, i32_w]; rw [c55b0]) | skip)
                          by_cases c56 : 0 ≤ x11_3
                          · rw [if_pos c56] at H
                            have c56b0 : decide (0 ≤ x11_3) = true := decide_eq_true c56
                            clear c56
                            by_cases c57 : ((rd_T70 x8_2 x11_3).f0) = x235000_3
                            · rw [if_pos c57] at H
                              have c57b0 : (((rd_T70 x8_2 x11_3).f0) == x235000_3) = true := beq_iff_eq.mpr c57
                              have c57b1 : (((rd_T70 x8_2 x11_3).f0) != x235000_3) = false := bne_eq_false_iff_eq.mpr c57
                              clear c57
                              by_cases c58 : x235002_3.length < 140737488355328
                              · rw [if_pos c58] at H
                                have LMc58 := Aside0.mk c58
                                clear c58
                                obtain ⟨y237, hy237⟩ : ∃ y_ : List Int, y_ = (x235002_3 ++ [(rd_T70 x8_2 x11_3).f1]) := ⟨_, rfl⟩
                                replace H : (spec_EarHear.l1 k3 x8_2 (wrap64 (x11_3 + 1)) (wrap64 (x235000_3 + 1)) a0_1 y237) = some (r1, r2, r3, r4) := by first | (rw [hy237]; with_reducible exact H) | (have H2_ := (Option.bind_some _ _).symm.trans H; rw [hy237]; with_reducible exact H2_) | (have H2_ := (Option.bind_some _ _).symm.trans H; with_reducible exact H2_) | with_reducible exact H | (rw [hy237]; exact H) | exact H
                                have Ny237 := Aside0.mk hy237
                                clear hy237
                                have H' := Aside0.mk H
                                clear H
                                try go_wp2
                                have n0_ := Aside0.mk (Kd.R_drew HO_8.out)
                                have n1_ := Aside0.mk (Kd.R_drew HO_235002.out)
                                have n2_ := Aside0.mk (blk_drew BK213.out)
                                have n3_ := Aside0.mk (blk_drew BK214.out)
                                have n4_ := Aside0.mk (blk_drew BK234.out)
                                have n5_ := Aside0.mk (below_drew1 HB.out)
                                clear HO_8
                                clear HO_235002
                                clear BK213
                                clear BK214
                                clear BK234
                                clear HB
                                have HO_8 := n0_
                                have HO_235002 := n1_
                                have BK213 := n2_
                                have BK214 := n3_
                                have BK234 := n4_
                                have HB := n5_
                                clear n0_ n1_ n2_ n3_ n4_ n5_
                                obtain ⟨Ao60, co60, eo60⟩ := Kd.R_slice HO_8.out
                                (first | subst eo60 | (injection eo60 with f1_ f2_ f3_; have f4_ := f1_.symm; have f5_ := f3_.symm; clear f1_ f2_ f3_; subst f4_; subst f5_))
                                have p235 : 0 ≤ (x11_3 : Int) := of_decide_eq_true (by first | (with_reducible assumption) | assumption)
                                have q235 : x11_3 < (x8_2.length : Int) := of_decide_eq_true (by first | (with_reducible assumption) | assumption)
                                obtain ⟨ad235, e235, hx235_0, hx235_1⟩ := at_T70 (Kd.R_reads' HO_8.out).2.2 x11_3 p235 q235
                                cases e235
                                replace p235 := eq_true p235
                                replace q235 := eq_true q235
                                refine start_ (n := 14) (S := fun w' => w'.cell? ⟨gb234, 0, none⟩ = some (.int .i64 x235000_3) ∧ w'.cell? ⟨gb234, 1, none⟩ = some (.int .i64 a0_1) ∧ w'.cell? ⟨gb234, 2, none⟩ = some (u235002) ∧ w'.cell? ⟨gb234, 3, none⟩ = some (.slice none 0 0) ∧ w'.cell? (ad235.add ((x11_3).toNat * 2)) = some (.int .i64 ((rd_T70 x8_2 x11_3).f0)) ∧ w'.cell? ⟨(ad235.add ((x11_3).toNat * 2)).block, (ad235.add ((x11_3).toNat * 2)).off + 1, none⟩ = some (.int .u8 ((rd_T70 x8_2 x11_3).f1))) (ds := []) #[false, false, false, false, false, false, false, false, false, false, false, false, false, false] (by kernel_rfl) rfl rfl ⟨(blk_cell BK234.out 0).trans rfl, (blk_cell BK234.out 1).trans rfl, (blk_cell BK234.out 2).trans rfl, (blk_cell BK234.out 3).trans rfl, hx235_0, hx235_1⟩ (fun hHeld => ?_); refine with_tabW spec_EarHear.tab12 spec_EarHear.bits12 (fun HT_ HW_ => ?_)
                                generalize wr.drew = w59 at HO_8 HO_235002 BK213 BK214 BK234 HB hx235_0 hx235_1 hHeld ⊢
                                refine pu_ (i := 0) (N := some 68) HT_ ?_
                                refine pu_ (i := 1) (N := some 69) HT_ ?_
                                refine pu_ (i := 2) (N := some 70) HT_ ?_
                                refine pu_ (i := 3) (N := some 71) HT_ ?_
                                refine pu_ (i := 4) (N := some 72) HT_ ?_
                                refine pu_ (i := 5) (N := some 73) HT_ ?_
                                refine pu_ (i := 6) (N := some 74) HT_ ?_
                                refine pu_ (i := 7) (N := some 75) HT_ ?_
                                refine pu_ (i := 8) (N := some 76) HT_ ?_
                                refine pu_ (i := 10) (N := some 78) HT_ ?_
                                refine tk_ (i := 9) (N := some 77) HT_ HW_ hHeld ?_
                                refine tk_ (i := 11) (N := some 79) HT_ HW_ hHeld ?_
                                refine pu_ (i := 12) (N := some 80) HT_ ?_
                                refine pu_ (i := 13) (N := some 81) HT_ ?_
                                refine done_ (done_of HT_.out (by kernel_rfl)) ?_
                                try go_wp2
                                have n0_ := Aside0.mk (Kd.R_drew HO_8.out)
                                have n1_ := Aside0.mk (Kd.R_drew HO_235002.out)
                                have n2_ := Aside0.mk (blk_drew BK213.out)
                                have n3_ := Aside0.mk (blk_drew BK214.out)
                                have n4_ := Aside0.mk (blk_drew BK234.out)
                                have n5_ := Aside0.mk (below_drew1 HB.out)
                                clear HO_8
                                clear HO_235002
                                clear BK213
                                clear BK214
                                clear BK234
                                clear HB
                                have HO_8 := n0_
                                have HO_235002 := n1_
                                have BK213 := n2_
                                have BK214 := n3_
                                have BK234 := n4_
                                have HB := n5_
                                clear n0_ n1_ n2_ n3_ n4_ n5_
                                have p236 : 0 ≤ (x11_3 : Int) := of_decide_eq_true (by first | (with_reducible assumption) | assumption)
                                have q236 : x11_3 < (x8_2.length : Int) := of_decide_eq_true (by first | (with_reducible assumption) | assumption)
                                obtain ⟨ad236, e236, hx236_0, hx236_1⟩ := at_T70 (Kd.R_reads' HO_8.out).2.2 x11_3 p236 q236
                                obtain rfl : ad235 = ad236 := (by injection e236)
                                replace p236 := eq_true p236
                                replace q236 := eq_true q236
                                refine start_ (n := 11) (S := fun w' => w'.cell? ⟨gb234, 0, none⟩ = some (.int .i64 x235000_3) ∧ w'.cell? ⟨gb234, 1, none⟩ = some (.int .i64 a0_1) ∧ w'.cell? ⟨gb234, 2, none⟩ = some (u235002) ∧ w'.cell? ⟨gb234, 3, none⟩ = some (.slice none 0 0) ∧ w'.cell? (ad235.add ((x11_3).toNat * 2)) = some (.int .i64 ((rd_T70 x8_2 x11_3).f0)) ∧ w'.cell? ⟨(ad235.add ((x11_3).toNat * 2)).block, (ad235.add ((x11_3).toNat * 2)).off + 1, none⟩ = some (.int .u8 ((rd_T70 x8_2 x11_3).f1))) (ds := [8, 10]) #[false, false, false, false, false, false, false, false, false, false, false] (by kernel_rfl) rfl rfl ⟨(blk_cell BK234.out 0).trans rfl, (blk_cell BK234.out 1).trans rfl, (blk_cell BK234.out 2).trans rfl, (blk_cell BK234.out 3).trans rfl, hx236_0, hx236_1⟩ (fun hHeld => ?_); refine with_tabW spec_EarHear.tab13 spec_EarHear.bits13 (fun HT_ HW_ => ?_)
                                generalize w59.drew = w61 at HO_8 HO_235002 BK213 BK214 BK234 HB hx236_0 hx236_1 hHeld ⊢
                                refine pu_ (i := 0) (N := some 82) HT_ ?_
                                refine pu_ (i := 2) (N := some 84) HT_ ?_
                                refine pu_ (i := 3) (N := some 85) HT_ ?_
                                refine pu_ (i := 4) (N := some 86) HT_ ?_
                                refine pu_ (i := 5) (N := some 87) HT_ ?_
                                refine tk_ (i := 1) (N := some 83) HT_ HW_ hHeld ?_
                                refine tk_ (i := 6) (N := some 88) HT_ HW_ hHeld ?_
                                refine on_ (i := 7) (N := some 89) HT_ (fun K hK => ?_)
                                refine value_ (w1 := ?_) (v := ?_) (by rfl) rfl ?_ ?_
                                rotate_left 2
                                · go_simp
                                  constructor
                                  · rfl
                                  · rfl
                                refine hK.out _ _ ⟨(blk_cell (blk_alloc BK234.out _) 0).trans rfl, (blk_cell (blk_alloc BK234.out _) 1).trans rfl, (blk_cell (blk_alloc BK234.out _) 2).trans rfl, (blk_cell (blk_alloc BK234.out _) 3).trans rfl, (World.cell?_alloc_lt _ _ _ (World.block_lt_of_cell? _ _ (hHeld.2.2.2.2.1))).trans (hHeld.2.2.2.2.1), (World.cell?_alloc_lt _ _ _ (World.block_lt_of_cell? _ _ (hHeld.2.2.2.2.2))).trans (hHeld.2.2.2.2.2)⟩ (fun hHeld => ?_)
                                clear hK K
                                refine nm_ 89 ?_
                                refine last_ (i := 8) (N := some 90) #[true, true, true, true, true, true, true, true, true, false, false] rfl rfl (one_of HT_.out (by kernel_rfl)) (by decide) (fun K hK => ?_)
                                refine Kd.R_append_step (Kd.int .u8) (w0 := w) w.heap.size (by rfl) (.tmp 83) (.tmp 89) 22 5 (.int .u8 0) 1 rfl Try.underlying22 info5 rfl (by decide) (by omega) u235002 x235002_3 ((rd_T70 x8_2 x11_3).f1) [.int .u8 ((rd_T70 x8_2 x11_3).f1)] (fun _ => True) (fun _ => False) rfl rfl ?aP (fun _ hk => hk.elim) ?aF ?aO ?aB ?aS ?aL ?_
                                (case aP => exact rfl)
                                (case aB => exact (hb3_ HB.out GE213.out GE214.out GE234.out))
                                (case aF => exact (fun _ _ => trivial))
                                (case aO => exact (kR_ HO_235002.out))
                                (case aS => exact (below_size (hb3_ HB.out GE213.out GE214.out GE234.out)))
                                (case aL => have := LMc58.out; omega)
                                intro v238 w62 ho hb hg hat
                                rw [← Ny237.out] at ho
                                have n0_ := Aside0.mk (Kd.R_over' (kR_ HO_8.out) (Kd.R_typed (kR_ HO_235002.out)) (by decide) hg)
                                have n1_ := Aside0.mk (blk_grown (g := gb213) (o := .cells #[.int .i64 a0_0, .int .i64 a0_1, .slice A0_2 l0_2.length c0_2, .slice A0_3 l0_3.length c0_3] 25 (0, 0)) (kb_ BK213.out) hg (Kd.R_ne HO_235002.out BK213.out (by decide)))
                                have n2_ := Aside0.mk (blk_grown (g := gb214) (o := .cells #[.int .i64 0, .int .i64 0, .slice none 0 0, .slice none 0 0] 25 (0, 0)) (kb_ BK214.out) hg (Kd.R_ne HO_235002.out BK214.out (by decide)))
                                have n3_ := Aside0.mk (blk_grown (g := gb234) (o := .cells #[.int .i64 x235000_3, .int .i64 a0_1, u235002, .slice none 0 0] 25 (0, 0)) (kb_ BK234.out) hg (Kd.R_ne HO_235002.out BK234.out (by decide)))
                                have n4_ := Aside0.mk (hb)
                                have n5_ := Aside0.mk (ho)
                                clear HO_8
                                clear BK213
                                clear BK214
                                clear BK234
                                clear HB
                                clear HO_235002
                                have HO_8 := n0_
                                have BK213 := n1_
                                have BK214 := n2_
                                have BK234 := n3_
                                have HB := n4_
                                have HO239 := n5_
                                clear n0_ n1_ n2_ n3_ n4_ n5_
                                clear ho hb hg hat
                                obtain ⟨Ao63, co63, eo63⟩ := Kd.R_slice HO239.out
                                (first | subst eo63 | (injection eo63 with f1_ f2_ f3_; have f4_ := f1_.symm; have f5_ := f3_.symm; clear f1_ f2_ f3_; subst f4_; subst f5_))
                                refine hK.out _ _ ?_
                                clear hK K
                                refine nm_ 90 ?_
                                refine pu_ (i := 9) (N := some 91) HT_ ?_
                                refine last_ (i := 10) (N := none) #[true, true, true, true, true, true, true, true, true, true, true] rfl rfl (one_of HT_.out (by kernel_rfl)) (by decide) (fun K hK => ?_)
                                have hs64 : w62.cell? ⟨gb234, 2, none⟩ = some (u235002) := (blk_cell BK234.out 2).trans rfl
                                have hfs64 := blk_frozen BK234.out 2
                                have hns64_0 := NB213_234.out
                                have hns64_1 := NB214_234.out
                                have hms64_0 := NB234_213.out
                                have hms64_1 := NB234_214.out
                                refine skip_ (w1 := ?_) (by rfl) rfl ?_ ?_
                                rotate_left
                                · go_simp
                                  rfl
                                refine hK.out _ _ ?_
                                clear hK K
                                refine done_ (done_of HT_.out (by kernel_rfl)) ?_
                                have hnb65 := NB234_213.out
                                have hnc65 := NB213_234.out
                                have hnb66 := NB234_214.out
                                have hnc66 := NB214_234.out
                                have hcz67_0 : w62.cell? ⟨gb234, 0, none⟩ = some (.int .i64 x235000_3) := (blk_cell BK234.out 0).trans rfl
                                have hcz67_1 : w62.cell? ⟨gb234, 1, none⟩ = some (.int .i64 a0_1) := (blk_cell BK234.out 1).trans rfl
                                have hcz67_2 : w62.cell? ⟨gb234, 2, none⟩ = some (u235002) := (blk_cell BK234.out 2).trans rfl
                                have hcz67_3 : w62.cell? ⟨gb234, 3, none⟩ = some (.slice none 0 0) := (blk_cell BK234.out 3).trans rfl
                                have hfz67_0 := blk_frozen BK234.out 0
                                have hfz67_1 := blk_frozen BK234.out 1
                                have hfz67_2 := blk_frozen BK234.out 2
                                have hfz67_3 := blk_frozen BK234.out 3
                                try go_wp2
                                go_roundg k3
                                case measure => have := HJ3.out; have := HK2.out; have := HK3.out; omega
                                case rel => exact ⟨(wrap64 (x11_3 + 1)), (wrap64 (x235000_3 + 1)), (y237), (.slice Ao63 y237.length co63), (by first | rfl | (simp; done) | (simp [*]; done)), H', ⟨by have := HJ3.out; have := HK2.out; have := HK3.out; omega⟩, ⟨by refine kR_ ?_; exact Kd.R_mono (Kd.R_f gb234 0 (.int .i64 (wrap64 (x235000_3 + 1))) (Kd.R_f gb234 2 (.slice Ao63 y237.length co63) (Kd.R_types HO_8.out BK234.out (by decide)))) (fun _ hk => trivial)⟩, ⟨by refine kR_ ?_; exact Kd.R_mono (Kd.R_f gb234 0 (.int .i64 (wrap64 (x235000_3 + 1))) (Kd.R_f gb234 2 (.slice Ao63 y237.length co63) (Kd.R_types HO239.out BK234.out (by decide)))) (fun _ hk => trivial)⟩, ⟨by refine kb_ ?_; refine blk_far ?_ NB213_234.out _; refine kb_ ?_; refine blk_far ?_ NB213_234.out _; refine kb_ ?_; exact BK213.out⟩, ⟨by refine kb_ ?_; refine blk_far ?_ NB214_234.out _; refine kb_ ?_; refine blk_far ?_ NB214_234.out _; refine kb_ ?_; exact BK214.out⟩, ⟨by refine kb_ ?_; refine blk_put (cs := #[.int .i64 x235000_3, .int .i64 a0_1, .slice Ao63 y237.length co63, .slice none 0 0]) ?_ 0 _ rfl; refine kb_ ?_; refine blk_put (cs := #[.int .i64 x235000_3, .int .i64 a0_1, u235002, .slice none 0 0]) ?_ 2 _ rfl; refine kb_ ?_; exact BK234.out⟩, ⟨by repeat (first | (with_reducible first | exact HB.out | apply below_alloc | apply pw_below_drewN | apply below_drew1 | refine below_set ?_ GE213.out | refine below_set ?_ GE214.out | refine below_set ?_ GE234.out) | exact HB.out)⟩⟩
                              · rw [if_neg c58] at H
                                exact absurd H (by simp)
                            · rw [if_neg c57] at H
                              have c57b0 : (((rd_T70 x8_2 x11_3).f0) == x235000_3) = false := beq_eq_false_iff_ne.mpr c57
                              have c57b1 : (((rd_T70 x8_2 x11_3).f0) != x235000_3) = true := bne_iff_ne.mpr c57
                              have H' := Aside0.mk H
                              clear H
                              try go_wp2
                              have n0_ := Aside0.mk (Kd.R_drew HO_8.out)
                              have n1_ := Aside0.mk (Kd.R_drew HO_235002.out)
                              have n2_ := Aside0.mk (blk_drew BK213.out)
                              have n3_ := Aside0.mk (blk_drew BK214.out)
                              have n4_ := Aside0.mk (blk_drew BK234.out)
                              have n5_ := Aside0.mk (below_drew1 HB.out)
                              clear HO_8
                              clear HO_235002
                              clear BK213
                              clear BK214
                              clear BK234
                              clear HB
                              have HO_8 := n0_
                              have HO_235002 := n1_
                              have BK213 := n2_
                              have BK214 := n3_
                              have BK234 := n4_
                              have HB := n5_
                              clear n0_ n1_ n2_ n3_ n4_ n5_
                              obtain ⟨Ao69, co69, eo69⟩ := Kd.R_slice HO_8.out
                              (first | subst eo69 | (injection eo69 with f1_ f2_ f3_; have f4_ := f1_.symm; have f5_ := f3_.symm; clear f1_ f2_ f3_; subst f4_; subst f5_))
                              have p235 : 0 ≤ (x11_3 : Int) := of_decide_eq_true (by first | (with_reducible assumption) | assumption)
                              have q235 : x11_3 < (x8_2.length : Int) := of_decide_eq_true (by first | (with_reducible assumption) | assumption)
                              obtain ⟨ad235, e235, hx235_0, hx235_1⟩ := at_T70 (Kd.R_reads' HO_8.out).2.2 x11_3 p235 q235
                              cases e235
                              replace p235 := eq_true p235
                              replace q235 := eq_true q235
                              refine start_ (n := 14) (S := fun w' => w'.cell? ⟨gb234, 0, none⟩ = some (.int .i64 x235000_3) ∧ w'.cell? ⟨gb234, 1, none⟩ = some (.int .i64 a0_1) ∧ w'.cell? ⟨gb234, 2, none⟩ = some (u235002) ∧ w'.cell? ⟨gb234, 3, none⟩ = some (.slice none 0 0) ∧ w'.cell? (ad235.add ((x11_3).toNat * 2)) = some (.int .i64 ((rd_T70 x8_2 x11_3).f0)) ∧ w'.cell? ⟨(ad235.add ((x11_3).toNat * 2)).block, (ad235.add ((x11_3).toNat * 2)).off + 1, none⟩ = some (.int .u8 ((rd_T70 x8_2 x11_3).f1))) (ds := []) #[false, false, false, false, false, false, false, false, false, false, false, false, false, false] (by kernel_rfl) rfl rfl ⟨(blk_cell BK234.out 0).trans rfl, (blk_cell BK234.out 1).trans rfl, (blk_cell BK234.out 2).trans rfl, (blk_cell BK234.out 3).trans rfl, hx235_0, hx235_1⟩ (fun hHeld => ?_); refine with_tabW spec_EarHear.tab12 spec_EarHear.bits12 (fun HT_ HW_ => ?_)
                              generalize wr.drew = w68 at HO_8 HO_235002 BK213 BK214 BK234 HB hx235_0 hx235_1 hHeld ⊢
                              refine pu_ (i := 0) (N := some 68) HT_ ?_
                              refine pu_ (i := 1) (N := some 69) HT_ ?_
                              refine pu_ (i := 2) (N := some 70) HT_ ?_
                              refine pu_ (i := 3) (N := some 71) HT_ ?_
                              refine pu_ (i := 4) (N := some 72) HT_ ?_
                              refine pu_ (i := 5) (N := some 73) HT_ ?_
                              refine pu_ (i := 6) (N := some 74) HT_ ?_
                              refine pu_ (i := 7) (N := some 75) HT_ ?_
                              refine pu_ (i := 8) (N := some 76) HT_ ?_
                              refine pu_ (i := 10) (N := some 78) HT_ ?_
                              refine tk_ (i := 9) (N := some 77) HT_ HW_ hHeld ?_
                              refine tk_ (i := 11) (N := some 79) HT_ HW_ hHeld ?_
                              refine pu_ (i := 12) (N := some 80) HT_ ?_
                              refine pu_ (i := 13) (N := some 81) HT_ ?_
                              refine done_ (done_of HT_.out (by kernel_rfl)) ?_
                              try go_wp2
                              go_meet
                              case rel => exact ⟨_, (x11_3), (x235000_3), (x235002_3), (u235002), (by first | rfl | (simp; done) | (simp [*]; done)), H', ⟨by have := HJ3.out; have := HK2.out; have := HK3.out; first | omega | exact Nat.le_refl _⟩, ⟨kR_ HO_8.out⟩, ⟨kR_ HO_235002.out⟩, ⟨by refine kb_ ?_; exact BK213.out⟩, ⟨by refine kb_ ?_; exact BK214.out⟩, ⟨by refine kb_ ?_; exact BK234.out⟩, ⟨by repeat (first | (with_reducible first | exact HB.out | apply below_alloc | apply pw_below_drewN | apply below_drew1 | refine below_set ?_ GE213.out | refine below_set ?_ GE214.out | refine below_set ?_ GE234.out) | exact HB.out)⟩⟩
                          · rw [if_neg c56] at H
                            exact absurd H (by simp)
                        · rw [if_neg c55] at H
                          have c55b0 : decide (x11_3 < (x8_2.length : Int)) = false := decide_eq_false c55
                          clear c55
                          (first | rw [c55b0] | (simp only [i64_w, i32_w]; rw [c55b0]) | skip)
                          have H' := Aside0.mk H
                          clear H
                          try go_wp2
                          have n0_ := Aside0.mk (Kd.R_drew HO_8.out)
                          have n1_ := Aside0.mk (Kd.R_drew HO_235002.out)
                          have n2_ := Aside0.mk (blk_drew BK213.out)
                          have n3_ := Aside0.mk (blk_drew BK214.out)
                          have n4_ := Aside0.mk (blk_drew BK234.out)
                          have n5_ := Aside0.mk (below_drew1 HB.out)
                          clear HO_8
                          clear HO_235002
                          clear BK213
                          clear BK214
                          clear BK234
                          clear HB
                          have HO_8 := n0_
                          have HO_235002 := n1_
                          have BK213 := n2_
                          have BK214 := n3_
                          have BK234 := n4_
                          have HB := n5_
                          clear n0_ n1_ n2_ n3_ n4_ n5_
                          obtain ⟨Ao71, co71, eo71⟩ := Kd.R_slice HO_8.out
                          (first | subst eo71 | (injection eo71 with f1_ f2_ f3_; have f4_ := f1_.symm; have f5_ := f3_.symm; clear f1_ f2_ f3_; subst f4_; subst f5_))
                          refine start_ (n := 14) (S := fun w' => True) (ds := []) #[false, false, false, false, false, false, false, false, false, false, false, false, false, false] (by kernel_rfl) rfl rfl trivial (fun hHeld => ?_); refine with_tabW spec_EarHear.tab12 spec_EarHear.bits12 (fun HT_ HW_ => ?_)
                          generalize wr.drew = w70 at HO_8 HO_235002 BK213 BK214 BK234 HB hHeld ⊢
                          refine pu_ (i := 0) (N := some 68) HT_ ?_
                          refine pu_ (i := 1) (N := some 69) HT_ ?_
                          refine pu_ (i := 2) (N := some 70) HT_ ?_
                          refine pu_ (i := 3) (N := some 71) HT_ ?_
                          refine pu_ (i := 4) (N := some 72) HT_ ?_
                          refine pn_ (i := 5) (N := some 73) HT_ ?_
                          refine pn_ (i := 6) (N := some 74) HT_ ?_
                          refine pn_ (i := 7) (N := some 75) HT_ ?_
                          refine pn_ (i := 8) (N := some 76) HT_ ?_
                          refine pn_ (i := 9) (N := some 77) HT_ ?_
                          refine pn_ (i := 10) (N := some 78) HT_ ?_
                          refine pn_ (i := 11) (N := some 79) HT_ ?_
                          refine pn_ (i := 12) (N := some 80) HT_ ?_
                          refine pu_ (i := 13) (N := some 81) HT_ ?_
                          refine done_ (done_of HT_.out (by kernel_rfl)) ?_
                          try go_wp2
                          go_meet
                          case rel => exact ⟨_, (x11_3), (x235000_3), (x235002_3), (u235002), (by first | rfl | (simp; done) | (simp [*]; done)), H', ⟨by have := HJ3.out; have := HK2.out; have := HK3.out; first | omega | exact Nat.le_refl _⟩, ⟨kR_ HO_8.out⟩, ⟨kR_ HO_235002.out⟩, ⟨by refine kb_ ?_; exact BK213.out⟩, ⟨by refine kb_ ?_; exact BK214.out⟩, ⟨by refine kb_ ?_; exact BK234.out⟩, ⟨by repeat (first | (with_reducible first | exact HB.out | apply below_alloc | apply pw_below_drewN | apply below_drew1 | refine below_set ?_ GE213.out | refine below_set ?_ GE214.out | refine below_set ?_ GE234.out) | exact HB.out)⟩⟩
                  case rest =>
                    clear HC42
                    try clear p2
                    try clear q2
                    try clear hx2
                    try clear c5
                    try clear c6
                    try clear p6
                    try clear p23
                    try clear q23
                    try clear hx23
                    try clear c55
                    try clear c55b0
                    try clear c56
                    try clear c57
                    try clear c57b0
                    try clear c57b1
                    try clear c58
                    try clear p64
                    try clear c65
                    try clear c66
                    try clear hcz67_0
                    try clear hcz67_1
                    try clear hcz67_2
                    try clear hcz67_3
                    try clear hfz67_0
                    try clear hfz67_1
                    try clear hfz67_2
                    try clear hfz67_3
                    try clear hx235_0
                    try clear hx235_1
                    try clear hx236_0
                    try clear hx236_1
                    try clear p235
                    try clear p236
                    try clear q235
                    try clear q236
                    obtain ⟨kq, x11_41, x235000_41, x235002_41, u235002, rfl, HA, HJ41, HO_8, HO_235002, BK213, BK214, BK234, HB⟩ := hcut
                    cases kq with
                    | zero => exact absurd HA.out (by simp [spec_EarHear.j3])
                    | succ kj41 =>
                      have H := HA.out
                      clear HA
                      simp only [spec_EarHear.j3] at H
                      by_cases c72 : 0 ≤ x11_41
                      · rw [if_pos c72] at H
                        have c72b0 := eq_true c72
                        have c72b1 : decide (0 ≤ x11_41) = true := decide_eq_true c72
                        clear c72
                        by_cases c73 : x11_41 ≤ (x8_2.length : Int)
                        · rw [if_pos c73] at H
                          have c73b0 := eq_true c73
                          have c73b1 : decide (x11_41 ≤ (x8_2.length : Int)) = true := decide_eq_true c73
                          clear c73
                          obtain ⟨y240, hy240⟩ : ∃ y_ : List (S70), y_ = (x8_2.drop (x11_41 : Int).toNat) := ⟨_, rfl⟩
                          replace H : (if x235000_41 > 1000000 then (some (0, 0, ([] : List Int), ([] : List (S70)))) else (some (x235000_41, a0_1, x235002_41, y240))) = some (r1, r2, r3, r4) := by first | (rw [hy240]; with_reducible exact H) | (have H2_ := (Option.bind_some _ _).symm.trans H; rw [hy240]; with_reducible exact H2_) | (have H2_ := (Option.bind_some _ _).symm.trans H; with_reducible exact H2_) | with_reducible exact H | (rw [hy240]; exact H) | exact H
                          have Ny240 := Aside0.mk hy240
                          clear hy240
                          by_cases c74 : x235000_41 > 1000000
                          · rw [if_pos c74] at H
                            have c74b0 : decide (1000000 < x235000_41) = true := decide_eq_true c74
                            clear c74
                            simp only [Option.some.injEq, Prod.mk.injEq] at H
                            obtain ⟨rfl, rfl, rfl, rfl⟩ := H
                            obtain ⟨Ao75, co75, eo75⟩ := Kd.R_slice HO_8.out
                            subst eo75
                            have q76 : (x11_41 : Int) ≤ ((x8_2.length : Int) : Int) := of_decide_eq_true (by first | (with_reducible assumption) | assumption)
                            obtain ⟨i076, hi076, _, hsz76, _⟩ := info_parts info70
                            have hcut76 := cut_from (P := Try.prog) 23 70 .i64 Try.underlying23 hi076 2 hsz76 Ao75 x8_2.length co75 x11_41 (of_decide_eq_true (by first | (with_reducible assumption) | assumption)) q76
                            have hr76 := Kd.Q_drop (k := (x11_41 : Int).toNat) (Kd.Q_of_R HO_8.out) (by omega)
                            obtain ⟨A76, hA76⟩ : ∃ A1, A1 = (if co75 = (x11_41 : Int).toNat then Ao75 else (Ao75 : Option Addr).map (·.add ((x11_41 : Int).toNat * 2))) := ⟨_, rfl⟩
                            obtain ⟨c76, hc76⟩ : ∃ c1, c1 = co75 - (x11_41 : Int).toNat := ⟨_, rfl⟩
                            have hy76 : y240.length = x8_2.length - (x11_41 : Int).toNat := (by rw [Ny240.out, List.length_drop])
                            rw [← Ny240.out] at hr76
                            rw [← hy76, ← hA76, ← hc76] at hcut76
                            replace hr76 : Kd.Q k70 70 wc w.heap.size (fun _ => True) (.slice A76 y240.length c76) y240 := (by rw [hA76, hc76, hy76]; exact hr76)
                            have HE76 : Aside0 ((Value.slice A76 y240.length c76).ownBlock = (.slice Ao75 x8_2.length co75 : Value).ownBlock) := ⟨by rw [hA76]; split <;> (cases (Ao75 : Option Addr) <;> first | rfl | simp [Value.ownBlock, add_block])⟩
                            clear hy76 hi076 hsz76 HO_8 hA76 hc76
                            have HO242 := Aside0.mk hr76
                            clear hr76
                            replace q76 := eq_true q76
                            have hnb77 := NB234_213.out
                            have hnc77 := NB213_234.out
                            have hnb78 := NB234_214.out
                            have hnc78 := NB214_234.out
                            have hcz79_0 : wc.cell? ⟨gb234, 0, none⟩ = some (.int .i64 x235000_41) := (blk_cell BK234.out 0).trans rfl
                            have hcz79_1 : wc.cell? ⟨gb234, 1, none⟩ = some (.int .i64 a0_1) := (blk_cell BK234.out 1).trans rfl
                            have hcz79_2 : wc.cell? ⟨gb234, 2, none⟩ = some (u235002) := (blk_cell BK234.out 2).trans rfl
                            have hcz79_3 : wc.cell? ⟨gb234, 3, none⟩ = some (.slice none 0 0) := (blk_cell BK234.out 3).trans rfl
                            have hfz79_0 := blk_frozen BK234.out 0
                            have hfz79_1 := blk_frozen BK234.out 1
                            have hfz79_2 := blk_frozen BK234.out 2
                            have hfz79_3 := blk_frozen BK234.out 3
                            have hnb80 := NB214_213.out
                            have hnc80 := NB213_214.out
                            have hcz81_0 : wc.cell? ⟨gb214, 0, none⟩ = some (.int .i64 0) := (blk_cell BK214.out 0).trans rfl
                            have hcz81_1 : wc.cell? ⟨gb214, 1, none⟩ = some (.int .i64 0) := (blk_cell BK214.out 1).trans rfl
                            have hcz81_2 : wc.cell? ⟨gb214, 2, none⟩ = some (.slice none 0 0) := (blk_cell BK214.out 2).trans rfl
                            have hcz81_3 : wc.cell? ⟨gb214, 3, none⟩ = some (.slice none 0 0) := (blk_cell BK214.out 3).trans rfl
                            have hfz81_0 := blk_frozen BK214.out 0
                            have hfz81_1 := blk_frozen BK214.out 1
                            have hfz81_2 := blk_frozen BK214.out 2
                            have hfz81_3 := blk_frozen BK214.out 3
                            go_wp2
                            refine bodyPost_ret (results_cell_row rfl _ _ gb214 25 #[.int .i64 0, .int .i64 0, .slice none 0 0, .slice none 0 0] (0, 0) _ rfl (by refine kb_ ?_; refine blk_put (cs := #[.int .i64 0, .int .i64 0, .slice none 0 0, .slice none 0 0]) ?_ 3 _ rfl; refine kb_ ?_; refine blk_put (cs := #[.int .i64 0, .int .i64 0, .slice none 0 0, .slice none 0 0]) ?_ 2 _ rfl; refine kb_ ?_; refine blk_put (cs := #[.int .i64 0, .int .i64 0, .slice none 0 0, .slice none 0 0]) ?_ 1 _ rfl; refine kb_ ?_; refine blk_put (cs := #[.int .i64 0, .int .i64 0, .slice none 0 0, .slice none 0 0]) ?_ 0 _ rfl; refine kb_ ?_; refine blk_far ?_ NB214_234.out _; refine kb_ ?_; exact BK214.out) Try.underlying25 rfl (by kernel_rfl)) rfl ?_
                            exact ⟨_, _, by first | rfl | (simp [errW_none, errW_some] <;> rfl) | (simp [*, errW_none, errW_some] <;> rfl), by first | exact Kd.R_nil _ _ _ _ _ | exact Kd.N_nil _ _ _ _ _ | exact Kd.V_nil _ _ _ _ _ | exact Kd.Q_nil _ _ _ _ _ | exact Kd.S_nil _ _ _ _ _, Kd.Q_of_R (by first | exact Kd.R_nil _ _ _ _ _ | exact Kd.N_nil _ _ _ _ _ | exact Kd.V_nil _ _ _ _ _ | exact Kd.Q_nil _ _ _ _ _ | exact Kd.S_nil _ _ _ _ _), by repeat (first | (with_reducible first | exact HB.out | apply below_alloc | apply pw_below_drewN | apply below_drew1 | refine below_set ?_ GE213.out | refine below_set ?_ GE214.out | refine below_set ?_ GE234.out) | exact HB.out)⟩
                          · rw [if_neg c74] at H
                            have c74b0 : decide (1000000 < x235000_41) = false := decide_eq_false c74
                            clear c74
                            simp only [Option.some.injEq, Prod.mk.injEq] at H
                            obtain ⟨rfl, rfl, rfl, rfl⟩ := H
                            obtain ⟨Ao82, co82, eo82⟩ := Kd.R_slice HO_8.out
                            subst eo82
                            have q83 : (x11_41 : Int) ≤ ((x8_2.length : Int) : Int) := of_decide_eq_true (by first | (with_reducible assumption) | assumption)
                            obtain ⟨i083, hi083, _, hsz83, _⟩ := info_parts info70
                            have hcut83 := cut_from (P := Try.prog) 23 70 .i64 Try.underlying23 hi083 2 hsz83 Ao82 x8_2.length co82 x11_41 (of_decide_eq_true (by first | (with_reducible assumption) | assumption)) q83
                            have hr83 := Kd.Q_drop (k := (x11_41 : Int).toNat) (Kd.Q_of_R HO_8.out) (by omega)
                            obtain ⟨A83, hA83⟩ : ∃ A1, A1 = (if co82 = (x11_41 : Int).toNat then Ao82 else (Ao82 : Option Addr).map (·.add ((x11_41 : Int).toNat * 2))) := ⟨_, rfl⟩
                            obtain ⟨c83, hc83⟩ : ∃ c1, c1 = co82 - (x11_41 : Int).toNat := ⟨_, rfl⟩
                            have hy83 : y240.length = x8_2.length - (x11_41 : Int).toNat := (by rw [Ny240.out, List.length_drop])
                            rw [← Ny240.out] at hr83
                            rw [← hy83, ← hA83, ← hc83] at hcut83
                            replace hr83 : Kd.Q k70 70 wc w.heap.size (fun _ => True) (.slice A83 y240.length c83) y240 := (by rw [hA83, hc83, hy83]; exact hr83)
                            have HE83 : Aside0 ((Value.slice A83 y240.length c83).ownBlock = (.slice Ao82 x8_2.length co82 : Value).ownBlock) := ⟨by rw [hA83]; split <;> (cases (Ao82 : Option Addr) <;> first | rfl | simp [Value.ownBlock, add_block])⟩
                            clear hy83 hi083 hsz83 HO_8 hA83 hc83
                            have HO242 := Aside0.mk hr83
                            clear hr83
                            replace q83 := eq_true q83
                            have hnb84 := NB234_213.out
                            have hnc84 := NB213_234.out
                            have hnb85 := NB234_214.out
                            have hnc85 := NB214_234.out
                            have hcz86_0 : wc.cell? ⟨gb234, 0, none⟩ = some (.int .i64 x235000_41) := (blk_cell BK234.out 0).trans rfl
                            have hcz86_1 : wc.cell? ⟨gb234, 1, none⟩ = some (.int .i64 a0_1) := (blk_cell BK234.out 1).trans rfl
                            have hcz86_2 : wc.cell? ⟨gb234, 2, none⟩ = some (u235002) := (blk_cell BK234.out 2).trans rfl
                            have hcz86_3 : wc.cell? ⟨gb234, 3, none⟩ = some (.slice none 0 0) := (blk_cell BK234.out 3).trans rfl
                            have hfz86_0 := blk_frozen BK234.out 0
                            have hfz86_1 := blk_frozen BK234.out 1
                            have hfz86_2 := blk_frozen BK234.out 2
                            have hfz86_3 := blk_frozen BK234.out 3
                            have hnb87 := NB214_213.out
                            have hnc87 := NB213_214.out
                            have hcz88_0 : wc.cell? ⟨gb214, 0, none⟩ = some (.int .i64 0) := (blk_cell BK214.out 0).trans rfl
                            have hcz88_1 : wc.cell? ⟨gb214, 1, none⟩ = some (.int .i64 0) := (blk_cell BK214.out 1).trans rfl
                            have hcz88_2 : wc.cell? ⟨gb214, 2, none⟩ = some (.slice none 0 0) := (blk_cell BK214.out 2).trans rfl
                            have hcz88_3 : wc.cell? ⟨gb214, 3, none⟩ = some (.slice none 0 0) := (blk_cell BK214.out 3).trans rfl
                            have hfz88_0 := blk_frozen BK214.out 0
                            have hfz88_1 := blk_frozen BK214.out 1
                            have hfz88_2 := blk_frozen BK214.out 2
                            have hfz88_3 := blk_frozen BK214.out 3
                            obtain ⟨Ao89, co89, eo89⟩ := Kd.R_slice HO_235002.out
                            subst eo89
                            go_wp2
                            refine bodyPost_ret (results_cell_row rfl _ _ gb214 25 #[.int .i64 x235000_41, .int .i64 a0_1, .slice Ao89 x235002_41.length co89, .slice A83 y240.length c83] (0, 0) _ rfl (by refine kb_ ?_; refine blk_put (cs := #[.int .i64 x235000_41, .int .i64 a0_1, .slice Ao89 x235002_41.length co89, .slice none 0 0]) ?_ 3 _ rfl; refine kb_ ?_; refine blk_put (cs := #[.int .i64 x235000_41, .int .i64 a0_1, .slice none 0 0, .slice none 0 0]) ?_ 2 _ rfl; refine kb_ ?_; refine blk_put (cs := #[.int .i64 x235000_41, .int .i64 0, .slice none 0 0, .slice none 0 0]) ?_ 1 _ rfl; refine kb_ ?_; refine blk_put (cs := #[.int .i64 0, .int .i64 0, .slice none 0 0, .slice none 0 0]) ?_ 0 _ rfl; refine kb_ ?_; refine blk_far ?_ NB214_234.out _; refine kb_ ?_; exact BK214.out) Try.underlying25 rfl (by kernel_rfl)) rfl ?_
                            exact ⟨_, _, by first | rfl | (simp [errW_none, errW_some] <;> rfl) | (simp [*, errW_none, errW_some] <;> rfl), by refine kR_ ?_; exact Kd.R_mono (Kd.R_f gb214 3 (.slice A83 y240.length c83) (Kd.R_f gb214 2 (.slice Ao89 x235002_41.length co89) (Kd.R_f gb214 1 (.int .i64 a0_1) (Kd.R_f gb214 0 (.int .i64 x235000_41) (Kd.R_far (p := ⟨gb234, 3, none⟩) (Kd.R_types (Kd.R_types HO_235002.out BK234.out (by decide)) BK214.out (by decide)) (fun _ hk => hk.1.2) (.slice A83 y240.length c83)))))) (fun _ hk => trivial), by (with_reducible repeat (first | apply Kd.Q_alloc | apply Kd.Q_drewN | apply Kd.Q_drew)); exact Kd.Q_mono (Kd.Q_far (p := ⟨gb214, 3, none⟩) (Kd.Q_far (p := ⟨gb214, 2, none⟩) (Kd.Q_far (p := ⟨gb214, 1, none⟩) (Kd.Q_far (p := ⟨gb214, 0, none⟩) (Kd.Q_far (p := ⟨gb234, 3, none⟩) (Kd.Q_types (Kd.Q_types HO242.out BK234.out (by decide)) BK214.out (by decide)) (fun _ hk => hk.1.2) (.slice A83 y240.length c83)) (fun _ hk => hk.2) (.int .i64 x235000_41)) (fun _ hk => hk.2) (.int .i64 a0_1)) (fun _ hk => hk.2) (.slice Ao89 x235002_41.length co89)) (fun _ hk => hk.2) (.slice A83 y240.length c83)) (fun _ hk => trivial), by repeat (first | (with_reducible first | exact HB.out | apply below_alloc | apply pw_below_drewN | apply below_drew1 | refine below_set ?_ GE213.out | refine below_set ?_ GE214.out | refine below_set ?_ GE234.out) | exact HB.out)⟩
                        · rw [if_neg c73] at H
                          exact absurd H (by simp)
                      · rw [if_neg c72] at H
                        exact absurd H (by simp)
                · rw [if_neg c41] at H
                  exact absurd H (by simp)
        · rw [if_neg c20] at H
          exact absurd H (by simp)

end Go.Proofs.Ytjiodkbbmhhccaa.PFnEarRead
