/- Printed by wip/xp/xprint.sh out of the translation, for this claim: what each function answers, as a plain function, and that the machine does just that. No condition. -/
import Derived.Test.YtjiodkbbmhhccaaPFnEarReadx0
namespace Go.Proofs.Ytjiodkbbmhhccaa.PFnEarRead
open Go.RowKit Go.Proofs.YtjiodkbbmhhccaaW.PrintWords Go.Proofs.YtjiodkbbmhhccaaW.PrintLast Go.Proofs.YtjiodkbbmhhccaaW.PrintMore
attribute [local go_sem] max2_int min2_int max_two min_two max_three min_three max_four min_four   -- for this text's walks alone
set_option linter.unusedVariables false
set_option linter.unusedSimpArgs false

/-! ### impl_Ear_free: function 42 -/
def impl_Ear_free.f (a0_0 : Int) (a0_1 : Int) (l0_2 : List Int) (l0_3 : List (S70)) : Option (Int) := some (wrap64 (a0_1 - (l0_2.length : Int)))
set_option maxHeartbeats 8000000 in
set_option maxRecDepth 100000 in
theorem impl_Ear_free.calls (a0_0 : Int) (a0_1 : Int) (A0_2 : Option Addr) (c0_2 : Nat) (l0_2 : List Int) (A0_3 : Option Addr) (c0_3 : Nat) (l0_3 : List (S70)) (r : Int) (w : World) (hr0_2 : Kd.C (Kd.int .u8) w A0_2 l0_2.length l0_2) (hc0_2 : l0_2.length ≤ c0_2) (hr0_3 : Kd.C k70 w A0_3 l0_3.length l0_3) (hc0_3 : l0_3.length ≤ c0_3) (h : impl_Ear_free.f a0_0 a0_1 l0_2 l0_3 = some r) :
    Calls Try.prog 42 #[.agg #[.int .i64 a0_0, .int .i64 a0_1, .slice A0_2 l0_2.length c0_2, .slice A0_3 l0_3.length c0_3]] w fun e w' => e = .returned (.int .i64 r) ∧ Below w.heap.size w w' := by
  have hu25 := Try.underlying25
  have HR0_2 := Aside0.mk hr0_2
  have HC0_2 := Aside0.mk hc0_2
  clear hr0_2 hc0_2
  have HR0_3 := Aside0.mk hr0_3
  have HC0_3 := Aside0.mk hc0_3
  clear hr0_3 hc0_3
  have HB := Aside0.mk (Below.refl w.heap.size w)
  have H : (some (wrap64 (a0_1 - (l0_2.length : Int)))) = some r := h
  clear h
  obtain rfl := Option.some.inj H
  go_enter Try.func42, Try.ntmps42
  go_wp2_with (first | ((with_reducible refine gate_dst (N := 1) rfl ?_); refine box_event ?hg (N := 1) ?hd (cs := #[.int .i64 a0_0, .int .i64 a0_1, .slice A0_2 l0_2.length c0_2, .slice A0_3 l0_3.length c0_3]) (t := 25) ?hr ?_; (case hd => rfl); (case hg => rfl); (case hr => first | (go_simp; done) | (go_simp; rfl)); intro gb101 hg w2 hbox hb; have n0_ := Aside0.mk (below_step (hb0_ HB.out) hb); have n1_ := Aside0.mk (hbox); have n2_ := Aside0.mk ((by rw [hg]; exact (below_size (hb0_ HB.out)) : w.heap.size ≤ gb101)); have n3_ := Aside0.mk ((by rw [hg]; exact (below_size (hb0_ HB.out)) : w.heap.size ≤ gb101)); clear HB; have HB := n0_; have BK101 := n1_; have GW101 := n2_; have GE101 := n3_; clear n0_ n1_ n2_ n3_; clear hb hbox hg; have hcz3_0 : w2.cell? ⟨gb101, 0, none⟩ = some (.int .i64 a0_0) := (blk_cell BK101.out 0).trans rfl; have hcz3_1 : w2.cell? ⟨gb101, 1, none⟩ = some (.int .i64 a0_1) := (blk_cell BK101.out 1).trans rfl; have hcz3_2 : w2.cell? ⟨gb101, 2, none⟩ = some (.slice A0_2 l0_2.length c0_2) := (blk_cell BK101.out 2).trans rfl; have hcz3_3 : w2.cell? ⟨gb101, 3, none⟩ = some (.slice A0_3 l0_3.length c0_3) := (blk_cell BK101.out 3).trans rfl; have hfz3_0 := blk_frozen BK101.out 0; have hfz3_1 := blk_frozen BK101.out 1; have hfz3_2 := blk_frozen BK101.out 2; have hfz3_3 := blk_frozen BK101.out 3))
  go_ret
  exact ⟨by first | rfl | (simp [errW_none, errW_some] <;> rfl) | (simp [*, errW_none, errW_some] <;> rfl), by repeat (first | (with_reducible first | exact HB.out | apply below_alloc | apply pw_below_drewN | apply below_drew1 | refine below_set ?_ GE101.out) | exact HB.out)⟩

/-! ### impl_in: function 44 -/
def impl_in.f (a0 : Int) (a1 : Int) (a2 : Int) : Option (Bool) := if a0 ≥ a1 then (some (decide (a0 ≤ a2))) else (some false)
set_option maxHeartbeats 8000000 in
set_option maxRecDepth 100000 in
theorem impl_in.calls (a0 : Int) (a1 : Int) (a2 : Int) (r : Bool) (w : World) (h : impl_in.f a0 a1 a2 = some r) :
    Calls Try.prog 44 #[.int .i64 a0, .int .i64 a1, .int .i64 a2] w fun e w' => e = .returned (.bool r) ∧ Drawn0 w w' := by
  have H : (if a0 ≥ a1 then (some (decide (a0 ≤ a2))) else (some false)) = some r := h
  clear h
  by_cases c4 : a0 ≥ a1
  · rw [if_pos c4] at H
    have c4b0 : decide (a1 ≤ a0) = true := decide_eq_true c4
    clear c4
    obtain rfl := Option.some.inj H
    go_enter Try.func44, Try.ntmps44
    go_wp2
    go_ret
    exact ⟨by first | rfl | (simp; done) | (simp [*]; done), by repeat (first | exact Drawn0.refl _ | apply Drawn0.step)⟩
  · rw [if_neg c4] at H
    have c4b0 : decide (a1 ≤ a0) = false := decide_eq_false c4
    clear c4
    obtain rfl := Option.some.inj H
    go_enter Try.func44, Try.ntmps44
    go_wp2
    go_ret
    exact ⟨by first | rfl | (simp; done) | (simp [*]; done), by repeat (first | exact Drawn0.refl _ | apply Drawn0.step)⟩

/-! ### impl_EarOk: function 12 -/
mutual
def impl_EarOk.j0 : Nat → Bool → Int → Int → List Int → List (S70) → Option (Bool)
  | 0, _, _, _, _, _ => none
  | k + 1, x19, x103000, x103001, x103002, x103003 => if x19 = true then (some false) else (impl_EarOk.l0 k x103003 (x103003.length : Int) 0 x103000 x103001 x103002 x103003)
def impl_EarOk.l0 : Nat → List (S70) → Int → Int → Int → Int → List Int → List (S70) → Option (Bool)
  | 0, _, _, _, _, _, _, _ => none
  | k + 1, x21, x22, x23, x103000, x103001, x103002, x103003 => if x23 < x22 then (if 0 ≤ x23 then (if x23 < (x21.length : Int) then ((impl_Ear_free.f x103000 x103001 x103002 x103003).bind fun t108 => ((impl_in.f ((rd_T70 x21 x23).f0) (wrap64 (x103000 + 1)) (wrap64 ((wrap64 (x103000 + t108)) - 1))).bind fun t109 => (if t109 = true then (if x23 > 0 then (if 0 ≤ (wrap64 (x23 - 1)) then (if (wrap64 (x23 - 1)) < (x103003.length : Int) then (impl_EarOk.j2 k x21 x22 x23 (decide (((rd_T70 x103003 (wrap64 (x23 - 1))).f0) ≥ ((rd_T70 x21 x23).f0))) x103000 x103001 x103002 x103003) else (none)) else (none)) else (impl_EarOk.j2 k x21 x22 x23 false x103000 x103001 x103002 x103003)) else (impl_EarOk.j2 k x21 x22 x23 true x103000 x103001 x103002 x103003)))) else (none)) else (none)) else (some true)
def impl_EarOk.j2 : Nat → List (S70) → Int → Int → Bool → Int → Int → List Int → List (S70) → Option (Bool)
  | 0, _, _, _, _, _, _, _, _ => none
  | k + 1, x21, x22, x23, x56, x103000, x103001, x103002, x103003 => if x56 = true then (some false) else (impl_EarOk.l0 k x21 x22 (wrap64 (x23 + 1)) x103000 x103001 x103002 x103003)
end
def impl_EarOk.f (k : Nat) (a0_0 : Int) (a0_1 : Int) (l0_2 : List Int) (l0_3 : List (S70)) : Option (Bool) := (impl_in.f a0_0 0 1000000).bind fun t103 => (if t103 = true then ((impl_in.f a0_1 1 32).bind fun t104 => (if t104 = true then ((impl_Ear_free.f a0_0 a0_1 l0_2 l0_3).bind fun t105 => (impl_EarOk.j0 k (decide (t105 < 0)) a0_0 a0_1 l0_2 l0_3)) else (impl_EarOk.j0 k true a0_0 a0_1 l0_2 l0_3))) else (impl_EarOk.j0 k true a0_0 a0_1 l0_2 l0_3))
theorem impl_EarOk.mono_l : ∀ k, (∀ y0 y1 y2 y3 y4, LeO (impl_EarOk.j0 k y0 y1 y2 y3 y4) (impl_EarOk.j0 (k + 1) y0 y1 y2 y3 y4)) ∧ (∀ y0 y1 y2 y3 y4 y5 y6, LeO (impl_EarOk.l0 k y0 y1 y2 y3 y4 y5 y6) (impl_EarOk.l0 (k + 1) y0 y1 y2 y3 y4 y5 y6)) ∧ (∀ y0 y1 y2 y3 y4 y5 y6 y7, LeO (impl_EarOk.j2 k y0 y1 y2 y3 y4 y5 y6 y7) (impl_EarOk.j2 (k + 1) y0 y1 y2 y3 y4 y5 y6 y7))
  | 0 => ⟨fun _ _ _ _ _ r h => by simp [impl_EarOk.j0] at h, fun _ _ _ _ _ _ _ r h => by simp [impl_EarOk.l0] at h, fun _ _ _ _ _ _ _ _ r h => by simp [impl_EarOk.j2] at h⟩
  | k + 1 => by
    obtain ⟨ih0, ih1, ih2⟩ := impl_EarOk.mono_l k
    refine ⟨?_, ?_, ?_⟩
    · intro y0 y1 y2 y3 y4
      unfold impl_EarOk.j0
      repeat' first
      | (with_reducible exact ih0 _ _ _ _ _)
      | (with_reducible exact ih1 _ _ _ _ _ _ _)
      | (with_reducible exact ih2 _ _ _ _ _ _ _ _)
      | (with_reducible exact LeO.refl _)
      | (with_reducible exact LeO.none _)
      | (with_reducible refine LeO.ite ?_ ?_)
      | (with_reducible refine LeO.bind ?_ (fun _ => ?_))
      | exact ih0 _ _ _ _ _
      | exact ih1 _ _ _ _ _ _ _
      | exact ih2 _ _ _ _ _ _ _ _
      | exact LeO.none _
      | refine LeO.ite ?_ ?_
      | refine LeO.bind ?_ (fun _ => ?_)
    · intro y0 y1 y2 y3 y4 y5 y6
      unfold impl_EarOk.l0
      repeat' first
      | (with_reducible exact ih0 _ _ _ _ _)
      | (with_reducible exact ih1 _ _ _ _ _ _ _)
      | (with_reducible exact ih2 _ _ _ _ _ _ _ _)
      | (with_reducible exact LeO.refl _)
      | (with_reducible exact LeO.none _)
      | (with_reducible refine LeO.ite ?_ ?_)
      | (with_reducible refine LeO.bind ?_ (fun _ => ?_))
      | exact ih0 _ _ _ _ _
      | exact ih1 _ _ _ _ _ _ _
      | exact ih2 _ _ _ _ _ _ _ _
      | exact LeO.none _
      | refine LeO.ite ?_ ?_
      | refine LeO.bind ?_ (fun _ => ?_)
    · intro y0 y1 y2 y3 y4 y5 y6 y7
      unfold impl_EarOk.j2
      repeat' first
      | (with_reducible exact ih0 _ _ _ _ _)
      | (with_reducible exact ih1 _ _ _ _ _ _ _)
      | (with_reducible exact ih2 _ _ _ _ _ _ _ _)
      | (with_reducible exact LeO.refl _)
      | (with_reducible exact LeO.none _)
      | (with_reducible refine LeO.ite ?_ ?_)
      | (with_reducible refine LeO.bind ?_ (fun _ => ?_))
      | exact ih0 _ _ _ _ _
      | exact ih1 _ _ _ _ _ _ _
      | exact ih2 _ _ _ _ _ _ _ _
      | exact LeO.none _
      | refine LeO.ite ?_ ?_
      | refine LeO.bind ?_ (fun _ => ?_)
theorem impl_EarOk.mono : ∀ a0 a1 a2 a3 k, LeO (impl_EarOk.f k a0 a1 a2 a3) (impl_EarOk.f (k + 1) a0 a1 a2 a3) := by
  intro a0 a1 a2 a3 k
  obtain ⟨ih0, ih1, ih2⟩ := impl_EarOk.mono_l k
  unfold impl_EarOk.f
  repeat' first
      | (with_reducible exact ih0 _ _ _ _ _)
      | (with_reducible exact ih1 _ _ _ _ _ _ _)
      | (with_reducible exact ih2 _ _ _ _ _ _ _ _)
      | (with_reducible exact LeO.refl _)
      | (with_reducible exact LeO.none _)
      | (with_reducible refine LeO.ite ?_ ?_)
      | (with_reducible refine LeO.bind ?_ (fun _ => ?_))
      | exact ih0 _ _ _ _ _
      | exact ih1 _ _ _ _ _ _ _
      | exact ih2 _ _ _ _ _ _ _ _
      | exact LeO.none _
      | refine LeO.ite ?_ ?_
      | refine LeO.bind ?_ (fun _ => ?_)
def impl_EarOk.T6 : Bool × List (List Nat × List Nat) := (true, [([], []), ([0], [0]), ([], []), ([2], [2]), ([3], [3]), ([], []), ([5], [5]), ([], []), ([7], [7]), ([6, 8], [6, 8]), ([9], [9]), ([1, 4, 10, 8], [1, 4, 10]), ([11], [11]), ([12, 11], [12]), ([13], [13]), ([14, 13], [13, 14]), ([15, 13, 13], [13, 15]), ([16], [16]), ([17, 16], [16, 17]), ([16], [16]), ([19, 16], [16, 19]), ([18, 20, 16], [16, 18, 20]), ([21, 16], [16, 21]), ([22, 16], [16, 22]), ([16], [16]), ([24, 16], [16, 24]), ([23, 25, 16], [16, 23, 25]), ([16, 26, 13], [13, 16, 26]), ([13, 27], [13, 27])])
def impl_EarOk.B6 : List Nat := [0, 1, 0, 4, 12, 0, 32, 0, 128, 480, 992, 2047, 4095, 8191, 16383, 32767, 65535, 131071, 262143, 131071, 655359, 2097151, 4194303, 8388607, 131071, 16908287, 67108863, 134217727, 268435455]
theorem impl_EarOk.tab6 : rtab .any (opsOf Try.f12 6) = impl_EarOk.T6 := by kernel_rfl
theorem impl_EarOk.bits6 : waitsOk impl_EarOk.T6.2 impl_EarOk.B6 = true := by kernel_rfl
set_option maxHeartbeats 8000000 in
set_option maxRecDepth 100000 in
theorem impl_EarOk.calls (k : Nat) (a0_0 : Int) (a0_1 : Int) (A0_2 : Option Addr) (c0_2 : Nat) (l0_2 : List Int) (A0_3 : Option Addr) (c0_3 : Nat) (l0_3 : List (S70)) (r : Bool) (w : World) (hr0_2 : Kd.C (Kd.int .u8) w A0_2 l0_2.length l0_2) (hc0_2 : l0_2.length ≤ c0_2) (hr0_3 : Kd.C k70 w A0_3 l0_3.length l0_3) (hc0_3 : l0_3.length ≤ c0_3) (h : impl_EarOk.f k a0_0 a0_1 l0_2 l0_3 = some r) :
    Calls Try.prog 12 #[.agg #[.int .i64 a0_0, .int .i64 a0_1, .slice A0_2 l0_2.length c0_2, .slice A0_3 l0_3.length c0_3]] w fun e w' => e = .returned (.bool r) ∧ Below w.heap.size w w' := by
  have hu25 := Try.underlying25
  have hu70 := Try.underlying70
  have HR0_2 := Aside0.mk hr0_2
  have HC0_2 := Aside0.mk hc0_2
  clear hr0_2 hc0_2
  have HR0_3 := Aside0.mk hr0_3
  have HC0_3 := Aside0.mk hc0_3
  clear hr0_3 hc0_3
  have HB := Aside0.mk (Below.refl w.heap.size w)
  have H : ((impl_in.f a0_0 0 1000000).bind fun t103 => (if t103 = true then ((impl_in.f a0_1 1 32).bind fun t104 => (if t104 = true then ((impl_Ear_free.f a0_0 a0_1 l0_2 l0_3).bind fun t105 => (impl_EarOk.j0 k (decide (t105 < 0)) a0_0 a0_1 l0_2 l0_3)) else (impl_EarOk.j0 k true a0_0 a0_1 l0_2 l0_3))) else (impl_EarOk.j0 k true a0_0 a0_1 l0_2 l0_3))) = some r := h
  clear h
  have HC2 := Aside0.mk H
  clear H
  go_enter Try.func12, Try.ntmps12
  go_upto_region 1 with (first | ((with_reducible refine gate_dst (N := 1) rfl ?_); refine box_event ?hg (N := 1) ?hd (cs := #[.int .i64 a0_0, .int .i64 a0_1, .slice A0_2 l0_2.length c0_2, .slice A0_3 l0_3.length c0_3]) (t := 25) ?hr ?_; (case hd => rfl); (case hg => rfl); (case hr => first | (go_simp; done) | (go_simp; rfl)); intro gb102 hg w3 hbox hb; have n0_ := Aside0.mk (below_step (hb0_ HB.out) hb); have n1_ := Aside0.mk (hbox); have n2_ := Aside0.mk ((by rw [hg]; exact (below_size (hb0_ HB.out)) : w.heap.size ≤ gb102)); have n3_ := Aside0.mk ((by rw [hg]; exact (below_size (hb0_ HB.out)) : w.heap.size ≤ gb102)); clear HB; have HB := n0_; have BK102 := n1_; have GW102 := n2_; have GE102 := n3_; clear n0_ n1_ n2_ n3_; clear hb hbox hg))
  (try simp only [Act.put, List.setIfInBounds_toArray, List.set_cons_zero, List.set_cons_succ])
  go_cut [19] (fun v19 wc => ∃ (kq : Nat) (x19_1 : Bool), v19 = .bool x19_1 ∧ Aside0 (impl_EarOk.j0 kq x19_1 a0_0 a0_1 l0_2 l0_3 = some r) ∧ Aside0 (kq ≤ k) ∧ Aside0 (wc.heap[gb102]? = some (.cells #[.int .i64 a0_0, .int .i64 a0_1, (.slice A0_2 l0_2.length c0_2), (.slice A0_3 l0_3.length c0_3)] 25 (0, 0))) ∧ Aside0 (Below w.heap.size w wc))
  case first =>
    have H := HC2.out
    clear HC2
    replace H := Option.bind_eq_some_iff.mp H
    obtain ⟨t103, A40, H⟩ := H
    replace H : (if t103 = true then ((impl_in.f a0_1 1 32).bind fun t104 => (if t104 = true then ((impl_Ear_free.f a0_0 a0_1 l0_2 l0_3).bind fun t105 => (impl_EarOk.j0 k (decide (t105 < 0)) a0_0 a0_1 l0_2 l0_3)) else (impl_EarOk.j0 k true a0_0 a0_1 l0_2 l0_3))) else (impl_EarOk.j0 k true a0_0 a0_1 l0_2 l0_3)) = some r := H
    have A4 := Aside0.mk A40
    clear A40
    by_cases c5 : t103 = true
    · subst c5
      have H1 : ((impl_in.f a0_1 1 32).bind fun t104 => (if t104 = true then ((impl_Ear_free.f a0_0 a0_1 l0_2 l0_3).bind fun t105 => (impl_EarOk.j0 k (decide (t105 < 0)) a0_0 a0_1 l0_2 l0_3)) else (impl_EarOk.j0 k true a0_0 a0_1 l0_2 l0_3))) = some r := by rw [if_pos rfl] at H; exact H
      clear H
      have H := H1
      clear H1
      replace H := Option.bind_eq_some_iff.mp H
      obtain ⟨t104, A60, H⟩ := H
      replace H : (if t104 = true then ((impl_Ear_free.f a0_0 a0_1 l0_2 l0_3).bind fun t105 => (impl_EarOk.j0 k (decide (t105 < 0)) a0_0 a0_1 l0_2 l0_3)) else (impl_EarOk.j0 k true a0_0 a0_1 l0_2 l0_3)) = some r := H
      have A6 := Aside0.mk A60
      clear A60
      by_cases c7 : t104 = true
      · subst c7
        have H1 : ((impl_Ear_free.f a0_0 a0_1 l0_2 l0_3).bind fun t105 => (impl_EarOk.j0 k (decide (t105 < 0)) a0_0 a0_1 l0_2 l0_3)) = some r := by rw [if_pos rfl] at H; exact H
        clear H
        have H := H1
        clear H1
        replace H := Option.bind_eq_some_iff.mp H
        obtain ⟨t105, A80, H⟩ := H
        replace H : (impl_EarOk.j0 k (decide (t105 < 0)) a0_0 a0_1 l0_2 l0_3) = some r := H
        have A8 := Aside0.mk A80
        clear A80
        have H' := Aside0.mk H
        clear H
        have hcz9_0 : w3.cell? ⟨gb102, 0, none⟩ = some (.int .i64 a0_0) := (blk_cell BK102.out 0).trans rfl
        have hcz9_1 : w3.cell? ⟨gb102, 1, none⟩ = some (.int .i64 a0_1) := (blk_cell BK102.out 1).trans rfl
        have hcz9_2 : w3.cell? ⟨gb102, 2, none⟩ = some (.slice A0_2 l0_2.length c0_2) := (blk_cell BK102.out 2).trans rfl
        have hcz9_3 : w3.cell? ⟨gb102, 3, none⟩ = some (.slice A0_3 l0_3.length c0_3) := (blk_cell BK102.out 3).trans rfl
        have hfz9_0 := blk_frozen BK102.out 0
        have hfz9_1 := blk_frozen BK102.out 1
        have hfz9_2 := blk_frozen BK102.out 2
        have hfz9_3 := blk_frozen BK102.out 3
        go_wp2_with (first | ((with_reducible refine gate_callee (f := 44) rfl ?_); refine goesL_ (some 7) rfl rfl Try.func44 (by kernel_rfl) rfl #[.int .i64 a0_0, .int .i64 0, .int .i64 1000000] rfl ar_ ?_; (with_reducible refine (impl_in.calls a0_0 0 1000000 true _ A4.out).mono ?_); rintro e w' ⟨rfl, ⟨nd, rfl⟩⟩; refine ⟨_, rfl, ?_⟩) | (go_at_call 44; (with_reducible refine (impl_in.calls a0_1 1 32 true _ A6.out).mono ?_); rintro e w' ⟨rfl, ⟨nd, rfl⟩⟩) | (go_at_call 42; (with_reducible refine (impl_Ear_free.calls a0_0 a0_1 _ _ l0_2 _ _ l0_3 t105 _ ?side1 ?side2 ?side3 ?side4 A8.out).mono ?_); (case side1 => exact kC_ (Kd.C_below HR0_2.out (hb1_ HB.out GE102.out))); (case side2 => exact HC0_2.out); (case side3 => exact kC_ (Kd.C_below HR0_3.out (hb1_ HB.out GE102.out))); (case side4 => exact HC0_3.out); rintro e w10 ⟨rfl, hb⟩; have n0_ := Aside0.mk (blk_below (g := gb102) (o := .cells #[.int .i64 a0_0, .int .i64 a0_1, .slice A0_2 l0_2.length c0_2, .slice A0_3 l0_3.length c0_3] 25 (0, 0)) (kb_ BK102.out) hb); have n1_ := Aside0.mk (below_step (hb1_ HB.out GE102.out) hb); clear BK102; clear HB; have BK102 := n0_; have HB := n1_; clear n0_ n1_; (try clear hb); (try clear hb2); (try clear hk); (try clear hi)))
        go_meet
        case rel => exact ⟨_, (decide (t105 < 0)), (by first | rfl | (simp; done) | (simp [*]; done)), H', ⟨by first | omega | exact Nat.le_refl _⟩, ⟨by refine kb_ ?_; exact BK102.out⟩, ⟨by repeat (first | (with_reducible first | exact HB.out | apply below_alloc | apply pw_below_drewN | apply below_drew1 | refine below_set ?_ GE102.out) | exact HB.out)⟩⟩
      · replace c7 := Bool.eq_false_iff.mpr c7
        subst c7
        have H1 : (impl_EarOk.j0 k true a0_0 a0_1 l0_2 l0_3) = some r := by rw [if_neg (show ¬ (false = true) by decide)] at H; exact H
        clear H
        have H := H1
        clear H1
        have H' := Aside0.mk H
        clear H
        have hcz11_0 : w3.cell? ⟨gb102, 0, none⟩ = some (.int .i64 a0_0) := (blk_cell BK102.out 0).trans rfl
        have hcz11_1 : w3.cell? ⟨gb102, 1, none⟩ = some (.int .i64 a0_1) := (blk_cell BK102.out 1).trans rfl
        have hcz11_2 : w3.cell? ⟨gb102, 2, none⟩ = some (.slice A0_2 l0_2.length c0_2) := (blk_cell BK102.out 2).trans rfl
        have hcz11_3 : w3.cell? ⟨gb102, 3, none⟩ = some (.slice A0_3 l0_3.length c0_3) := (blk_cell BK102.out 3).trans rfl
        have hfz11_0 := blk_frozen BK102.out 0
        have hfz11_1 := blk_frozen BK102.out 1
        have hfz11_2 := blk_frozen BK102.out 2
        have hfz11_3 := blk_frozen BK102.out 3
        go_wp2_with (first | ((with_reducible refine gate_callee (f := 44) rfl ?_); refine goesL_ (some 7) rfl rfl Try.func44 (by kernel_rfl) rfl #[.int .i64 a0_0, .int .i64 0, .int .i64 1000000] rfl ar_ ?_; (with_reducible refine (impl_in.calls a0_0 0 1000000 true _ A4.out).mono ?_); rintro e w' ⟨rfl, ⟨nd, rfl⟩⟩; refine ⟨_, rfl, ?_⟩) | (go_at_call 44; (with_reducible refine (impl_in.calls a0_1 1 32 false _ A6.out).mono ?_); rintro e w' ⟨rfl, ⟨nd, rfl⟩⟩))
        go_meet
        case rel => exact ⟨_, (true), (by first | rfl | (simp; done) | (simp [*]; done)), H', ⟨by first | omega | exact Nat.le_refl _⟩, ⟨by refine kb_ ?_; exact BK102.out⟩, ⟨by repeat (first | (with_reducible first | exact HB.out | apply below_alloc | apply pw_below_drewN | apply below_drew1 | refine below_set ?_ GE102.out) | exact HB.out)⟩⟩
    · replace c5 := Bool.eq_false_iff.mpr c5
      subst c5
      have H1 : (impl_EarOk.j0 k true a0_0 a0_1 l0_2 l0_3) = some r := by rw [if_neg (show ¬ (false = true) by decide)] at H; exact H
      clear H
      have H := H1
      clear H1
      have H' := Aside0.mk H
      clear H
      have hcz12_0 : w3.cell? ⟨gb102, 0, none⟩ = some (.int .i64 a0_0) := (blk_cell BK102.out 0).trans rfl
      have hcz12_1 : w3.cell? ⟨gb102, 1, none⟩ = some (.int .i64 a0_1) := (blk_cell BK102.out 1).trans rfl
      have hcz12_2 : w3.cell? ⟨gb102, 2, none⟩ = some (.slice A0_2 l0_2.length c0_2) := (blk_cell BK102.out 2).trans rfl
      have hcz12_3 : w3.cell? ⟨gb102, 3, none⟩ = some (.slice A0_3 l0_3.length c0_3) := (blk_cell BK102.out 3).trans rfl
      have hfz12_0 := blk_frozen BK102.out 0
      have hfz12_1 := blk_frozen BK102.out 1
      have hfz12_2 := blk_frozen BK102.out 2
      have hfz12_3 := blk_frozen BK102.out 3
      go_wp2_with (first | ((with_reducible refine gate_callee (f := 44) rfl ?_); refine goesL_ (some 7) rfl rfl Try.func44 (by kernel_rfl) rfl #[.int .i64 a0_0, .int .i64 0, .int .i64 1000000] rfl ar_ ?_; (with_reducible refine (impl_in.calls a0_0 0 1000000 false _ A4.out).mono ?_); rintro e w' ⟨rfl, ⟨nd, rfl⟩⟩; refine ⟨_, rfl, ?_⟩))
      go_meet
      case rel => exact ⟨_, (true), (by first | rfl | (simp; done) | (simp [*]; done)), H', ⟨by first | omega | exact Nat.le_refl _⟩, ⟨by refine kb_ ?_; exact BK102.out⟩, ⟨by repeat (first | (with_reducible first | exact HB.out | apply below_alloc | apply pw_below_drewN | apply below_drew1 | refine below_set ?_ GE102.out) | exact HB.out)⟩⟩
  case rest =>
    clear HC2
    try clear c1
    try clear p2
    try clear c4
    try clear c5
    try clear c7
    try clear c12
    try clear hcz11_0
    try clear hcz11_1
    try clear hcz11_2
    try clear hcz11_3
    try clear hcz12_0
    try clear hcz12_1
    try clear hcz12_2
    try clear hcz12_3
    try clear hcz9_0
    try clear hcz9_1
    try clear hcz9_2
    try clear hcz9_3
    try clear hfz11_0
    try clear hfz11_1
    try clear hfz11_2
    try clear hfz11_3
    try clear hfz12_0
    try clear hfz12_1
    try clear hfz12_2
    try clear hfz12_3
    try clear hfz9_0
    try clear hfz9_1
    try clear hfz9_2
    try clear hfz9_3
    obtain ⟨kq, x19_1, rfl, HA, HJ1, BK102, HB⟩ := hcut
    cases kq with
    | zero => exact absurd HA.out (by simp [impl_EarOk.j0])
    | succ kj1 =>
      have H := HA.out
      clear HA
      simp only [impl_EarOk.j0] at H
      by_cases c13 : x19_1 = true
      · subst c13
        have H1 : (some false) = some r := by rw [if_pos rfl] at H; exact H
        clear H
        have H := H1
        clear H1
        obtain rfl := Option.some.inj H
        go_wp2
        go_ret
        exact ⟨by first | rfl | (simp [errW_none, errW_some] <;> rfl) | (simp [*, errW_none, errW_some] <;> rfl), by repeat (first | (with_reducible first | exact HB.out | apply below_alloc | apply pw_below_drewN | apply below_drew1 | refine below_set ?_ GE102.out) | exact HB.out)⟩
      · replace c13 := Bool.eq_false_iff.mpr c13
        subst c13
        have H1 : (impl_EarOk.l0 kj1 l0_3 (l0_3.length : Int) 0 a0_0 a0_1 l0_2 l0_3) = some r := by rw [if_neg (show ¬ (false = true) by decide)] at H; exact H
        clear H
        have H := H1
        clear H1
        have H' := Aside0.mk H
        clear H
        have hcz14_0 : wc.cell? ⟨gb102, 0, none⟩ = some (.int .i64 a0_0) := (blk_cell BK102.out 0).trans rfl
        have hcz14_1 : wc.cell? ⟨gb102, 1, none⟩ = some (.int .i64 a0_1) := (blk_cell BK102.out 1).trans rfl
        have hcz14_2 : wc.cell? ⟨gb102, 2, none⟩ = some (.slice A0_2 l0_2.length c0_2) := (blk_cell BK102.out 2).trans rfl
        have hcz14_3 : wc.cell? ⟨gb102, 3, none⟩ = some (.slice A0_3 l0_3.length c0_3) := (blk_cell BK102.out 3).trans rfl
        have hfz14_0 := blk_frozen BK102.out 0
        have hfz14_1 := blk_frozen BK102.out 1
        have hfz14_2 := blk_frozen BK102.out 2
        have hfz14_3 := blk_frozen BK102.out 3
        go_wp2
        go_loopg [23] kj1 (fun kq v23 w' => ∃ (x23_2 : Int), v23 = .int .i64 x23_2 ∧ Aside0 (impl_EarOk.l0 kq l0_3 (l0_3.length : Int) x23_2 a0_0 a0_1 l0_2 l0_3 = some r) ∧ Aside0 (kq ≤ kj1) ∧ Aside0 (w'.heap[gb102]? = some (.cells #[.int .i64 a0_0, .int .i64 a0_1, (.slice A0_2 l0_2.length c0_2), (.slice A0_3 l0_3.length c0_3)] 25 (0, 0))) ∧ Aside0 (Below w.heap.size w w'))
        case atStart => exact ⟨(0), (by first | rfl | (simp; done) | (simp [*]; done)), H', ⟨Nat.le_refl _⟩, ⟨by refine kb_ ?_; exact BK102.out⟩, ⟨by repeat (first | (with_reducible first | exact HB.out | apply below_alloc | apply pw_below_drewN | apply below_drew1 | refine below_set ?_ GE102.out) | exact HB.out)⟩⟩
        case round =>
          clear H'
          try clear c1
          try clear p2
          try clear c4
          try clear c5
          try clear c7
          try clear c12
          try clear c13
          try clear hcz11_0
          try clear hcz11_1
          try clear hcz11_2
          try clear hcz11_3
          try clear hcz12_0
          try clear hcz12_1
          try clear hcz12_2
          try clear hcz12_3
          try clear hcz14_0
          try clear hcz14_1
          try clear hcz14_2
          try clear hcz14_3
          try clear hcz9_0
          try clear hcz9_1
          try clear hcz9_2
          try clear hcz9_3
          try clear hfz11_0
          try clear hfz11_1
          try clear hfz11_2
          try clear hfz11_3
          try clear hfz12_0
          try clear hfz12_1
          try clear hfz12_2
          try clear hfz12_3
          try clear hfz14_0
          try clear hfz14_1
          try clear hfz14_2
          try clear hfz14_3
          try clear hfz9_0
          try clear hfz9_1
          try clear hfz9_2
          try clear hfz9_3
          try clear p2
          obtain ⟨x23_2, rfl, HA, HK2, BK102, HB⟩ := hrel
          cases gk with
          | zero => exact absurd HA.out (by simp [impl_EarOk.l0])
          | succ k2 =>
            have H := HA.out
            clear HA
            simp only [impl_EarOk.l0] at H
            by_cases c15 : x23_2 < (l0_3.length : Int)
            · rw [if_pos c15] at H
              have c15b0 : decide (x23_2 < (l0_3.length : Int)) = true := decide_eq_true c15
              clear c15
              by_cases c16 : 0 ≤ x23_2
              · rw [if_pos c16] at H
                have c16b0 : decide (0 ≤ x23_2) = true := decide_eq_true c16
                clear c16
                by_cases c17 : x23_2 < (l0_3.length : Int)
                · rw [if_pos c17] at H
                  have c17b0 : decide (x23_2 < (l0_3.length : Int)) = true := decide_eq_true c17
                  clear c17
                  have HC18 := Aside0.mk H
                  clear H
                  have p106 : 0 ≤ (x23_2 : Int) := of_decide_eq_true (by first | (with_reducible assumption) | assumption)
                  have q106 : x23_2 < (l0_3.length : Int) := of_decide_eq_true (by first | (with_reducible assumption) | assumption)
                  obtain ⟨ad106, e106, hx106_0, hx106_1⟩ := at_T70 HR0_3.out x23_2 p106 q106
                  cases e106
                  replace hx106_0 := (HB.out.cell (World.block_lt_of_cell? w _ hx106_0)).trans hx106_0
                  replace hx106_1 := (HB.out.cell (World.block_lt_of_cell? w _ hx106_1)).trans hx106_1
                  replace p106 := eq_true p106
                  replace q106 := eq_true q106
                  go_upto_region 6 with (first | ((with_reducible refine gate_dst (N := 4) rfl ?_); refine box_event ?hg (N := 4) ?hd (cs := #[.int .i64 0, .int .u8 0]) (t := 70) ?hr ?_; (case hd => rfl); (case hg => rfl); (case hr => first | (go_simp; done) | (go_simp; rfl)); intro gb107 hg w19 hbox hb; have n0_ := Aside0.mk (blk_below (g := gb102) (o := .cells #[.int .i64 a0_0, .int .i64 a0_1, .slice A0_2 l0_2.length c0_2, .slice (some ad106) l0_3.length c0_3] 25 (0, 0)) (kb_ BK102.out) hb); have n1_ := Aside0.mk (below_step (hb1_ HB.out GE102.out) hb); have n2_ := Aside0.mk (hbox); have n3_ := Aside0.mk ((by rw [hg]; exact (below_size (hb1_ HB.out GE102.out)) : w.heap.size ≤ gb107)); have n4_ := Aside0.mk ((by rw [hg]; exact (below_size (hb1_ HB.out GE102.out)) : w.heap.size ≤ gb107)); have n5_ := Aside0.mk ((by rw [hg]; exact Nat.ne_of_lt (blk_lt (g := gb102) (o := .cells #[.int .i64 a0_0, .int .i64 a0_1, .slice A0_2 l0_2.length c0_2, .slice (some ad106) l0_3.length c0_3] 25 (0, 0)) (kb_ BK102.out)) : gb102 ≠ gb107)); have n6_ := Aside0.mk ((by rw [hg]; exact Nat.ne_of_gt (blk_lt (g := gb102) (o := .cells #[.int .i64 a0_0, .int .i64 a0_1, .slice A0_2 l0_2.length c0_2, .slice (some ad106) l0_3.length c0_3] 25 (0, 0)) (kb_ BK102.out)) : gb107 ≠ gb102)); clear BK102; clear HB; have BK102 := n0_; have HB := n1_; have BK107 := n2_; have GW107 := n3_; have GE107 := n4_; have NB102_107 := n5_; have NB107_102 := n6_; clear n0_ n1_ n2_ n3_ n4_ n5_ n6_; clear hb hbox hg; have hnb20 := NB107_102.out; have hnc20 := NB102_107.out; have hcz21_0 : w19.cell? ⟨gb107, 0, none⟩ = some (.int .i64 0) := (blk_cell BK107.out 0).trans rfl; have hcz21_1 : w19.cell? ⟨gb107, 1, none⟩ = some (.int .u8 0) := (blk_cell BK107.out 1).trans rfl; have hfz21_0 := blk_frozen BK107.out 0; have hfz21_1 := blk_frozen BK107.out 1))
                  (try simp only [Act.put, List.setIfInBounds_toArray, List.set_cons_zero, List.set_cons_succ])
                  go_cut [56] (fun v56 wc => ∃ (kq : Nat) (x56_17 : Bool), v56 = .bool x56_17 ∧ Aside0 (impl_EarOk.j2 kq l0_3 (l0_3.length : Int) x23_2 x56_17 a0_0 a0_1 l0_2 l0_3 = some r) ∧ Aside0 (kq ≤ k2) ∧ Aside0 (wc.heap[gb102]? = some (.cells #[.int .i64 a0_0, .int .i64 a0_1, (.slice A0_2 l0_2.length c0_2), (.slice (some ad106) l0_3.length c0_3)] 25 (0, 0))) ∧ Aside0 (wc.heap[gb107]? = some (.cells #[.int .i64 ((rd_T70 l0_3 x23_2).f0), .int .u8 ((rd_T70 l0_3 x23_2).f1)] 70 (0, 0))) ∧ Aside0 (Below w.heap.size w wc))
                  case first =>
                    have H := HC18.out
                    clear HC18
                    replace H := Option.bind_eq_some_iff.mp H
                    obtain ⟨t108, A220, H⟩ := H
                    replace H : ((impl_in.f ((rd_T70 l0_3 x23_2).f0) (wrap64 (a0_0 + 1)) (wrap64 ((wrap64 (a0_0 + t108)) - 1))).bind fun t109 => (if t109 = true then (if x23_2 > 0 then (if 0 ≤ (wrap64 (x23_2 - 1)) then (if (wrap64 (x23_2 - 1)) < (l0_3.length : Int) then (impl_EarOk.j2 k2 l0_3 (l0_3.length : Int) x23_2 (decide (((rd_T70 l0_3 (wrap64 (x23_2 - 1))).f0) ≥ ((rd_T70 l0_3 x23_2).f0))) a0_0 a0_1 l0_2 l0_3) else (none)) else (none)) else (impl_EarOk.j2 k2 l0_3 (l0_3.length : Int) x23_2 false a0_0 a0_1 l0_2 l0_3)) else (impl_EarOk.j2 k2 l0_3 (l0_3.length : Int) x23_2 true a0_0 a0_1 l0_2 l0_3))) = some r := H
                    have A22 := Aside0.mk A220
                    clear A220
                    replace H := Option.bind_eq_some_iff.mp H
                    obtain ⟨t109, A230, H⟩ := H
                    replace H : (if t109 = true then (if x23_2 > 0 then (if 0 ≤ (wrap64 (x23_2 - 1)) then (if (wrap64 (x23_2 - 1)) < (l0_3.length : Int) then (impl_EarOk.j2 k2 l0_3 (l0_3.length : Int) x23_2 (decide (((rd_T70 l0_3 (wrap64 (x23_2 - 1))).f0) ≥ ((rd_T70 l0_3 x23_2).f0))) a0_0 a0_1 l0_2 l0_3) else (none)) else (none)) else (impl_EarOk.j2 k2 l0_3 (l0_3.length : Int) x23_2 false a0_0 a0_1 l0_2 l0_3)) else (impl_EarOk.j2 k2 l0_3 (l0_3.length : Int) x23_2 true a0_0 a0_1 l0_2 l0_3)) = some r := H
                    have A23 := Aside0.mk A230
                    clear A230
                    by_cases c24 : t109 = true
                    · subst c24
                      have H1 : (if x23_2 > 0 then (if 0 ≤ (wrap64 (x23_2 - 1)) then (if (wrap64 (x23_2 - 1)) < (l0_3.length : Int) then (impl_EarOk.j2 k2 l0_3 (l0_3.length : Int) x23_2 (decide (((rd_T70 l0_3 (wrap64 (x23_2 - 1))).f0) ≥ ((rd_T70 l0_3 x23_2).f0))) a0_0 a0_1 l0_2 l0_3) else (none)) else (none)) else (impl_EarOk.j2 k2 l0_3 (l0_3.length : Int) x23_2 false a0_0 a0_1 l0_2 l0_3)) = some r := by rw [if_pos rfl] at H; exact H
                      clear H
                      have H := H1
                      clear H1
                      by_cases c25 : x23_2 > 0
                      · rw [if_pos c25] at H
                        have c25b0 : decide (0 < x23_2) = true := decide_eq_true c25
                        clear c25
                        (first | rw [c25b0] | (simp only [i64_w, i32_w]; rw [c25b0]) | skip)
                        obtain ⟨ji26, hji26⟩ : ∃ j_ : Int, (wrap64 (x23_2 - 1)) = j_ := ⟨_, rfl⟩
                        replace H : (if 0 ≤ (ji26) then (if (ji26) < (l0_3.length : Int) then (impl_EarOk.j2 k2 l0_3 (l0_3.length : Int) x23_2 (decide (((rd_T70 l0_3 (ji26)).f0) ≥ ((rd_T70 l0_3 x23_2).f0))) a0_0 a0_1 l0_2 l0_3) else (none)) else (none)) = some r := by first | (rw [hji26] at H; exact H) | (simp only [hji26] at H ⊢; exact H)
                        (try rw [hji26] at A22)
                        (try rw [hji26] at A23)
                        have hji26w : (IntKind.i64.wrap (x23_2 - 1)) = ji26 := (i64_w _).trans hji26
                        by_cases c27 : 0 ≤ (ji26)
                        · rw [if_pos c27] at H
                          have c27b0 : decide (0 ≤ (ji26)) = true := decide_eq_true c27
                          clear c27
                          by_cases c28 : (ji26) < (l0_3.length : Int)
                          · rw [if_pos c28] at H
                            have c28b0 : decide ((ji26) < (l0_3.length : Int)) = true := decide_eq_true c28
                            clear c28
                            have H' := Aside0.mk H
                            clear H
                            try go_wp2
                            have n0_ : Aside0 (((w19.setCell ⟨gb107, 0, none⟩ (.int .i64 ((rd_T70 l0_3 x23_2).f0))).setCell ⟨gb107, 1, none⟩ (.int .u8 ((rd_T70 l0_3 x23_2).f1))).heap[gb102]? = some (.cells #[.int .i64 a0_0, .int .i64 a0_1, .slice A0_2 l0_2.length c0_2, .slice (some ad106) l0_3.length c0_3] 25 (0, 0))) := ⟨by refine kb_ ?_; refine blk_far ?_ NB102_107.out _; refine kb_ ?_; refine blk_far ?_ NB102_107.out _; refine kb_ ?_; exact BK102.out⟩
                            have n1_ : Aside0 (((w19.setCell ⟨gb107, 0, none⟩ (.int .i64 ((rd_T70 l0_3 x23_2).f0))).setCell ⟨gb107, 1, none⟩ (.int .u8 ((rd_T70 l0_3 x23_2).f1))).heap[gb107]? = some (.cells #[.int .i64 ((rd_T70 l0_3 x23_2).f0), .int .u8 ((rd_T70 l0_3 x23_2).f1)] 70 (0, 0))) := ⟨by refine kb_ ?_; refine blk_put (cs := #[.int .i64 ((rd_T70 l0_3 x23_2).f0), .int .u8 0]) ?_ 1 _ rfl; refine kb_ ?_; refine blk_put (cs := #[.int .i64 0, .int .u8 0]) ?_ 0 _ rfl; refine kb_ ?_; exact BK107.out⟩
                            have n2_ : Aside0 (Below w.heap.size w ((w19.setCell ⟨gb107, 0, none⟩ (.int .i64 ((rd_T70 l0_3 x23_2).f0))).setCell ⟨gb107, 1, none⟩ (.int .u8 ((rd_T70 l0_3 x23_2).f1)))) := ⟨by repeat (first | (with_reducible first | exact HB.out | apply below_alloc | apply pw_below_drewN | apply below_drew1 | refine below_set ?_ GE102.out | refine below_set ?_ GE107.out) | exact HB.out)⟩
                            (try clear BK102)
                            (try clear BK107)
                            (try clear HB)
                            generalize ((w19.setCell ⟨gb107, 0, none⟩ (.int .i64 ((rd_T70 l0_3 x23_2).f0))).setCell ⟨gb107, 1, none⟩ (.int .u8 ((rd_T70 l0_3 x23_2).f1))) = w29 at n0_ n1_ n2_ ⊢
                            have BK102 := n0_
                            have BK107 := n1_
                            have HB := n2_
                            clear n0_ n1_ n2_
                            have n0_ := Aside0.mk (blk_drew BK102.out)
                            have n1_ := Aside0.mk (blk_drew BK107.out)
                            have n2_ := Aside0.mk (below_drew1 HB.out)
                            clear BK102
                            clear BK107
                            clear HB
                            have BK102 := n0_
                            have BK107 := n1_
                            have HB := n2_
                            clear n0_ n1_ n2_
                            have p110 : 0 ≤ ((ji26) : Int) := of_decide_eq_true (by first | (with_reducible assumption) | assumption)
                            have q110 : (ji26) < (l0_3.length : Int) := of_decide_eq_true (by first | (with_reducible assumption) | assumption)
                            obtain ⟨ad110, e110, hx110_0, hx110_1⟩ := at_T70 HR0_3.out (ji26) p110 q110
                            have hw110_1 := hx110_1
                            have hw110_0 := hx110_0
                            obtain rfl : ad106 = ad110 := (by injection e110)
                            replace hx110_0 := (HB.out.cell (World.block_lt_of_cell? w _ hx110_0)).trans hx110_0
                            replace hx110_1 := (HB.out.cell (World.block_lt_of_cell? w _ hx110_1)).trans hx110_1
                            replace p110 := eq_true p110
                            replace q110 := eq_true q110
                            refine start_ (n := 29) (S := fun w' => w'.cell? ⟨gb107, 0, none⟩ = some (.int .i64 ((rd_T70 l0_3 x23_2).f0)) ∧ w'.cell? ⟨gb107, 1, none⟩ = some (.int .u8 ((rd_T70 l0_3 x23_2).f1)) ∧ w'.cell? ⟨gb102, 0, none⟩ = some (.int .i64 a0_0) ∧ w'.cell? ⟨gb102, 1, none⟩ = some (.int .i64 a0_1) ∧ w'.cell? ⟨gb102, 2, none⟩ = some (.slice A0_2 l0_2.length c0_2) ∧ w'.cell? ⟨gb102, 3, none⟩ = some (.slice (some ad106) l0_3.length c0_3) ∧ w'.cell? (ad106.add (((ji26)).toNat * 2)) = some (.int .i64 ((rd_T70 l0_3 (ji26)).f0)) ∧ w'.cell? ⟨(ad106.add (((ji26)).toNat * 2)).block, (ad106.add (((ji26)).toNat * 2)).off + 1, none⟩ = some (.int .u8 ((rd_T70 l0_3 (ji26)).f1))) (ds := []) #[false, false, false, false, false, false, false, false, false, false, false, false, false, false, false, false, false, false, false, false, false, false, false, false, false, false, false, false, false] (by kernel_rfl) rfl rfl ⟨(blk_cell BK107.out 0).trans rfl, (blk_cell BK107.out 1).trans rfl, (blk_cell BK102.out 0).trans rfl, (blk_cell BK102.out 1).trans rfl, (blk_cell BK102.out 2).trans rfl, (blk_cell BK102.out 3).trans rfl, ((HB.out.cell (World.block_lt_of_cell? w _ hw110_0)).trans hw110_0), ((HB.out.cell (World.block_lt_of_cell? w _ hw110_1)).trans hw110_1)⟩ (fun hHeld => ?_); refine with_tabW impl_EarOk.tab6 impl_EarOk.bits6 (fun HT_ HW_ => ?_)
                            generalize w29.drew = w30 at BK102 BK107 HB hx110_0 hx110_1 hHeld ⊢
                            refine pu_ (i := 0) (N := some 28) HT_ ?_
                            refine pu_ (i := 2) (N := some 30) HT_ ?_
                            refine pu_ (i := 5) (N := some 33) HT_ ?_
                            refine tk_ (i := 1) (N := some 29) HT_ HW_ hHeld ?_
                            refine tk_ (i := 3) (N := some 31) HT_ HW_ hHeld ?_
                            refine pu_ (i := 4) (N := some 32) HT_ ?_
                            refine tk_ (i := 6) (N := some 34) HT_ HW_ hHeld ?_
                            refine tk_ (i := 7) (N := some 35) HT_ HW_ hHeld ?_
                            refine on_ (i := 8) (N := some 36) HT_ (fun K hK => ?_)
                            refine goes_ Try.func42 (by kernel_rfl) rfl #[.agg #[.int .i64 a0_0, .int .i64 a0_1, .slice A0_2 l0_2.length c0_2, .slice (some ad106) l0_3.length c0_3]] (by rfl) rfl rfl ar_ ?_
                            with_reducible refine (impl_Ear_free.calls a0_0 a0_1 _ _ l0_2 _ _ l0_3 t108 _ ?side1 ?side2 ?side3 ?side4 A22.out).mono ?_
                            (case side1 => exact kC_ (Kd.C_below HR0_2.out HB.out))
                            (case side2 => exact HC0_2.out)
                            (case side3 => exact kC_ (Kd.C_below HR0_3.out HB.out))
                            (case side4 => exact HC0_3.out)
                            rintro e w31 ⟨rfl, hb⟩
                            refine ⟨_, rfl, ?_⟩
                            have n0_ := Aside0.mk (blk_below (g := gb102) (o := .cells #[.int .i64 a0_0, .int .i64 a0_1, .slice A0_2 l0_2.length c0_2, .slice (some ad106) l0_3.length c0_3] 25 (0, 0)) (kb_ BK102.out) hb)
                            have n1_ := Aside0.mk (blk_below (g := gb107) (o := .cells #[.int .i64 ((rd_T70 l0_3 x23_2).f0), .int .u8 ((rd_T70 l0_3 x23_2).f1)] 70 (0, 0)) (kb_ BK107.out) hb)
                            have n2_ := Aside0.mk (below_step (hb2_ HB.out GE102.out GE107.out) hb)
                            clear BK102
                            clear BK107
                            clear HB
                            have BK102 := n0_
                            have BK107 := n1_
                            have HB := n2_
                            clear n0_ n1_ n2_
                            (try clear hb)
                            (try clear hb2)
                            (try clear hk)
                            (try clear hi)
                            refine hK.out _ _ ⟨(blk_cell BK107.out 0).trans rfl, (blk_cell BK107.out 1).trans rfl, (blk_cell BK102.out 0).trans rfl, (blk_cell BK102.out 1).trans rfl, (blk_cell BK102.out 2).trans rfl, (blk_cell BK102.out 3).trans rfl, ((HB.out.cell (World.block_lt_of_cell? w _ hw110_0)).trans hw110_0), ((HB.out.cell (World.block_lt_of_cell? w _ hw110_1)).trans hw110_1)⟩ (fun hHeld => ?_)
                            clear hK K
                            refine nm_ 36 ?_
                            refine pu_ (i := 9) (N := some 37) HT_ ?_
                            refine pu_ (i := 10) (N := some 38) HT_ ?_
                            refine on_ (i := 11) (N := some 39) HT_ (fun K hK => ?_)
                            refine goes_ Try.func44 (by kernel_rfl) rfl #[.int .i64 ((rd_T70 l0_3 x23_2).f0), .int .i64 (wrap64 (a0_0 + 1)), .int .i64 (wrap64 ((wrap64 (a0_0 + t108)) - 1))] (by rfl) rfl rfl ar_ ?_
                            with_reducible refine (impl_in.calls ((rd_T70 l0_3 x23_2).f0) (wrap64 (a0_0 + 1)) (wrap64 ((wrap64 (a0_0 + t108)) - 1)) true _ A23.out).mono ?_
                            rintro e w' ⟨rfl, ⟨nd, rfl⟩⟩
                            refine ⟨_, rfl, ?_⟩
                            refine hK.out _ _ ⟨(blk_cell BK107.out 0).trans rfl, (blk_cell BK107.out 1).trans rfl, (blk_cell BK102.out 0).trans rfl, (blk_cell BK102.out 1).trans rfl, (blk_cell BK102.out 2).trans rfl, (blk_cell BK102.out 3).trans rfl, ((HB.out.cell (World.block_lt_of_cell? w _ hw110_0)).trans hw110_0), ((HB.out.cell (World.block_lt_of_cell? w _ hw110_1)).trans hw110_1)⟩ (fun hHeld => ?_)
                            clear hK K
                            refine nm_ 39 ?_
                            refine pu_ (i := 12) (N := some 40) HT_ ?_
                            refine pu_ (i := 13) (N := some 41) HT_ ?_
                            refine pu_ (i := 14) (N := some 42) HT_ ?_
                            refine pu_ (i := 15) (N := some 43) HT_ ?_
                            refine pu_ (i := 16) (N := some 44) HT_ ?_
                            refine pu_ (i := 17) (N := some 45) HT_ ?_
                            refine pu_ (i := 19) (N := some 47) HT_ ?_
                            refine pu_ (i := 20) (N := some 48) HT_ ?_
                            refine pu_ (i := 24) (N := some 52) HT_ ?_
                            refine tk_ (i := 18) (N := some 46) HT_ HW_ hHeld ?_
                            refine pu_ (i := 21) (N := some 49) HT_ ?_
                            refine pu_ (i := 22) (N := some 50) HT_ ?_
                            refine tk_ (i := 23) (N := some 51) HT_ HW_ hHeld ?_
                            refine tk_ (i := 25) (N := some 53) HT_ HW_ hHeld ?_
                            refine pu_ (i := 26) (N := some 54) HT_ ?_
                            refine pu_ (i := 27) (N := some 55) HT_ ?_
                            refine pu_ (i := 28) (N := some 56) HT_ ?_
                            refine done_ (done_of HT_.out (by kernel_rfl)) ?_
                            try go_wp2
                            first | go_meet | ((try simp only [← hji26]); go_meet)
                            case rel => exact ⟨_, (decide (((rd_T70 l0_3 (ji26)).f0) ≥ ((rd_T70 l0_3 x23_2).f0))), (by first | rfl | (simp; done) | (simp only [← hji26] <;> (first | rfl | simp)) | (simp [*]; done)), H', ⟨by have := HJ1.out; have := HK2.out; first | omega | exact Nat.le_refl _⟩, ⟨by refine kb_ ?_; exact BK102.out⟩, ⟨by refine kb_ ?_; exact BK107.out⟩, ⟨by repeat (first | (with_reducible first | exact HB.out | apply below_alloc | apply pw_below_drewN | apply below_drew1 | refine below_set ?_ GE102.out | refine below_set ?_ GE107.out) | exact HB.out)⟩⟩
                          · rw [if_neg c28] at H
                            exact absurd H (by simp)
                        · rw [if_neg c27] at H
                          exact absurd H (by simp)
                      · rw [if_neg c25] at H
                        have c25b0 : decide (0 < x23_2) = false := decide_eq_false c25
                        clear c25
                        (first | rw [c25b0] | (simp only [i64_w, i32_w]; rw [c25b0]) | skip)
                        have H' := Aside0.mk H
                        clear H
                        try go_wp2
                        have n0_ : Aside0 (((w19.setCell ⟨gb107, 0, none⟩ (.int .i64 ((rd_T70 l0_3 x23_2).f0))).setCell ⟨gb107, 1, none⟩ (.int .u8 ((rd_T70 l0_3 x23_2).f1))).heap[gb102]? = some (.cells #[.int .i64 a0_0, .int .i64 a0_1, .slice A0_2 l0_2.length c0_2, .slice (some ad106) l0_3.length c0_3] 25 (0, 0))) := ⟨by refine kb_ ?_; refine blk_far ?_ NB102_107.out _; refine kb_ ?_; refine blk_far ?_ NB102_107.out _; refine kb_ ?_; exact BK102.out⟩
                        have n1_ : Aside0 (((w19.setCell ⟨gb107, 0, none⟩ (.int .i64 ((rd_T70 l0_3 x23_2).f0))).setCell ⟨gb107, 1, none⟩ (.int .u8 ((rd_T70 l0_3 x23_2).f1))).heap[gb107]? = some (.cells #[.int .i64 ((rd_T70 l0_3 x23_2).f0), .int .u8 ((rd_T70 l0_3 x23_2).f1)] 70 (0, 0))) := ⟨by refine kb_ ?_; refine blk_put (cs := #[.int .i64 ((rd_T70 l0_3 x23_2).f0), .int .u8 0]) ?_ 1 _ rfl; refine kb_ ?_; refine blk_put (cs := #[.int .i64 0, .int .u8 0]) ?_ 0 _ rfl; refine kb_ ?_; exact BK107.out⟩
                        have n2_ : Aside0 (Below w.heap.size w ((w19.setCell ⟨gb107, 0, none⟩ (.int .i64 ((rd_T70 l0_3 x23_2).f0))).setCell ⟨gb107, 1, none⟩ (.int .u8 ((rd_T70 l0_3 x23_2).f1)))) := ⟨by repeat (first | (with_reducible first | exact HB.out | apply below_alloc | apply pw_below_drewN | apply below_drew1 | refine below_set ?_ GE102.out | refine below_set ?_ GE107.out) | exact HB.out)⟩
                        (try clear BK102)
                        (try clear BK107)
                        (try clear HB)
                        generalize ((w19.setCell ⟨gb107, 0, none⟩ (.int .i64 ((rd_T70 l0_3 x23_2).f0))).setCell ⟨gb107, 1, none⟩ (.int .u8 ((rd_T70 l0_3 x23_2).f1))) = w32 at n0_ n1_ n2_ ⊢
                        have BK102 := n0_
                        have BK107 := n1_
                        have HB := n2_
                        clear n0_ n1_ n2_
                        have n0_ := Aside0.mk (blk_drew BK102.out)
                        have n1_ := Aside0.mk (blk_drew BK107.out)
                        have n2_ := Aside0.mk (below_drew1 HB.out)
                        clear BK102
                        clear BK107
                        clear HB
                        have BK102 := n0_
                        have BK107 := n1_
                        have HB := n2_
                        clear n0_ n1_ n2_
                        refine start_ (n := 29) (S := fun w' => w'.cell? ⟨gb107, 0, none⟩ = some (.int .i64 ((rd_T70 l0_3 x23_2).f0)) ∧ w'.cell? ⟨gb107, 1, none⟩ = some (.int .u8 ((rd_T70 l0_3 x23_2).f1)) ∧ w'.cell? ⟨gb102, 0, none⟩ = some (.int .i64 a0_0) ∧ w'.cell? ⟨gb102, 1, none⟩ = some (.int .i64 a0_1) ∧ w'.cell? ⟨gb102, 2, none⟩ = some (.slice A0_2 l0_2.length c0_2) ∧ w'.cell? ⟨gb102, 3, none⟩ = some (.slice (some ad106) l0_3.length c0_3)) (ds := []) #[false, false, false, false, false, false, false, false, false, false, false, false, false, false, false, false, false, false, false, false, false, false, false, false, false, false, false, false, false] (by kernel_rfl) rfl rfl ⟨(blk_cell BK107.out 0).trans rfl, (blk_cell BK107.out 1).trans rfl, (blk_cell BK102.out 0).trans rfl, (blk_cell BK102.out 1).trans rfl, (blk_cell BK102.out 2).trans rfl, (blk_cell BK102.out 3).trans rfl⟩ (fun hHeld => ?_); refine with_tabW impl_EarOk.tab6 impl_EarOk.bits6 (fun HT_ HW_ => ?_)
                        generalize w32.drew = w33 at BK102 BK107 HB hHeld ⊢
                        refine pu_ (i := 0) (N := some 28) HT_ ?_
                        refine pu_ (i := 2) (N := some 30) HT_ ?_
                        refine pu_ (i := 5) (N := some 33) HT_ ?_
                        refine tk_ (i := 1) (N := some 29) HT_ HW_ hHeld ?_
                        refine tk_ (i := 3) (N := some 31) HT_ HW_ hHeld ?_
                        refine pu_ (i := 4) (N := some 32) HT_ ?_
                        refine tk_ (i := 6) (N := some 34) HT_ HW_ hHeld ?_
                        refine tk_ (i := 7) (N := some 35) HT_ HW_ hHeld ?_
                        refine on_ (i := 8) (N := some 36) HT_ (fun K hK => ?_)
                        refine goes_ Try.func42 (by kernel_rfl) rfl #[.agg #[.int .i64 a0_0, .int .i64 a0_1, .slice A0_2 l0_2.length c0_2, .slice (some ad106) l0_3.length c0_3]] (by rfl) rfl rfl ar_ ?_
                        with_reducible refine (impl_Ear_free.calls a0_0 a0_1 _ _ l0_2 _ _ l0_3 t108 _ ?side1 ?side2 ?side3 ?side4 A22.out).mono ?_
                        (case side1 => exact kC_ (Kd.C_below HR0_2.out HB.out))
                        (case side2 => exact HC0_2.out)
                        (case side3 => exact kC_ (Kd.C_below HR0_3.out HB.out))
                        (case side4 => exact HC0_3.out)
                        rintro e w34 ⟨rfl, hb⟩
                        refine ⟨_, rfl, ?_⟩
                        have n0_ := Aside0.mk (blk_below (g := gb102) (o := .cells #[.int .i64 a0_0, .int .i64 a0_1, .slice A0_2 l0_2.length c0_2, .slice (some ad106) l0_3.length c0_3] 25 (0, 0)) (kb_ BK102.out) hb)
                        have n1_ := Aside0.mk (blk_below (g := gb107) (o := .cells #[.int .i64 ((rd_T70 l0_3 x23_2).f0), .int .u8 ((rd_T70 l0_3 x23_2).f1)] 70 (0, 0)) (kb_ BK107.out) hb)
                        have n2_ := Aside0.mk (below_step (hb2_ HB.out GE102.out GE107.out) hb)
                        clear BK102
                        clear BK107
                        clear HB
                        have BK102 := n0_
                        have BK107 := n1_
                        have HB := n2_
                        clear n0_ n1_ n2_
                        (try clear hb)
                        (try clear hb2)
                        (try clear hk)
                        (try clear hi)
                        refine hK.out _ _ ⟨(blk_cell BK107.out 0).trans rfl, (blk_cell BK107.out 1).trans rfl, (blk_cell BK102.out 0).trans rfl, (blk_cell BK102.out 1).trans rfl, (blk_cell BK102.out 2).trans rfl, (blk_cell BK102.out 3).trans rfl⟩ (fun hHeld => ?_)
                        clear hK K
                        refine nm_ 36 ?_
                        refine pu_ (i := 9) (N := some 37) HT_ ?_
                        refine pu_ (i := 10) (N := some 38) HT_ ?_
                        refine on_ (i := 11) (N := some 39) HT_ (fun K hK => ?_)
                        refine goes_ Try.func44 (by kernel_rfl) rfl #[.int .i64 ((rd_T70 l0_3 x23_2).f0), .int .i64 (wrap64 (a0_0 + 1)), .int .i64 (wrap64 ((wrap64 (a0_0 + t108)) - 1))] (by rfl) rfl rfl ar_ ?_
                        with_reducible refine (impl_in.calls ((rd_T70 l0_3 x23_2).f0) (wrap64 (a0_0 + 1)) (wrap64 ((wrap64 (a0_0 + t108)) - 1)) true _ A23.out).mono ?_
                        rintro e w' ⟨rfl, ⟨nd, rfl⟩⟩
                        refine ⟨_, rfl, ?_⟩
                        refine hK.out _ _ ⟨(blk_cell BK107.out 0).trans rfl, (blk_cell BK107.out 1).trans rfl, (blk_cell BK102.out 0).trans rfl, (blk_cell BK102.out 1).trans rfl, (blk_cell BK102.out 2).trans rfl, (blk_cell BK102.out 3).trans rfl⟩ (fun hHeld => ?_)
                        clear hK K
                        refine nm_ 39 ?_
                        refine pu_ (i := 12) (N := some 40) HT_ ?_
                        refine pu_ (i := 13) (N := some 41) HT_ ?_
                        refine pu_ (i := 14) (N := some 42) HT_ ?_
                        refine pu_ (i := 15) (N := some 43) HT_ ?_
                        refine pu_ (i := 16) (N := some 44) HT_ ?_
                        refine pn_ (i := 17) (N := some 45) HT_ ?_
                        refine pn_ (i := 18) (N := some 46) HT_ ?_
                        refine pn_ (i := 19) (N := some 47) HT_ ?_
                        refine pn_ (i := 20) (N := some 48) HT_ ?_
                        refine pn_ (i := 21) (N := some 49) HT_ ?_
                        refine pn_ (i := 22) (N := some 50) HT_ ?_
                        refine pn_ (i := 23) (N := some 51) HT_ ?_
                        refine pn_ (i := 24) (N := some 52) HT_ ?_
                        refine pn_ (i := 25) (N := some 53) HT_ ?_
                        refine pn_ (i := 26) (N := some 54) HT_ ?_
                        refine pu_ (i := 27) (N := some 55) HT_ ?_
                        refine pu_ (i := 28) (N := some 56) HT_ ?_
                        refine done_ (done_of HT_.out (by kernel_rfl)) ?_
                        try go_wp2
                        go_meet
                        case rel => exact ⟨_, (false), (by first | rfl | (simp; done) | (simp [*]; done)), H', ⟨by have := HJ1.out; have := HK2.out; first | omega | exact Nat.le_refl _⟩, ⟨by refine kb_ ?_; exact BK102.out⟩, ⟨by refine kb_ ?_; exact BK107.out⟩, ⟨by repeat (first | (with_reducible first | exact HB.out | apply below_alloc | apply pw_below_drewN | apply below_drew1 | refine below_set ?_ GE102.out | refine below_set ?_ GE107.out) | exact HB.out)⟩⟩
                    · replace c24 := Bool.eq_false_iff.mpr c24
                      subst c24
                      have H1 : (impl_EarOk.j2 k2 l0_3 (l0_3.length : Int) x23_2 true a0_0 a0_1 l0_2 l0_3) = some r := by rw [if_neg (show ¬ (false = true) by decide)] at H; exact H
                      clear H
                      have H := H1
                      clear H1
                      have H' := Aside0.mk H
                      clear H
                      try go_wp2
                      have n0_ : Aside0 (((w19.setCell ⟨gb107, 0, none⟩ (.int .i64 ((rd_T70 l0_3 x23_2).f0))).setCell ⟨gb107, 1, none⟩ (.int .u8 ((rd_T70 l0_3 x23_2).f1))).heap[gb102]? = some (.cells #[.int .i64 a0_0, .int .i64 a0_1, .slice A0_2 l0_2.length c0_2, .slice (some ad106) l0_3.length c0_3] 25 (0, 0))) := ⟨by refine kb_ ?_; refine blk_far ?_ NB102_107.out _; refine kb_ ?_; refine blk_far ?_ NB102_107.out _; refine kb_ ?_; exact BK102.out⟩
                      have n1_ : Aside0 (((w19.setCell ⟨gb107, 0, none⟩ (.int .i64 ((rd_T70 l0_3 x23_2).f0))).setCell ⟨gb107, 1, none⟩ (.int .u8 ((rd_T70 l0_3 x23_2).f1))).heap[gb107]? = some (.cells #[.int .i64 ((rd_T70 l0_3 x23_2).f0), .int .u8 ((rd_T70 l0_3 x23_2).f1)] 70 (0, 0))) := ⟨by refine kb_ ?_; refine blk_put (cs := #[.int .i64 ((rd_T70 l0_3 x23_2).f0), .int .u8 0]) ?_ 1 _ rfl; refine kb_ ?_; refine blk_put (cs := #[.int .i64 0, .int .u8 0]) ?_ 0 _ rfl; refine kb_ ?_; exact BK107.out⟩
                      have n2_ : Aside0 (Below w.heap.size w ((w19.setCell ⟨gb107, 0, none⟩ (.int .i64 ((rd_T70 l0_3 x23_2).f0))).setCell ⟨gb107, 1, none⟩ (.int .u8 ((rd_T70 l0_3 x23_2).f1)))) := ⟨by repeat (first | (with_reducible first | exact HB.out | apply below_alloc | apply pw_below_drewN | apply below_drew1 | refine below_set ?_ GE102.out | refine below_set ?_ GE107.out) | exact HB.out)⟩
                      (try clear BK102)
                      (try clear BK107)
                      (try clear HB)
                      generalize ((w19.setCell ⟨gb107, 0, none⟩ (.int .i64 ((rd_T70 l0_3 x23_2).f0))).setCell ⟨gb107, 1, none⟩ (.int .u8 ((rd_T70 l0_3 x23_2).f1))) = w35 at n0_ n1_ n2_ ⊢
                      have BK102 := n0_
                      have BK107 := n1_
                      have HB := n2_
                      clear n0_ n1_ n2_
                      have n0_ := Aside0.mk (blk_drew BK102.out)
                      have n1_ := Aside0.mk (blk_drew BK107.out)
                      have n2_ := Aside0.mk (below_drew1 HB.out)
                      clear BK102
                      clear BK107
                      clear HB
                      have BK102 := n0_
                      have BK107 := n1_
                      have HB := n2_
                      clear n0_ n1_ n2_
                      refine start_ (n := 29) (S := fun w' => w'.cell? ⟨gb107, 0, none⟩ = some (.int .i64 ((rd_T70 l0_3 x23_2).f0)) ∧ w'.cell? ⟨gb107, 1, none⟩ = some (.int .u8 ((rd_T70 l0_3 x23_2).f1)) ∧ w'.cell? ⟨gb102, 0, none⟩ = some (.int .i64 a0_0) ∧ w'.cell? ⟨gb102, 1, none⟩ = some (.int .i64 a0_1) ∧ w'.cell? ⟨gb102, 2, none⟩ = some (.slice A0_2 l0_2.length c0_2) ∧ w'.cell? ⟨gb102, 3, none⟩ = some (.slice (some ad106) l0_3.length c0_3)) (ds := []) #[false, false, false, false, false, false, false, false, false, false, false, false, false, false, false, false, false, false, false, false, false, false, false, false, false, false, false, false, false] (by kernel_rfl) rfl rfl ⟨(blk_cell BK107.out 0).trans rfl, (blk_cell BK107.out 1).trans rfl, (blk_cell BK102.out 0).trans rfl, (blk_cell BK102.out 1).trans rfl, (blk_cell BK102.out 2).trans rfl, (blk_cell BK102.out 3).trans rfl⟩ (fun hHeld => ?_); refine with_tabW impl_EarOk.tab6 impl_EarOk.bits6 (fun HT_ HW_ => ?_)
                      generalize w35.drew = w36 at BK102 BK107 HB hHeld ⊢
                      refine pu_ (i := 0) (N := some 28) HT_ ?_
                      refine pu_ (i := 2) (N := some 30) HT_ ?_
                      refine pu_ (i := 5) (N := some 33) HT_ ?_
                      refine tk_ (i := 1) (N := some 29) HT_ HW_ hHeld ?_
                      refine tk_ (i := 3) (N := some 31) HT_ HW_ hHeld ?_
                      refine pu_ (i := 4) (N := some 32) HT_ ?_
                      refine tk_ (i := 6) (N := some 34) HT_ HW_ hHeld ?_
                      refine tk_ (i := 7) (N := some 35) HT_ HW_ hHeld ?_
                      refine on_ (i := 8) (N := some 36) HT_ (fun K hK => ?_)
                      refine goes_ Try.func42 (by kernel_rfl) rfl #[.agg #[.int .i64 a0_0, .int .i64 a0_1, .slice A0_2 l0_2.length c0_2, .slice (some ad106) l0_3.length c0_3]] (by rfl) rfl rfl ar_ ?_
                      with_reducible refine (impl_Ear_free.calls a0_0 a0_1 _ _ l0_2 _ _ l0_3 t108 _ ?side1 ?side2 ?side3 ?side4 A22.out).mono ?_
                      (case side1 => exact kC_ (Kd.C_below HR0_2.out HB.out))
                      (case side2 => exact HC0_2.out)
                      (case side3 => exact kC_ (Kd.C_below HR0_3.out HB.out))
                      (case side4 => exact HC0_3.out)
                      rintro e w37 ⟨rfl, hb⟩
                      refine ⟨_, rfl, ?_⟩
                      have n0_ := Aside0.mk (blk_below (g := gb102) (o := .cells #[.int .i64 a0_0, .int .i64 a0_1, .slice A0_2 l0_2.length c0_2, .slice (some ad106) l0_3.length c0_3] 25 (0, 0)) (kb_ BK102.out) hb)
                      have n1_ := Aside0.mk (blk_below (g := gb107) (o := .cells #[.int .i64 ((rd_T70 l0_3 x23_2).f0), .int .u8 ((rd_T70 l0_3 x23_2).f1)] 70 (0, 0)) (kb_ BK107.out) hb)
                      have n2_ := Aside0.mk (below_step (hb2_ HB.out GE102.out GE107.out) hb)
                      clear BK102
                      clear BK107
                      clear HB
                      have BK102 := n0_
                      have BK107 := n1_
                      have HB := n2_
                      clear n0_ n1_ n2_
                      (try clear hb)
                      (try clear hb2)
                      (try clear hk)
                      (try clear hi)
                      refine hK.out _ _ ⟨(blk_cell BK107.out 0).trans rfl, (blk_cell BK107.out 1).trans rfl, (blk_cell BK102.out 0).trans rfl, (blk_cell BK102.out 1).trans rfl, (blk_cell BK102.out 2).trans rfl, (blk_cell BK102.out 3).trans rfl⟩ (fun hHeld => ?_)
                      clear hK K
                      refine nm_ 36 ?_
                      refine pu_ (i := 9) (N := some 37) HT_ ?_
                      refine pu_ (i := 10) (N := some 38) HT_ ?_
                      refine on_ (i := 11) (N := some 39) HT_ (fun K hK => ?_)
                      refine goes_ Try.func44 (by kernel_rfl) rfl #[.int .i64 ((rd_T70 l0_3 x23_2).f0), .int .i64 (wrap64 (a0_0 + 1)), .int .i64 (wrap64 ((wrap64 (a0_0 + t108)) - 1))] (by rfl) rfl rfl ar_ ?_
                      with_reducible refine (impl_in.calls ((rd_T70 l0_3 x23_2).f0) (wrap64 (a0_0 + 1)) (wrap64 ((wrap64 (a0_0 + t108)) - 1)) false _ A23.out).mono ?_
                      rintro e w' ⟨rfl, ⟨nd, rfl⟩⟩
                      refine ⟨_, rfl, ?_⟩
                      refine hK.out _ _ ⟨(blk_cell BK107.out 0).trans rfl, (blk_cell BK107.out 1).trans rfl, (blk_cell BK102.out 0).trans rfl, (blk_cell BK102.out 1).trans rfl, (blk_cell BK102.out 2).trans rfl, (blk_cell BK102.out 3).trans rfl⟩ (fun hHeld => ?_)
                      clear hK K
                      refine nm_ 39 ?_
                      refine pu_ (i := 12) (N := some 40) HT_ ?_
                      refine pu_ (i := 13) (N := some 41) HT_ ?_
                      refine pn_ (i := 14) (N := some 42) HT_ ?_
                      refine pn_ (i := 15) (N := some 43) HT_ ?_
                      refine pn_ (i := 16) (N := some 44) HT_ ?_
                      refine pn_ (i := 17) (N := some 45) HT_ ?_
                      refine pn_ (i := 18) (N := some 46) HT_ ?_
                      refine pn_ (i := 19) (N := some 47) HT_ ?_
                      refine pn_ (i := 20) (N := some 48) HT_ ?_
                      refine pn_ (i := 21) (N := some 49) HT_ ?_
                      refine pn_ (i := 22) (N := some 50) HT_ ?_
                      refine pn_ (i := 23) (N := some 51) HT_ ?_
                      refine pn_ (i := 24) (N := some 52) HT_ ?_
                      refine pn_ (i := 25) (N := some 53) HT_ ?_
                      refine pn_ (i := 26) (N := some 54) HT_ ?_
                      refine pn_ (i := 27) (N := some 55) HT_ ?_
                      refine pu_ (i := 28) (N := some 56) HT_ ?_
                      refine done_ (done_of HT_.out (by kernel_rfl)) ?_
                      try go_wp2
                      go_meet
                      case rel => exact ⟨_, (true), (by first | rfl | (simp; done) | (simp [*]; done)), H', ⟨by have := HJ1.out; have := HK2.out; first | omega | exact Nat.le_refl _⟩, ⟨by refine kb_ ?_; exact BK102.out⟩, ⟨by refine kb_ ?_; exact BK107.out⟩, ⟨by repeat (first | (with_reducible first | exact HB.out | apply below_alloc | apply pw_below_drewN | apply below_drew1 | refine below_set ?_ GE102.out | refine below_set ?_ GE107.out) | exact HB.out)⟩⟩
                  case rest =>
                    clear HC18
                    try clear c2
                    try clear p2
                    try clear c4
                    try clear p6
                    try clear c24
                    try clear c25
                    try clear c25b0
                    try clear c27
                    try clear c28
                    obtain ⟨kq, x56_17, rfl, HA, HJ17, BK102, BK107, HB⟩ := hcut
                    cases kq with
                    | zero => exact absurd HA.out (by simp [impl_EarOk.j2])
                    | succ kj17 =>
                      have H := HA.out
                      clear HA
                      simp only [impl_EarOk.j2] at H
                      by_cases c38 : x56_17 = true
                      · subst c38
                        have H1 : (some false) = some r := by rw [if_pos rfl] at H; exact H
                        clear H
                        have H := H1
                        clear H1
                        obtain rfl := Option.some.inj H
                        go_wp2
                        go_ret
                        exact ⟨by first | rfl | (simp [errW_none, errW_some] <;> rfl) | (simp [*, errW_none, errW_some] <;> rfl), by repeat (first | (with_reducible first | exact HB.out | apply below_alloc | apply pw_below_drewN | apply below_drew1 | refine below_set ?_ GE102.out | refine below_set ?_ GE107.out) | exact HB.out)⟩
                      · replace c38 := Bool.eq_false_iff.mpr c38
                        subst c38
                        have H1 : (impl_EarOk.l0 kj17 l0_3 (l0_3.length : Int) (wrap64 (x23_2 + 1)) a0_0 a0_1 l0_2 l0_3) = some r := by rw [if_neg (show ¬ (false = true) by decide)] at H; exact H
                        clear H
                        have H := H1
                        clear H1
                        have H' := Aside0.mk H
                        clear H
                        go_wp2
                        go_roundg kj17
                        case measure => have := HJ1.out; have := HK2.out; have := HJ17.out; omega
                        case rel => exact ⟨(wrap64 (x23_2 + 1)), (by first | rfl | (simp; done) | (simp [*]; done)), H', ⟨by have := HJ1.out; have := HK2.out; have := HJ17.out; omega⟩, ⟨by refine kb_ ?_; exact BK102.out⟩, ⟨by repeat (first | (with_reducible first | exact HB.out | apply below_alloc | apply pw_below_drewN | apply below_drew1 | refine below_set ?_ GE102.out | refine below_set ?_ GE107.out) | exact HB.out)⟩⟩
                · rw [if_neg c17] at H
                  exact absurd H (by simp)
              · rw [if_neg c16] at H
                exact absurd H (by simp)
            · rw [if_neg c15] at H
              have c15b0 : decide (x23_2 < (l0_3.length : Int)) = false := decide_eq_false c15
              clear c15
              obtain rfl := Option.some.inj H
              go_wp2
              go_ret
              exact ⟨by first | rfl | (simp [errW_none, errW_some] <;> rfl) | (simp [*, errW_none, errW_some] <;> rfl), by repeat (first | (with_reducible first | exact HB.out | apply below_alloc | apply pw_below_drewN | apply below_drew1 | refine below_set ?_ GE102.out) | exact HB.out)⟩

/-! ### impl_bytesOf: function 73 -/
def impl_bytesOf.l0 : Nat → Int → List Int → Int → Option (List Int)
  | 0, _, _, _ => none
  | k + 1, x0, x5, x6 => if x6 ≥ 0 then (if 0 ≤ x6 then (if x6 < (x5.length : Int) then (impl_bytesOf.l0 k (x0 / 256) (x5.set (x6 : Int).toNat ((x0) % 256)) (wrap64 (x6 - 1))) else (none)) else (none)) else (some x5)
def impl_bytesOf.f (k : Nat) (a0 : Int) (a1 : Int) : Option (List Int) := if 0 ≤ a1 then (if (a1 : Int).toNat ≤ 281474976710656 then (impl_bytesOf.l0 k a0 (List.replicate (a1 : Int).toNat 0) (wrap64 (a1 - 1))) else (none)) else (none)
theorem impl_bytesOf.mono_l : ∀ k, (∀ y0 y1 y2, LeO (impl_bytesOf.l0 k y0 y1 y2) (impl_bytesOf.l0 (k + 1) y0 y1 y2))
  | 0 => fun _ _ _ r h => by simp [impl_bytesOf.l0] at h
  | k + 1 => by
    have ih0 := impl_bytesOf.mono_l k
    · intro y0 y1 y2
      unfold impl_bytesOf.l0
      repeat' first
      | (with_reducible exact ih0 _ _ _)
      | (with_reducible exact LeO.refl _)
      | (with_reducible exact LeO.none _)
      | (with_reducible refine LeO.ite ?_ ?_)
      | (with_reducible refine LeO.bind ?_ (fun _ => ?_))
      | exact ih0 _ _ _
      | exact LeO.none _
      | refine LeO.ite ?_ ?_
      | refine LeO.bind ?_ (fun _ => ?_)
theorem impl_bytesOf.mono : ∀ a0 a1 k, LeO (impl_bytesOf.f k a0 a1) (impl_bytesOf.f (k + 1) a0 a1) := by
  intro a0 a1 k
  have ih0 := impl_bytesOf.mono_l k
  unfold impl_bytesOf.f
  repeat' first
      | (with_reducible exact ih0 _ _ _)
      | (with_reducible exact LeO.refl _)
      | (with_reducible exact LeO.none _)
      | (with_reducible refine LeO.ite ?_ ?_)
      | (with_reducible refine LeO.bind ?_ (fun _ => ?_))
      | exact ih0 _ _ _
      | exact LeO.none _
      | refine LeO.ite ?_ ?_
      | refine LeO.bind ?_ (fun _ => ?_)
set_option maxHeartbeats 8000000 in
set_option maxRecDepth 100000 in
theorem impl_bytesOf.calls (k : Nat) (a0 : Int) (a1 : Int) (r : List Int) (w : World) (h : impl_bytesOf.f k a0 a1 = some r) :
    Calls Try.prog 73 #[.int .i64 a0, .int .i64 a1] w fun e w' => ∃ v0_ : Value, e = .returned (v0_) ∧ Kd.R (Kd.int .u8) 5 w' w.heap.size (fun _ => True) v0_ r ∧ Below w.heap.size w w' := by
  have HB := Aside0.mk (Below.refl w.heap.size w)
  have H : (if 0 ≤ a1 then (if (a1 : Int).toNat ≤ 281474976710656 then (impl_bytesOf.l0 k a0 (List.replicate (a1 : Int).toNat 0) (wrap64 (a1 - 1))) else (none)) else (none)) = some r := h
  clear h
  by_cases c3 : 0 ≤ a1
  · rw [if_pos c3] at H
    have c3b0 := eq_true c3
    have c3b1 : decide (0 ≤ a1) = true := decide_eq_true c3
    clear c3
    by_cases c4 : (a1 : Int).toNat ≤ 281474976710656
    · rw [if_pos c4] at H
      have c4b0 := eq_true c4
      have c4b1 : decide ((a1 : Int).toNat ≤ 281474976710656) = true := decide_eq_true c4
      clear c4
      obtain ⟨y111, hy111⟩ : ∃ y_ : List Int, y_ = (List.replicate (a1 : Int).toNat 0) := ⟨_, rfl⟩
      replace H : (impl_bytesOf.l0 k a0 y111 (wrap64 (a1 - 1))) = some r := by first | (rw [hy111]; with_reducible exact H) | (have H2_ := (Option.bind_some _ _).symm.trans H; rw [hy111]; with_reducible exact H2_) | (have H2_ := (Option.bind_some _ _).symm.trans H; with_reducible exact H2_) | with_reducible exact H | (rw [hy111]; exact H) | exact H
      have Ny111 := Aside0.mk hy111
      clear hy111
      have H' := Aside0.mk H
      clear H
      go_enter Try.func73, Try.ntmps73
      go_wp2_with (first | ((with_reducible refine gate_dst (N := 8) rfl ?_); refine Kd.R_make (Kd.int .u8) _ 5 rfl (N := 8) rfl 22 _ _ rfl a1 rfl rfl Try.underlying22 (.int .u8 0) 1 info5 rfl (by decide) (by omega) 0 (ok := fun _ => True) (okp := fun _ => True) rfl (fun _ hk => hk) trivial (of_decide_eq_true (by first | (with_reducible assumption) | assumption)) (Nat.le_trans (Nat.mul_le_mul_right _ (of_decide_eq_true (by first | (with_reducible assumption) | assumption) : a1.toNat ≤ 281474976710656)) (by omega)) (Below.refl _ _) (Nat.le_refl _) ?_; intro v112 w5 ho6 hb hg_ hnew_; clear hg_ hnew_; (first | rw [← Ny111.out] at ho6 | (simp only [Int.reduceToNat] at ho6; rw [← Ny111.out] at ho6)); have n0_ := Aside0.mk (Kd.R_lower ho6 (below_size (hb0_ HB.out))); have n1_ := Aside0.mk (below_step (hb0_ HB.out) hb); clear HB; have HO113 := n0_; have HB := n1_; clear n0_ n1_; clear hb ho6))
      go_loopg [0, 6] k (fun kq v0 v6 w' => ∃ (x0_1 : Int) (x5_1 : List Int) (x6_1 : Int), v0 = .int .i64 x0_1 ∧ v6 = .int .i64 x6_1 ∧ Aside0 (impl_bytesOf.l0 kq x0_1 x5_1 x6_1 = some r) ∧ Aside0 (kq ≤ k) ∧ Aside0 (Kd.R (Kd.int .u8) 5 w' w.heap.size (fun _ => True) v112 x5_1) ∧ Aside0 (Below w.heap.size w w'))
      case atStart => exact ⟨(a0), (y111), (wrap64 (a1 - 1)), (by first | rfl | (simp; done) | (simp [*]; done)), (by first | rfl | (simp; done) | (simp [*]; done)), H', ⟨Nat.le_refl _⟩, ⟨kR_ HO113.out⟩, ⟨by repeat (first | (with_reducible first | exact HB.out | apply below_alloc | apply pw_below_drewN | apply below_drew1) | exact HB.out)⟩⟩
      case round =>
        clear H'
        try clear p2
        try clear c3
        try clear c3b0
        try clear c3b1
        try clear c4
        try clear c4b0
        try clear c4b1
        try clear p6
        obtain ⟨x0_1, x5_1, x6_1, rfl, rfl, HA, HK1, HO_5, HB⟩ := hrel
        cases gk with
        | zero => exact absurd HA.out (by simp [impl_bytesOf.l0])
        | succ k1 =>
          have H := HA.out
          clear HA
          simp only [impl_bytesOf.l0] at H
          by_cases c7 : x6_1 ≥ 0
          · rw [if_pos c7] at H
            have c7b0 : decide (0 ≤ x6_1) = true := decide_eq_true c7
            clear c7
            by_cases c8 : 0 ≤ x6_1
            · rw [if_pos c8] at H
              have c8b0 : decide (0 ≤ x6_1) = true := decide_eq_true c8
              clear c8
              by_cases c9 : x6_1 < (x5_1.length : Int)
              · rw [if_pos c9] at H
                have c9b0 : decide (x6_1 < (x5_1.length : Int)) = true := decide_eq_true c9
                clear c9
                obtain ⟨y114, hy114⟩ : ∃ y_ : List Int, y_ = (x5_1.set (x6_1 : Int).toNat ((x0_1) % 256)) := ⟨_, rfl⟩
                replace H : (impl_bytesOf.l0 k1 (x0_1 / 256) y114 (wrap64 (x6_1 - 1))) = some r := by first | (rw [hy114]; with_reducible exact H) | (have H2_ := (Option.bind_some _ _).symm.trans H; rw [hy114]; with_reducible exact H2_) | (have H2_ := (Option.bind_some _ _).symm.trans H; with_reducible exact H2_) | with_reducible exact H | (rw [hy114]; exact H) | exact H
                have Ny114 := Aside0.mk hy114
                clear hy114
                have H' := Aside0.mk H
                clear H
                have p10 : 0 ≤ (x6_1 : Int) := of_decide_eq_true (by first | (with_reducible assumption) | assumption)
                have q10 : (x6_1 : Int) < ((x5_1.length : Int) : Int) := of_decide_eq_true (by first | (with_reducible assumption) | assumption)
                obtain ⟨go10, co10, eo10, gb10, gl10, cl10, HG10⟩ := Kd.R_form HO_5.out (by omega)
                (first | cases eo10 | (injection eo10 with ea_ en_ ec_; (first | subst ea_ | (injection ea_ with ea_; subst ea_)); subst ec_; clear en_))
                have GB10 := Aside0.mk gb10
                have GG10 := Aside0.mk HG10
                clear gb10 gl10 HG10
                obtain ⟨hx10_0, hf10_0⟩ := Kd.R_celln 0 HO_5.out (x6_1 : Int) p10 q10
                replace p10 := eq_true p10
                replace q10 := eq_true q10
                have HP11 := Kd.R_putg HO_5.out (x6_1 : Int) ((x0_1) % 256)
                go_wp2_with (first | ((with_reducible refine gate_store (t := 5) (p := 19) rfl ?_); refine store_event (t := 5) (p := 19) (v := ?vo_w12) (w1 := (wr.setCell ⟨go10, (x6_1 : Int).toNat, none⟩ (.int .u8 ((x0_1) % 256)))) ?hg ?ho ?hn ?hr ?_; (case ho => rfl); (case hg => rfl); (case hn => rfl); (case hr => first | (go_simp; done) | (go_simp; rfl)); intro w12 hw; have hg : wr.grownBy w12 (some go10) := (by rw [hw]; exact HP11.2); have hp_ : Kd.R (Kd.int .u8) 5 w12 w.heap.size (fun _ => True) (.slice (some ⟨go10, 0, none⟩) x5_1.length co10) y114 := (by rw [hw, Ny114.out]; exact HP11.1); clear HP11; have n0_ := Aside0.mk (hp_); have n1_ := Aside0.mk ((by rw [hw]; exact below_set (HB.out) GB10.out : Below w.heap.size w w12)); clear HO_5; clear HB; have HO_5 := n0_; have HB := n1_; clear n0_ n1_; clear hg hw hp_))
                go_roundg k1
                case measure => have := HK1.out; omega
                case rel => exact ⟨(x0_1 / 256), (y114), (wrap64 (x6_1 - 1)), (by first | rfl | (simp; done) | (simp [*]; done)), (by first | rfl | (simp; done) | (simp [*]; done)), H', ⟨by have := HK1.out; omega⟩, ⟨kR_ HO_5.out⟩, ⟨by repeat (first | (with_reducible first | exact HB.out | apply below_alloc | apply pw_below_drewN | apply below_drew1) | exact HB.out)⟩⟩
              · rw [if_neg c9] at H
                exact absurd H (by simp)
            · rw [if_neg c8] at H
              exact absurd H (by simp)
          · rw [if_neg c7] at H
            have c7b0 : decide (0 ≤ x6_1) = false := decide_eq_false c7
            clear c7
            obtain rfl := Option.some.inj H
            go_wp2
            go_ret
            exact ⟨_, by first | rfl | (simp [errW_none, errW_some] <;> rfl) | (simp [*, errW_none, errW_some] <;> rfl), kR_ HO_5.out, by repeat (first | (with_reducible first | exact HB.out | apply below_alloc | apply pw_below_drewN | apply below_drew1) | exact HB.out)⟩
    · rw [if_neg c4] at H
      exact absurd H (by simp)
  · rw [if_neg c3] at H
    exact absurd H (by simp)

end Go.Proofs.Ytjiodkbbmhhccaa.PFnEarRead
