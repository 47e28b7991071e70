/- Printed by wip/xp/xprint.sh out of the translation, for this claim: what each function answers, as a plain function, and that the machine does just that. No condition. -/
import Derived.Test.YtjiodkbbmhhccabPFnExactMouthHearx0
import Derived.Test.YtjiodkbbmhhccabPFnExactMouthHearx1
import Derived.Test.YtjiodkbbmhhccabPFnExactMouthHearx3
namespace Go.Proofs.Ytjiodkbbmhhccab.PFnExactMouthHear
open Go.RowKit Go.Proofs.YtjiodkbbmhhccabW.PrintWords Go.Proofs.YtjiodkbbmhhccabW.PrintLast Go.Proofs.YtjiodkbbmhhccabW.PrintMore
attribute [local go_sem] max2_int min2_int max_two min_two max_three min_three max_four min_four   -- for this text's walks alone
set_option linter.unusedVariables false
set_option linter.unusedSimpArgs false

attribute [local go_sem high] eqA60
/-! ### impl_Range_37: function 37 -/
def impl_Range_37.l0 : Nat → List (S60) → List (S60) → Int → Int → Option (Bool)
  | 0, _, _, _, _ => none
  | k + 1, x0, x1, x12, x13 => if x13 < x12 then (if 0 ≤ x13 then (if x13 < (x0.length : Int) then (if x13 < (x1.length : Int) then (if (!(((rd_T60 x0 x13).f0) == ((rd_T60 x1 x13).f0)) || (!(((rd_T60 x0 x13).f1) == ((rd_T60 x1 x13).f1)))) = true then (some false) else (impl_Range_37.l0 k x0 x1 x12 (wrap64 (x13 + 1)))) else (none)) else (none)) else (none)) else (some true)
def impl_Range_37.f (k : Nat) (l0 : List (S60)) (l1 : List (S60)) : Option (Bool) := if (l0.length : Int) = (l1.length : Int) then (impl_Range_37.l0 k l0 l1 (l0.length : Int) 0) else (some false)
theorem impl_Range_37.mono_l : ∀ k, (∀ y0 y1 y2 y3, LeO (impl_Range_37.l0 k y0 y1 y2 y3) (impl_Range_37.l0 (k + 1) y0 y1 y2 y3))
  | 0 => fun _ _ _ _ r h => by simp [impl_Range_37.l0] at h
  | k + 1 => by
    have ih0 := impl_Range_37.mono_l k
    · intro y0 y1 y2 y3
      unfold impl_Range_37.l0
      repeat' first
      | (with_reducible exact ih0 _ _ _ _)
      | (with_reducible exact LeO.refl _)
      | (with_reducible exact LeO.none _)
      | (with_reducible refine LeO.ite ?_ ?_)
      | (with_reducible refine LeO.bind ?_ (fun _ => ?_))
      | exact ih0 _ _ _ _
      | exact LeO.none _
      | refine LeO.ite ?_ ?_
      | refine LeO.bind ?_ (fun _ => ?_)
theorem impl_Range_37.mono : ∀ a0 a1 k, LeO (impl_Range_37.f k a0 a1) (impl_Range_37.f (k + 1) a0 a1) := by
  intro a0 a1 k
  have ih0 := impl_Range_37.mono_l k
  unfold impl_Range_37.f
  repeat' first
      | (with_reducible exact ih0 _ _ _ _)
      | (with_reducible exact LeO.refl _)
      | (with_reducible exact LeO.none _)
      | (with_reducible refine LeO.ite ?_ ?_)
      | (with_reducible refine LeO.bind ?_ (fun _ => ?_))
      | exact ih0 _ _ _ _
      | exact LeO.none _
      | refine LeO.ite ?_ ?_
      | refine LeO.bind ?_ (fun _ => ?_)
set_option maxHeartbeats 8000000 in
set_option maxRecDepth 100000 in
theorem impl_Range_37.calls (k : Nat) (A0 : Option Addr) (c0 : Nat) (l0 : List (S60)) (A1 : Option Addr) (c1 : Nat) (l1 : List (S60)) (r : Bool) (w : World) (hr0 : Kd.C k60 w A0 l0.length l0) (hc0 : l0.length ≤ c0) (hr1 : Kd.C k60 w A1 l1.length l1) (hc1 : l1.length ≤ c1) (h : impl_Range_37.f k l0 l1 = some r) :
    Calls Try.prog 37 #[.slice A0 l0.length c0, .slice A1 l1.length c1] w fun e w' => e = .returned (.bool r) ∧ Drawn0 w w' := by
  have hu60 := Try.underlying60; have HR0 := Aside0.mk hr0; have HC0 := Aside0.mk hc0; clear hr0 hc0; have HR1 := Aside0.mk hr1; have HC1 := Aside0.mk hc1; clear hr1 hc1
  have H : (if (l0.length : Int) = (l1.length : Int) then (impl_Range_37.l0 k l0 l1 (l0.length : Int) 0) else (some false)) = some r := h
  clear h
  by_cases c3 : (l0.length : Int) = (l1.length : Int)
  · rw [if_pos c3] at H
    have c3b0 : ((l0.length : Int) == (l1.length : Int)) = true := beq_iff_eq.mpr c3
    have c3b1 : ((l0.length : Int) != (l1.length : Int)) = false := bne_eq_false_iff_eq.mpr c3
    have c3b2 : (l0.length == l1.length) = true := by first | simpa using c3 | (simp at c3 ⊢; omega)
    clear c3
    have H' := Aside0.mk H
    clear H
    go_enter Try.func37, Try.ntmps37
    go_wp2
    repeat (go_quiet (fail); try go_wp2)
    go_loopg [13] k (fun kq v13 w' => ∃ (x13_1 : Int), v13 = .int .i64 x13_1 ∧ Aside0 (impl_Range_37.l0 kq l0 l1 (l0.length : Int) x13_1 = some r) ∧ Aside0 (kq ≤ k) ∧ Drawn0 w w')
    case atStart => exact ⟨(0), (by first | rfl | (simp; done) | (simp [*]; done)), H', ⟨Nat.le_refl _⟩, by repeat (first | exact Drawn0.refl _ | apply Drawn0.step)⟩
    case round =>
      clear H'; (try clear c1); (try clear p2); (try clear c3); (try clear c3b0); (try clear c3b1); (try clear c3b2)
      obtain ⟨x13_1, rfl, HA, HK1, ⟨m1, rfl⟩⟩ := hrel
      cases gk with
      | zero => exact absurd HA.out (by simp [impl_Range_37.l0])
      | succ k1 =>
        have H := HA.out; clear HA
        simp only [impl_Range_37.l0] at H
        by_cases c4 : x13_1 < (l0.length : Int)
        · rw [if_pos c4] at H
          have c4b0 : decide (x13_1 < (l0.length : Int)) = true := decide_eq_true c4
          clear c4
          by_cases c5 : 0 ≤ x13_1
          · rw [if_pos c5] at H
            have c5b0 : decide (0 ≤ x13_1) = true := decide_eq_true c5
            clear c5
            by_cases c6 : x13_1 < (l0.length : Int)
            · rw [if_pos c6] at H
              have c6b0 : decide (x13_1 < (l0.length : Int)) = true := decide_eq_true c6
              clear c6
              by_cases c7 : x13_1 < (l1.length : Int)
              · rw [if_pos c7] at H
                have c7b0 : decide (x13_1 < (l1.length : Int)) = true := decide_eq_true c7
                clear c7
                by_cases c8 : (!(((rd_T60 l0 x13_1).f0) == ((rd_T60 l1 x13_1).f0)) || (!(((rd_T60 l0 x13_1).f1) == ((rd_T60 l1 x13_1).f1)))) = true
                · rw [if_pos c8] at H
                  have c8b0 : (!(((rd_T60 l0 x13_1).f0) == ((rd_T60 l1 x13_1).f0)) || (!(((rd_T60 l0 x13_1).f1) == ((rd_T60 l1 x13_1).f1)))) = true := c8
                  clear c8
                  obtain rfl := Option.some.inj H
                  have p180 : 0 ≤ (x13_1 : Int) := of_decide_eq_true (by first | (with_reducible assumption) | assumption)
                  have q180 : x13_1 < (l0.length : Int) := of_decide_eq_true (by first | (with_reducible assumption) | assumption)
                  obtain ⟨ad180, e180, hx180_0, hx180_1⟩ := at_T60 HR0.out x13_1 p180 q180
                  cases e180
                  replace p180 := eq_true p180
                  replace q180 := eq_true q180
                  have p181 : 0 ≤ (x13_1 : Int) := of_decide_eq_true (by first | (with_reducible assumption) | assumption)
                  have q181 : x13_1 < (l1.length : Int) := of_decide_eq_true (by first | (with_reducible assumption) | assumption)
                  obtain ⟨ad181, e181, hx181_0, hx181_1⟩ := at_T60 HR1.out x13_1 p181 q181
                  cases e181
                  replace p181 := eq_true p181
                  replace q181 := eq_true q181
                  go_wp2
                  repeat (go_quiet (fail); try go_wp2)
                  go_ret
                  exact ⟨by first | rfl | (simp; done) | (simp [*]; done), by repeat (first | exact Drawn0.refl _ | apply Drawn0.step)⟩
                · rw [if_neg c8] at H
                  have c8b0 : (!(((rd_T60 l0 x13_1).f0) == ((rd_T60 l1 x13_1).f0)) || (!(((rd_T60 l0 x13_1).f1) == ((rd_T60 l1 x13_1).f1)))) = false := by simpa using c8
                  clear c8
                  have H' := Aside0.mk H
                  clear H
                  have p180 : 0 ≤ (x13_1 : Int) := of_decide_eq_true (by first | (with_reducible assumption) | assumption)
                  have q180 : x13_1 < (l0.length : Int) := of_decide_eq_true (by first | (with_reducible assumption) | assumption)
                  obtain ⟨ad180, e180, hx180_0, hx180_1⟩ := at_T60 HR0.out x13_1 p180 q180
                  cases e180
                  replace p180 := eq_true p180
                  replace q180 := eq_true q180
                  have p181 : 0 ≤ (x13_1 : Int) := of_decide_eq_true (by first | (with_reducible assumption) | assumption)
                  have q181 : x13_1 < (l1.length : Int) := of_decide_eq_true (by first | (with_reducible assumption) | assumption)
                  obtain ⟨ad181, e181, hx181_0, hx181_1⟩ := at_T60 HR1.out x13_1 p181 q181
                  cases e181
                  replace p181 := eq_true p181
                  replace q181 := eq_true q181
                  go_wp2
                  repeat (go_quiet (fail); try go_wp2)
                  go_roundg k1
                  case measure => have := HK1.out; omega
                  case rel => exact ⟨(wrap64 (x13_1 + 1)), (by first | rfl | (simp; done) | (simp [*]; done)), H', ⟨by have := HK1.out; omega⟩, by repeat (first | exact Drawn0.refl _ | apply Drawn0.step)⟩
              · rw [if_neg c7] at H
                exact absurd H (by simp)
            · rw [if_neg c6] at H
              exact absurd H (by simp)
          · rw [if_neg c5] at H
            exact absurd H (by simp)
        · rw [if_neg c4] at H
          have c4b0 : decide (x13_1 < (l0.length : Int)) = false := decide_eq_false c4
          clear c4
          obtain rfl := Option.some.inj H
          go_wp2
          repeat (go_quiet (fail); try go_wp2)
          go_ret
          exact ⟨by first | rfl | (simp; done) | (simp [*]; done), by repeat (first | exact Drawn0.refl _ | apply Drawn0.step)⟩
  · rw [if_neg c3] at H
    have c3b0 : ((l0.length : Int) == (l1.length : Int)) = false := beq_eq_false_iff_ne.mpr c3
    have c3b1 : ((l0.length : Int) != (l1.length : Int)) = true := bne_iff_ne.mpr c3
    have c3b2 : (l0.length == l1.length) = false := by first | simpa using c3 | (simp at c3 ⊢; omega)
    obtain rfl := Option.some.inj H
    go_enter Try.func37, Try.ntmps37
    go_wp2
    repeat (go_quiet (fail); try go_wp2)
    go_ret
    exact ⟨by first | rfl | (simp; done) | (simp [*]; done), by repeat (first | exact Drawn0.refl _ | apply Drawn0.step)⟩

/-! ### impl_Range_55: function 55, by hand -/
theorem impl_Range_55.calls (A0 : Option Addr) (c0 n0 : Nat) (w : World) (hc : n0 ≤ c0) : Calls Try.prog 55 #[.slice A0 n0 c0] w fun e w' => e = .returned (.slice A0 n0 n0) ∧ w' = w := by
  go_enter Try.func55, Try.ntmps55
  go_wp2
  go_ret
  exact ⟨rfl, rfl⟩

/-! ### impl_Range_51: function 51, by hand -/
def impl_Range_51.f (l0 : List (S60)) : Option ((List (S60))) := if l0.length * 16 ≤ 140737488355328 then some l0 else none
theorem impl_Range_51.calls (A0 : Option Addr) (c0 : Nat) (l0 : List (S60)) (r : List (S60)) (w : World) (hr0 : Kd.C k60 w A0 l0.length l0) (hc0 : l0.length ≤ c0) (h : impl_Range_51.f l0 = some r) :
    Calls Try.prog 51 #[.slice A0 l0.length c0] w fun e w' => ∃ v0_ : Value, e = .returned (v0_) ∧ Kd.R k60 60 w' w.heap.size (fun _ => True) v0_ r ∧ Below w.heap.size w w' := by
  obtain ⟨hle, rfl⟩ : l0.length * 16 ≤ 140737488355328 ∧ l0 = r := by
    unfold impl_Range_51.f at h; split at h
    · exact ⟨by assumption, Option.some.inj h⟩
    · cases h
  have hm := hr0.2.1
  have HR := Aside0.mk hr0; clear hr0 h
  by_cases h0 : l0.length = 0
  · have hb : ((l0.length : Int) == 0) = true := by simp [h0]
    have HL : Aside0 (l0 = []) := ⟨List.eq_nil_of_length_eq_zero h0⟩
    clear h0
    go_enter Try.func51, Try.ntmps51
    go_wp2
    go_ret
    refine ⟨_, rfl, ?_, Below.refl _ _⟩
    rw [HL.out]; exact Kd.R_nil _ _ _ _ _
  · have hb : ((l0.length : Int) == 0) = false := by simp; intro hh; exact h0 (by simp [hh])
    clear h0
    go_enter Try.func51, Try.ntmps51
    go_wp2_with (first
      | ((with_reducible refine gate_dst (N := 7) rfl ?_); refine Kd.R_append_rows k60 (Rr := k60.K w) w.heap.size rfl _ _ 23 60 (.agg #[(.int .i64 0), (.int .i64 0)]) 16 rfl Try.underlying23 info60 rfl (by decide) (by decide) (.slice none 0 0) [] l0 A0 l0.length c0 (fun _ => True) (fun _ => True) rfl rfl (Kd.R_nil _ _ _ _ _) HR.out (fun x cs h => by rw [k60_open h]; exact k60_mkM _ _ _ _) (fun k _ => ⟨trivial, by simp [Value.ownBlock]⟩) (fun _ _ => trivial) (Below.refl _ _) (Nat.le_refl _) (by simpa using hle) ?_; intro v1 w1 ho hb1 hg hat; rw [List.nil_append] at ho; obtain ⟨A1, c1, hv1, hc1, _⟩ := Kd.R_reads ho; have HO := Aside0.mk ho; clear ho hat hg; have HB := Aside0.mk hb1; clear hb1; subst hv1)
      | (go_at_call 55; (with_reducible refine (impl_Range_55.calls _ _ _ _ hc1).mono ?_); rintro e w' ⟨rfl, rfl⟩))
    go_ret
    exact ⟨_, rfl, Kd.R_clip HO.out (Nat.le_refl _) hc1, HB.out⟩

/-! ### impl_rangesOk: function 38 -/
mutual
def impl_rangesOk.l0 : Nat → Int → List (S60) → Int → List (S60) → Int → Int → Option ((List (S60)))
  | 0, _, _, _, _, _, _ => none
  | k + 1, x2, x7, x8, x12, x13, x14 => if x14 < x13 then (if 0 ≤ x14 then (if x14 < (x12.length : Int) then (if ((rd_T60 x12 x14).f0) > x8 then (if ((rd_T60 x12 x14).f1) > ((rd_T60 x12 x14).f0) then (if ((rd_T60 x12 x14).f1) ≤ x2 then (impl_rangesOk.j1 k x2 x7 x8 x12 x13 x14 (decide ((x7.length : Int) < 2)) ((rd_T60 x12 x14).f0) ((rd_T60 x12 x14).f1)) else (impl_rangesOk.j1 k x2 x7 x8 x12 x13 x14 false ((rd_T60 x12 x14).f0) ((rd_T60 x12 x14).f1))) else (impl_rangesOk.j1 k x2 x7 x8 x12 x13 x14 false ((rd_T60 x12 x14).f0) ((rd_T60 x12 x14).f1))) else (impl_rangesOk.j1 k x2 x7 x8 x12 x13 x14 false ((rd_T60 x12 x14).f0) ((rd_T60 x12 x14).f1))) else (none)) else (none)) else ((impl_Range_51.f x7).bind fun t182 => (some t182))
def impl_rangesOk.j1 : Nat → Int → List (S60) → Int → List (S60) → Int → Int → Bool → Int → Int → Option ((List (S60)))
  | 0, _, _, _, _, _, _, _, _, _ => none
  | k + 1, x2, x7, x8, x12, x13, x14, x39, x187000, x187001 => if x39 = true then (if x7.length < 8796093022208 then (impl_rangesOk.l0 k x2 (x7 ++ [(⟨x187000, x187001⟩ : S60)]) x187001 x12 x13 (wrap64 (x14 + 1))) else (none)) else (impl_rangesOk.l0 k x2 x7 x8 x12 x13 (wrap64 (x14 + 1)))
end
def impl_rangesOk.f (k : Nat) (l0 : List (S60)) (a1 : Int) (a2 : Int) : Option ((List (S60))) := impl_rangesOk.l0 k a2 ([] : List (S60)) a1 l0 (l0.length : Int) 0
theorem impl_rangesOk.mono_l : ∀ k, (∀ y0 y1 y2 y3 y4 y5, LeO (impl_rangesOk.l0 k y0 y1 y2 y3 y4 y5) (impl_rangesOk.l0 (k + 1) y0 y1 y2 y3 y4 y5)) ∧ (∀ y0 y1 y2 y3 y4 y5 y6 y7 y8, LeO (impl_rangesOk.j1 k y0 y1 y2 y3 y4 y5 y6 y7 y8) (impl_rangesOk.j1 (k + 1) y0 y1 y2 y3 y4 y5 y6 y7 y8))
  | 0 => ⟨fun _ _ _ _ _ _ r h => by simp [impl_rangesOk.l0] at h, fun _ _ _ _ _ _ _ _ _ r h => by simp [impl_rangesOk.j1] at h⟩
  | k + 1 => by
    obtain ⟨ih0, ih1⟩ := impl_rangesOk.mono_l k
    refine ⟨?_, ?_⟩
    · intro y0 y1 y2 y3 y4 y5
      unfold impl_rangesOk.l0
      repeat' first
      | (with_reducible exact ih0 _ _ _ _ _ _)
      | (with_reducible exact ih1 _ _ _ _ _ _ _ _ _)
      | (with_reducible exact LeO.refl _)
      | (with_reducible exact LeO.none _)
      | (with_reducible refine LeO.ite ?_ ?_)
      | (with_reducible refine LeO.bind ?_ (fun _ => ?_))
      | exact ih0 _ _ _ _ _ _
      | exact ih1 _ _ _ _ _ _ _ _ _
      | exact LeO.none _
      | refine LeO.ite ?_ ?_
      | refine LeO.bind ?_ (fun _ => ?_)
    · intro y0 y1 y2 y3 y4 y5 y6 y7 y8
      unfold impl_rangesOk.j1
      repeat' first
      | (with_reducible exact ih0 _ _ _ _ _ _)
      | (with_reducible exact ih1 _ _ _ _ _ _ _ _ _)
      | (with_reducible exact LeO.refl _)
      | (with_reducible exact LeO.none _)
      | (with_reducible refine LeO.ite ?_ ?_)
      | (with_reducible refine LeO.bind ?_ (fun _ => ?_))
      | exact ih0 _ _ _ _ _ _
      | exact ih1 _ _ _ _ _ _ _ _ _
      | exact LeO.none _
      | refine LeO.ite ?_ ?_
      | refine LeO.bind ?_ (fun _ => ?_)
theorem impl_rangesOk.mono : ∀ a0 a1 a2 k, LeO (impl_rangesOk.f k a0 a1 a2) (impl_rangesOk.f (k + 1) a0 a1 a2) := by
  intro a0 a1 a2 k
  obtain ⟨ih0, ih1⟩ := impl_rangesOk.mono_l k
  unfold impl_rangesOk.f
  repeat' first
      | (with_reducible exact ih0 _ _ _ _ _ _)
      | (with_reducible exact ih1 _ _ _ _ _ _ _ _ _)
      | (with_reducible exact LeO.refl _)
      | (with_reducible exact LeO.none _)
      | (with_reducible refine LeO.ite ?_ ?_)
      | (with_reducible refine LeO.bind ?_ (fun _ => ?_))
      | exact ih0 _ _ _ _ _ _
      | exact ih1 _ _ _ _ _ _ _ _ _
      | exact LeO.none _
      | refine LeO.ite ?_ ?_
      | refine LeO.bind ?_ (fun _ => ?_)
set_option maxHeartbeats 8000000 in
set_option maxRecDepth 100000 in
theorem impl_rangesOk.calls (k : Nat) (A0 : Option Addr) (c0 : Nat) (l0 : List (S60)) (a1 : Int) (a2 : Int) (r : List (S60)) (w : World) (hr0 : Kd.C k60 w A0 l0.length l0) (hc0 : l0.length ≤ c0) (h : impl_rangesOk.f k l0 a1 a2 = some r) :
    Calls Try.prog 38 #[.slice A0 l0.length c0, .int .i64 a1, .int .i64 a2] w fun e w' => ∃ v0_ : Value, e = .returned (v0_) ∧ Kd.R k60 60 w' w.heap.size (fun _ => True) v0_ r ∧ Below w.heap.size w w' := by
  have hu60 := Try.underlying60; have HR0 := Aside0.mk hr0; have HC0 := Aside0.mk hc0; clear hr0 hc0
  have HB := Aside0.mk (Below.refl w.heap.size w)
  have H : (impl_rangesOk.l0 k a2 ([] : List (S60)) a1 l0 (l0.length : Int) 0) = some r := h
  clear h
  have H' := Aside0.mk H
  clear H
  go_enter Try.func38, Try.ntmps38
  go_wp2
  go_loopg [7, 8, 14] k (fun kq v7 v8 v14 w' => ∃ (x7_1 : List (S60)) (x8_1 : Int) (x14_1 : Int), v8 = .int .i64 x8_1 ∧ v14 = .int .i64 x14_1 ∧ Aside0 (impl_rangesOk.l0 kq a2 x7_1 x8_1 l0 (l0.length : Int) x14_1 = some r) ∧ Aside0 (kq ≤ k) ∧ Aside0 (Kd.R k60 60 w' w.heap.size (fun _ => True) v7 x7_1) ∧ Aside0 (Below w.heap.size w w'))
  case atStart => exact ⟨(([] : List (S60))), (a1), (0), (by first | rfl | (simp; done) | (simp [*]; done)), (by first | rfl | (simp; done) | (simp [*]; done)), H', ⟨Nat.le_refl _⟩, ⟨by first | exact Kd.R_nil _ _ _ _ _ | exact Kd.N_nil _ _ _ _ _ | exact Kd.V_nil _ _ _ _ _ | exact Kd.Q_nil _ _ _ _ _ | exact Kd.S_nil _ _ _ _ _⟩, ⟨by repeat (first | (with_reducible first | exact HB.out | apply below_alloc | apply pw_below_drewN | apply below_drew1) | exact HB.out)⟩⟩
  case round =>
    clear H'; (try clear p2); (try clear c3)
    obtain ⟨x7_1, x8_1, x14_1, rfl, rfl, HA, HK1, HO_7, HB⟩ := hrel
    cases gk with
    | zero => exact absurd HA.out (by simp [impl_rangesOk.l0])
    | succ k1 =>
      have H := HA.out; clear HA
      simp only [impl_rangesOk.l0] at H
      by_cases c4 : x14_1 < (l0.length : Int)
      · rw [if_pos c4] at H
        have c4b0 : decide (x14_1 < (l0.length : Int)) = true := decide_eq_true c4
        clear c4
        by_cases c5 : 0 ≤ x14_1
        · rw [if_pos c5] at H
          have c5b0 : decide (0 ≤ x14_1) = true := decide_eq_true c5
          clear c5
          by_cases c6 : x14_1 < (l0.length : Int)
          · rw [if_pos c6] at H
            have c6b0 : decide (x14_1 < (l0.length : Int)) = true := decide_eq_true c6
            clear c6; have HC7 := Aside0.mk H; clear H
            have p185 : 0 ≤ (x14_1 : Int) := of_decide_eq_true (by first | (with_reducible assumption) | assumption)
            have q185 : x14_1 < (l0.length : Int) := of_decide_eq_true (by first | (with_reducible assumption) | assumption)
            obtain ⟨ad185, e185, hx185_0, hx185_1⟩ := at_T60 HR0.out x14_1 p185 q185
            cases e185
            replace hx185_0 := (HB.out.cell (World.block_lt_of_cell? w _ hx185_0)).trans hx185_0
            replace hx185_1 := (HB.out.cell (World.block_lt_of_cell? w _ hx185_1)).trans hx185_1
            replace p185 := eq_true p185
            replace q185 := eq_true q185
            go_upto_region 6 with (first | ((with_reducible refine gate_dst (N := 10) rfl ?_); (try (refine gate_guard (by rfl) ?_; dsimp only)); refine box_event ?hg (N := 10) ?hd (cs := #[.int .i64 0, .int .i64 0]) (t := 60) ?hr ?_; (case hd => rfl); (case hg => rfl); (case hr => first | (go_simp; done) | (go_simp; rfl)); intro gb186 hg w8 hbox hb; have n0_ := Aside0.mk (Kd.R_below (Kd.R_elderB (kR_ HO_7.out) gb186 (Nat.le_of_eq hg.symm)) hb); have n1_ := Aside0.mk (below_step (hb0_ HB.out) hb); have n2_ := Aside0.mk (hbox); have n3_ := Aside0.mk ((by rw [hg]; exact (below_size (hb0_ HB.out)) : w.heap.size ≤ gb186)); have n4_ := Aside0.mk ((by rw [hg]; exact (below_size (hb0_ HB.out)) : w.heap.size ≤ gb186)); clear HO_7; clear HB; have HO_7 := n0_; have HB := n1_; have BK186 := n2_; have GW186 := n3_; have GE186 := n4_; clear n0_ n1_ n2_ n3_ n4_; clear hb hbox hg; have hcz9_0 : w8.cell? ⟨gb186, 0, none⟩ = some (.int .i64 0) := (blk_cell BK186.out 0).trans rfl; have hcz9_1 : w8.cell? ⟨gb186, 1, none⟩ = some (.int .i64 0) := (blk_cell BK186.out 1).trans rfl; have hfz9_0 := blk_frozen BK186.out 0; have hfz9_1 := blk_frozen BK186.out 1))
            (try simp only [Act.put, List.setIfInBounds_toArray, List.set_cons_zero, List.set_cons_succ])
            go_cut [39] (fun v39 wc => ∃ (kq : Nat) (x39_6 : Bool), v39 = .bool x39_6 ∧ Aside0 (impl_rangesOk.j1 kq a2 x7_1 x8_1 l0 (l0.length : Int) x14_1 x39_6 ((rd_T60 l0 x14_1).f0) ((rd_T60 l0 x14_1).f1) = some r) ∧ Aside0 (kq ≤ k1) ∧ Aside0 (Kd.R k60 60 wc w.heap.size (fun k_ => k_ ≠ gb186) u7 x7_1) ∧ Aside0 (wc.heap[gb186]? = some (.cells #[.int .i64 ((rd_T60 l0 x14_1).f0), .int .i64 ((rd_T60 l0 x14_1).f1)] 60 (0, 0))) ∧ Aside0 (Below w.heap.size w wc))
            case first =>
              have H := HC7.out; clear HC7
              by_cases c10 : ((rd_T60 l0 x14_1).f0) > x8_1
              · rw [if_pos c10] at H
                have c10b0 : decide (x8_1 < ((rd_T60 l0 x14_1).f0)) = true := decide_eq_true c10
                clear c10
                (first | rw [c10b0] | (simp only [i64_w, i32_w]; rw [c10b0]) | skip)
                by_cases c11 : ((rd_T60 l0 x14_1).f1) > ((rd_T60 l0 x14_1).f0)
                · rw [if_pos c11] at H
                  have c11b0 : decide (((rd_T60 l0 x14_1).f0) < ((rd_T60 l0 x14_1).f1)) = true := decide_eq_true c11
                  clear c11
                  by_cases c12 : ((rd_T60 l0 x14_1).f1) ≤ a2
                  · rw [if_pos c12] at H
                    have c12b0 : decide (((rd_T60 l0 x14_1).f1) ≤ a2) = true := decide_eq_true c12
                    clear c12
                    have H' := Aside0.mk H
                    clear H; have hcz13_0 : w8.cell? ⟨gb186, 0, none⟩ = some (.int .i64 0) := (blk_cell BK186.out 0).trans rfl; have hcz13_1 : w8.cell? ⟨gb186, 1, none⟩ = some (.int .i64 0) := (blk_cell BK186.out 1).trans rfl; have hfz13_0 := blk_frozen BK186.out 0; have hfz13_1 := blk_frozen BK186.out 1
                    obtain ⟨Ao14, co14, eo14⟩ := Kd.R_slice HO_7.out
                    subst eo14
                    go_wp2
                    go_meet
                    case rel => exact ⟨_, (decide ((x7_1.length : Int) < 2)), (by first | rfl | (simp; done) | (simp [*]; done)), H', ⟨by have := HK1.out; first | omega | exact Nat.le_refl _⟩, ⟨by refine kR_ ?_; exact Kd.R_mono (Kd.R_f gb186 1 (.int .i64 ((rd_T60 l0 x14_1).f1)) (Kd.R_f gb186 0 (.int .i64 ((rd_T60 l0 x14_1).f0)) (Kd.R_mono HO_7.out (fun k_ hk => (⟨hk, hk.2⟩ : _ ∧ k_ ≠ gb186))))) (fun _ hk => hk.1.2)⟩, ⟨by refine kb_ ?_; refine blk_put (cs := #[.int .i64 ((rd_T60 l0 x14_1).f0), .int .i64 0]) ?_ 1 _ rfl; refine kb_ ?_; refine blk_put (cs := #[.int .i64 0, .int .i64 0]) ?_ 0 _ rfl; refine kb_ ?_; exact BK186.out⟩, ⟨by repeat (first | (with_reducible first | exact HB.out | apply below_alloc | apply pw_below_drewN | apply below_drew1 | refine below_set ?_ GE186.out) | exact HB.out)⟩⟩
                  · rw [if_neg c12] at H
                    have c12b0 : decide (((rd_T60 l0 x14_1).f1) ≤ a2) = false := decide_eq_false c12
                    clear c12
                    have H' := Aside0.mk H
                    clear H; have hcz15_0 : w8.cell? ⟨gb186, 0, none⟩ = some (.int .i64 0) := (blk_cell BK186.out 0).trans rfl; have hcz15_1 : w8.cell? ⟨gb186, 1, none⟩ = some (.int .i64 0) := (blk_cell BK186.out 1).trans rfl; have hfz15_0 := blk_frozen BK186.out 0; have hfz15_1 := blk_frozen BK186.out 1
                    go_wp2
                    go_meet
                    case rel => exact ⟨_, (false), (by first | rfl | (simp; done) | (simp [*]; done)), H', ⟨by have := HK1.out; first | omega | exact Nat.le_refl _⟩, ⟨by refine kR_ ?_; exact Kd.R_mono (Kd.R_f gb186 1 (.int .i64 ((rd_T60 l0 x14_1).f1)) (Kd.R_f gb186 0 (.int .i64 ((rd_T60 l0 x14_1).f0)) (Kd.R_mono HO_7.out (fun k_ hk => (⟨hk, hk.2⟩ : _ ∧ k_ ≠ gb186))))) (fun _ hk => hk.1.2)⟩, ⟨by refine kb_ ?_; refine blk_put (cs := #[.int .i64 ((rd_T60 l0 x14_1).f0), .int .i64 0]) ?_ 1 _ rfl; refine kb_ ?_; refine blk_put (cs := #[.int .i64 0, .int .i64 0]) ?_ 0 _ rfl; refine kb_ ?_; exact BK186.out⟩, ⟨by repeat (first | (with_reducible first | exact HB.out | apply below_alloc | apply pw_below_drewN | apply below_drew1 | refine below_set ?_ GE186.out) | exact HB.out)⟩⟩
                · rw [if_neg c11] at H
                  have c11b0 : decide (((rd_T60 l0 x14_1).f0) < ((rd_T60 l0 x14_1).f1)) = false := decide_eq_false c11
                  clear c11
                  have H' := Aside0.mk H
                  clear H; have hcz16_0 : w8.cell? ⟨gb186, 0, none⟩ = some (.int .i64 0) := (blk_cell BK186.out 0).trans rfl; have hcz16_1 : w8.cell? ⟨gb186, 1, none⟩ = some (.int .i64 0) := (blk_cell BK186.out 1).trans rfl; have hfz16_0 := blk_frozen BK186.out 0; have hfz16_1 := blk_frozen BK186.out 1
                  go_wp2
                  go_meet
                  case rel => exact ⟨_, (false), (by first | rfl | (simp; done) | (simp [*]; done)), H', ⟨by have := HK1.out; first | omega | exact Nat.le_refl _⟩, ⟨by refine kR_ ?_; exact Kd.R_mono (Kd.R_f gb186 1 (.int .i64 ((rd_T60 l0 x14_1).f1)) (Kd.R_f gb186 0 (.int .i64 ((rd_T60 l0 x14_1).f0)) (Kd.R_mono HO_7.out (fun k_ hk => (⟨hk, hk.2⟩ : _ ∧ k_ ≠ gb186))))) (fun _ hk => hk.1.2)⟩, ⟨by refine kb_ ?_; refine blk_put (cs := #[.int .i64 ((rd_T60 l0 x14_1).f0), .int .i64 0]) ?_ 1 _ rfl; refine kb_ ?_; refine blk_put (cs := #[.int .i64 0, .int .i64 0]) ?_ 0 _ rfl; refine kb_ ?_; exact BK186.out⟩, ⟨by repeat (first | (with_reducible first | exact HB.out | apply below_alloc | apply pw_below_drewN | apply below_drew1 | refine below_set ?_ GE186.out) | exact HB.out)⟩⟩
              · rw [if_neg c10] at H
                have c10b0 : decide (x8_1 < ((rd_T60 l0 x14_1).f0)) = false := decide_eq_false c10
                clear c10
                (first | rw [c10b0] | (simp only [i64_w, i32_w]; rw [c10b0]) | skip)
                have H' := Aside0.mk H
                clear H; have hcz17_0 : w8.cell? ⟨gb186, 0, none⟩ = some (.int .i64 0) := (blk_cell BK186.out 0).trans rfl; have hcz17_1 : w8.cell? ⟨gb186, 1, none⟩ = some (.int .i64 0) := (blk_cell BK186.out 1).trans rfl; have hfz17_0 := blk_frozen BK186.out 0; have hfz17_1 := blk_frozen BK186.out 1
                go_wp2
                go_meet
                case rel => exact ⟨_, (false), (by first | rfl | (simp; done) | (simp [*]; done)), H', ⟨by have := HK1.out; first | omega | exact Nat.le_refl _⟩, ⟨by refine kR_ ?_; exact Kd.R_mono (Kd.R_f gb186 1 (.int .i64 ((rd_T60 l0 x14_1).f1)) (Kd.R_f gb186 0 (.int .i64 ((rd_T60 l0 x14_1).f0)) (Kd.R_mono HO_7.out (fun k_ hk => (⟨hk, hk.2⟩ : _ ∧ k_ ≠ gb186))))) (fun _ hk => hk.1.2)⟩, ⟨by refine kb_ ?_; refine blk_put (cs := #[.int .i64 ((rd_T60 l0 x14_1).f0), .int .i64 0]) ?_ 1 _ rfl; refine kb_ ?_; refine blk_put (cs := #[.int .i64 0, .int .i64 0]) ?_ 0 _ rfl; refine kb_ ?_; exact BK186.out⟩, ⟨by repeat (first | (with_reducible first | exact HB.out | apply below_alloc | apply pw_below_drewN | apply below_drew1 | refine below_set ?_ GE186.out) | exact HB.out)⟩⟩
            case rest =>
              clear HC7; (try clear c1); (try clear p1); (try clear q1); (try clear hx1); (try clear p2); (try clear c3); (try clear c4); (try clear c4b0); (try clear c5); (try clear c5b0); (try clear c6); (try clear c6b0); (try clear c10); (try clear c10b0); (try clear c11); (try clear c11b0); (try clear c12); (try clear c12b0); (try clear hcz13_0); (try clear hcz13_1); (try clear hcz15_0); (try clear hcz15_1); (try clear hcz16_0); (try clear hcz16_1); (try clear hcz17_0); (try clear hcz17_1); (try clear hcz9_0); (try clear hcz9_1); (try clear hfz13_0); (try clear hfz13_1); (try clear hfz15_0); (try clear hfz15_1); (try clear hfz16_0); (try clear hfz16_1); (try clear hfz17_0); (try clear hfz17_1); (try clear hfz9_0); (try clear hfz9_1); (try clear hx185_0); (try clear hx185_1); (try clear p185); (try clear p2); (try clear q185)
              obtain ⟨kq, x39_6, rfl, HA, HJ6, HO_7, BK186, HB⟩ := hcut
              cases kq with
              | zero => exact absurd HA.out (by simp [impl_rangesOk.j1])
              | succ kj6 =>
                have H := HA.out; clear HA
                simp only [impl_rangesOk.j1] at H
                by_cases c18 : x39_6 = true
                · subst c18
                  have H1 : (if x7_1.length < 8796093022208 then (impl_rangesOk.l0 kj6 a2 (x7_1 ++ [(⟨((rd_T60 l0 x14_1).f0), ((rd_T60 l0 x14_1).f1)⟩ : S60)]) ((rd_T60 l0 x14_1).f1) l0 (l0.length : Int) (wrap64 (x14_1 + 1))) else (none)) = some r := by rw [if_pos rfl] at H; exact H
                  clear H; have H := H1; clear H1
                  by_cases c19 : x7_1.length < 8796093022208
                  · rw [if_pos c19] at H
                    have LMc19 := Aside0.mk c19; clear c19
                    obtain ⟨y187, hy187⟩ : ∃ y_ : List (S60), y_ = (x7_1 ++ [(⟨((rd_T60 l0 x14_1).f0), ((rd_T60 l0 x14_1).f1)⟩ : S60)]) := ⟨_, rfl⟩
                    replace H : (impl_rangesOk.l0 kj6 a2 y187 ((rd_T60 l0 x14_1).f1) l0 (l0.length : Int) (wrap64 (x14_1 + 1))) = some r := by first | (rw [hy187]; with_reducible exact H) | (have H2_ := (Option.bind_some _ _).symm.trans H; rw [hy187]; with_reducible exact H2_) | (have H2_ := (Option.bind_some _ _).symm.trans H; with_reducible exact H2_) | with_reducible exact H | (rw [hy187]; exact H) | exact H
                    have Ny187 := Aside0.mk hy187; clear hy187
                    have H' := Aside0.mk H
                    clear H; have hcz20_0 : wc.cell? ⟨gb186, 0, none⟩ = some (.int .i64 ((rd_T60 l0 x14_1).f0)) := (blk_cell BK186.out 0).trans rfl; have hcz20_1 : wc.cell? ⟨gb186, 1, none⟩ = some (.int .i64 ((rd_T60 l0 x14_1).f1)) := (blk_cell BK186.out 1).trans rfl; have hfz20_0 := blk_frozen BK186.out 0; have hfz20_1 := blk_frozen BK186.out 1
                    go_wp2_with (first | ((with_reducible refine gate_builtin (b := .append) (xs := #[.tmp 40, .tmp 42]) rfl ?_); (try (refine gate_guard (by rfl) ?_; dsimp only)); at_builtin; refine Kd.R_append k60 (w0 := w) w.heap.size rfl (.tmp 40) (.tmp 42) 23 60 (.agg #[(.int .i64 0), (.int .i64 0)]) 16 rfl Try.underlying23 info60 rfl (by decide) (by omega) u7 x7_1 (⟨((rd_T60 l0 x14_1).f0), ((rd_T60 l0 x14_1).f1)⟩ : S60) [.int .i64 ((rd_T60 l0 x14_1).f0), .int .i64 ((rd_T60 l0 x14_1).f1)] (fun k_ => k_ ≠ gb186) (fun _ => False) rfl rfl ?aP (fun _ hk => hk.elim) ?aF ?aO ?aB ?aS ?aL ?_; (case aP => exact k60_mkM _ _ _ (⟨((rd_T60 l0 x14_1).f0), ((rd_T60 l0 x14_1).f1)⟩ : S60)); (case aB => exact (hb1_ HB.out GE186.out)); (case aF => exact (fun k_ hk => Kd.freshB (g := gb186) (o := .cells #[.int .i64 ((rd_T60 l0 x14_1).f0), .int .i64 ((rd_T60 l0 x14_1).f1)] 60 (0, 0)) (kb_ BK186.out) k_ hk)); (case aO => exact (kR_ HO_7.out)); (case aS => exact (below_size (hb1_ HB.out GE186.out))); (case aL => have := LMc19.out; omega); intro v188 w21 ho hb hg hat; rw [← Ny187.out] at ho; have n0_ := Aside0.mk (blk_grown (g := gb186) (o := .cells #[.int .i64 ((rd_T60 l0 x14_1).f0), .int .i64 ((rd_T60 l0 x14_1).f1)] 60 (0, 0)) (kb_ BK186.out) hg (Kd.R_away HO_7.out (fun _ hk => hk))); have n1_ := Aside0.mk (hb); have n2_ := Aside0.mk (ho); clear BK186; clear HB; clear HO_7; have BK186 := n0_; have HB := n1_; have HO189 := n2_; clear n0_ n1_ n2_; clear ho hb hg hat; have hcz22_0 : w21.cell? ⟨gb186, 0, none⟩ = some (.int .i64 ((rd_T60 l0 x14_1).f0)) := (blk_cell BK186.out 0).trans rfl; have hcz22_1 : w21.cell? ⟨gb186, 1, none⟩ = some (.int .i64 ((rd_T60 l0 x14_1).f1)) := (blk_cell BK186.out 1).trans rfl; have hfz22_0 := blk_frozen BK186.out 0; have hfz22_1 := blk_frozen BK186.out 1))
                    go_roundg kj6
                    case measure => have := HK1.out; have := HJ6.out; omega
                    case rel => exact ⟨(y187), (((rd_T60 l0 x14_1).f1)), (wrap64 (x14_1 + 1)), (by first | rfl | (simp; done) | (simp [*]; done)), (by first | rfl | (simp; done) | (simp [*]; done)), H', ⟨by have := HK1.out; have := HJ6.out; omega⟩, ⟨by refine kR_ ?_; exact Kd.R_mono HO189.out (fun _ hk => trivial)⟩, ⟨by repeat (first | (with_reducible first | exact HB.out | apply below_alloc | apply pw_below_drewN | apply below_drew1 | refine below_set ?_ GE186.out) | exact HB.out)⟩⟩
                  · rw [if_neg c19] at H
                    exact absurd H (by simp)
                · replace c18 := Bool.eq_false_iff.mpr c18
                  subst c18
                  have H1 : (impl_rangesOk.l0 kj6 a2 x7_1 x8_1 l0 (l0.length : Int) (wrap64 (x14_1 + 1))) = some r := by rw [if_neg (show ¬ (false = true) by decide)] at H; exact H
                  clear H; have H := H1; clear H1
                  have H' := Aside0.mk H
                  clear H
                  go_wp2
                  go_roundg kj6
                  case measure => have := HK1.out; have := HJ6.out; omega
                  case rel => exact ⟨(x7_1), (x8_1), (wrap64 (x14_1 + 1)), (by first | rfl | (simp; done) | (simp [*]; done)), (by first | rfl | (simp; done) | (simp [*]; done)), H', ⟨by have := HK1.out; have := HJ6.out; omega⟩, ⟨by refine kR_ ?_; exact Kd.R_mono HO_7.out (fun _ hk => trivial)⟩, ⟨by repeat (first | (with_reducible first | exact HB.out | apply below_alloc | apply pw_below_drewN | apply below_drew1 | refine below_set ?_ GE186.out) | exact HB.out)⟩⟩
          · rw [if_neg c6] at H
            exact absurd H (by simp)
        · rw [if_neg c5] at H
          exact absurd H (by simp)
      · rw [if_neg c4] at H
        have c4b0 : decide (x14_1 < (l0.length : Int)) = false := decide_eq_false c4
        clear c4
        replace H := Option.bind_eq_some_iff.mp H
        obtain ⟨t182, A230, H⟩ := H
        replace H : (some t182) = some r := H
        have A23 := Aside0.mk A230; clear A230
        obtain rfl := Option.some.inj H
        obtain ⟨Ao24, co24, eo24⟩ := Kd.R_slice HO_7.out
        subst eo24
        go_wp2_with (first | ((with_reducible refine gate_callee (f := 51) rfl ?_); refine goesL_ (some 48) rfl rfl Try.func51 (by kernel_rfl) rfl #[.slice Ao24 x7_1.length co24] rfl ar_ ?_; (with_reducible refine (impl_Range_51.calls _ _ x7_1 t182 _ ?side1 ?side2 A23.out).mono ?_); (case side1 => exact kC_ (Kd.R_reads' HO_7.out).2.2); (case side2 => exact (Kd.R_reads' HO_7.out).2.1); rintro e w25 ⟨v183, rfl, ho0, hb⟩; refine ⟨_, rfl, ?_⟩; have n0_ := Aside0.mk (Kd.R_elder' (kR_ HO_7.out) (Kd.R_base ho0) hb); have n1_ := Aside0.mk (Kd.R_lower (Kd.R_new' ho0 (Kd.R_lt (kR_ HO_7.out))) (below_size (hb0_ HB.out))); have n2_ := Aside0.mk (below_step (hb0_ HB.out) hb); clear HO_7; clear HB; have HO_7 := n0_; have HO184 := n1_; have HB := n2_; clear n0_ n1_ n2_; (try clear hb); (try clear hb2); (try clear hk); (try clear hi); (try clear ho0)))
        go_ret
        exact ⟨_, by first | rfl | (simp [errW_none, errW_some] <;> rfl) | (simp [*, errW_none, errW_some] <;> rfl), by refine kR_ ?_; exact Kd.R_mono HO184.out (fun _ hk => trivial), by repeat (first | (with_reducible first | exact HB.out | apply below_alloc | apply pw_below_drewN | apply below_drew1) | exact HB.out)⟩

/-! ### impl_MouthOk: function 10 -/
def impl_MouthOk.f (k : Nat) (a0_0 : Int) (l0_1 : List Int) (a0_2 : Int) (a0_3 : Int) (l0_4 : List (S60)) : Option (Bool) := (impl_in.f a0_0 0 1000000).bind fun t191 => (if t191 = true then (if (l0_1.length : Int) ≤ 32 then ((impl_in.f a0_2 0 (l0_1.length : Int)).bind fun t192 => (if t192 = true then ((impl_in.f a0_3 0 255).bind fun t193 => (if t193 = true then (if (l0_4.length : Int) ≤ 2 then ((impl_rangesOk.f k l0_4 a0_0 (wrap64 (a0_0 + a0_2))).bind fun t194 => ((impl_Range_37.f k t194 l0_4).bind fun t197 => (some t197))) else (some false)) else (some false))) else (some false))) else (some false)) else (some false))
theorem impl_MouthOk.mono : ∀ a0 a1 a2 a3 a4 k, LeO (impl_MouthOk.f k a0 a1 a2 a3 a4) (impl_MouthOk.f (k + 1) a0 a1 a2 a3 a4) := by
  intro a0 a1 a2 a3 a4 k
  unfold impl_MouthOk.f
  repeat' first
      | (with_reducible exact impl_Range_37.mono _ _ _)
      | (with_reducible exact impl_rangesOk.mono _ _ _ _)
      | (with_reducible exact LeO.refl _)
      | (with_reducible exact LeO.none _)
      | (with_reducible refine LeO.ite ?_ ?_)
      | (with_reducible refine LeO.bind ?_ (fun _ => ?_))
      | exact impl_Range_37.mono _ _ _
      | exact impl_rangesOk.mono _ _ _ _
      | exact LeO.none _
      | refine LeO.ite ?_ ?_
      | refine LeO.bind ?_ (fun _ => ?_)
def impl_MouthOk.T1 : Bool × List (List Nat × List Nat) := (true, [([], []), ([0], [0]), ([1], [1]), ([2, 2], [2]), ([3], [3]), ([4, 3], [3, 4]), ([5, 3], [3, 5]), ([6, 3], [3, 6]), ([3, 7], [3, 7]), ([8, 3], [8]), ([9], [9]), ([10, 9], [9, 10]), ([9], [9]), ([12, 9], [9, 12]), ([13, 9], [9, 13]), ([11, 14, 9, 9], [9, 11, 14]), ([9, 15], [9, 15]), ([16, 15], [16]), ([17], [17]), ([18, 17], [17, 18]), ([19, 17, 17], [17, 19]), ([17, 20], [17, 20]), ([21, 20], [21]), ([22], [22]), ([23, 22], [22, 23]), ([24, 22], [22, 24]), ([25, 22], [22, 25]), ([22, 26], [22, 26]), ([27, 22], [27]), ([28], [28]), ([29, 28], [28, 29]), ([28], [28]), ([31, 28], [28, 31]), ([28], [28]), ([33, 28], [28, 33]), ([28], [28]), ([35, 28], [28, 35]), ([34, 36, 28], [28, 34, 36]), ([30, 32, 37, 28, 28], [28, 30, 32, 37]), ([28], [28]), ([39, 28], [28, 39]), ([38, 40, 38, 28], [28, 38, 40]), ([28, 41], [28, 41]), ([42, 41, 0, 1, 2, 3, 4, 5, 6, 7, 8, 9, 10, 11, 12, 13, 14, 15, 16, 17, 18, 19, 20, 21, 22, 23, 24, 25, 26, 27, 28, 29, 30, 31, 32, 33, 34, 35, 36, 37, 38, 39, 40, 41, 42], [42])])
def impl_MouthOk.B1 : List Nat := [0, 1, 3, 7, 15, 31, 63, 127, 255, 511, 1023, 2047, 1023, 5119, 13311, 32767, 65535, 131071, 262143, 524287, 1048575, 2097151, 4194303, 8388607, 16777215, 33554431, 67108863, 134217727, 268435455, 536870911, 1073741823, 536870911, 2684354559, 536870911, 9126805503, 536870911, 34896609279, 129385889791, 274877906943, 536870911, 550292684799, 2199023255551, 4398046511103, 8796093022207]
theorem impl_MouthOk.tab1 : rtab .any (opsOf Try.f10 1) = impl_MouthOk.T1 := by kernel_rfl
theorem impl_MouthOk.bits1 : waitsOk impl_MouthOk.T1.2 impl_MouthOk.B1 = true := by kernel_rfl
set_option maxHeartbeats 8000000 in
set_option maxRecDepth 100000 in
theorem impl_MouthOk.calls (k : Nat) (a0_0 : Int) (A0_1 : Option Addr) (c0_1 : Nat) (l0_1 : List Int) (a0_2 : Int) (a0_3 : Int) (A0_4 : Option Addr) (c0_4 : Nat) (l0_4 : List (S60)) (r : Bool) (w : World) (hr0_1 : Kd.C (Kd.int .u8) w A0_1 l0_1.length l0_1) (hc0_1 : l0_1.length ≤ c0_1) (hr0_4 : Kd.C k60 w A0_4 l0_4.length l0_4) (hc0_4 : l0_4.length ≤ c0_4) (h : impl_MouthOk.f k a0_0 l0_1 a0_2 a0_3 l0_4 = some r) :
    Calls Try.prog 10 #[.agg #[.int .i64 a0_0, .slice A0_1 l0_1.length c0_1, .int .i64 a0_2, .int .i64 a0_3, .slice A0_4 l0_4.length c0_4]] w fun e w' => e = .returned (.bool r) ∧ Below w.heap.size w w' := by
  have hu25 := Try.underlying25; have HR0_1 := Aside0.mk hr0_1; have HC0_1 := Aside0.mk hc0_1; clear hr0_1 hc0_1; have HR0_4 := Aside0.mk hr0_4; have HC0_4 := Aside0.mk hc0_4; clear hr0_4 hc0_4
  have HB := Aside0.mk (Below.refl w.heap.size w)
  have H : ((impl_in.f a0_0 0 1000000).bind fun t191 => (if t191 = true then (if (l0_1.length : Int) ≤ 32 then ((impl_in.f a0_2 0 (l0_1.length : Int)).bind fun t192 => (if t192 = true then ((impl_in.f a0_3 0 255).bind fun t193 => (if t193 = true then (if (l0_4.length : Int) ≤ 2 then ((impl_rangesOk.f k l0_4 a0_0 (wrap64 (a0_0 + a0_2))).bind fun t194 => ((impl_Range_37.f k t194 l0_4).bind fun t197 => (some t197))) else (some false)) else (some false))) else (some false))) else (some false)) else (some false))) = some r := h
  clear h
  replace H := Option.bind_eq_some_iff.mp H
  obtain ⟨t191, A20, H⟩ := H
  replace H : (if t191 = true then (if (l0_1.length : Int) ≤ 32 then ((impl_in.f a0_2 0 (l0_1.length : Int)).bind fun t192 => (if t192 = true then ((impl_in.f a0_3 0 255).bind fun t193 => (if t193 = true then (if (l0_4.length : Int) ≤ 2 then ((impl_rangesOk.f k l0_4 a0_0 (wrap64 (a0_0 + a0_2))).bind fun t194 => ((impl_Range_37.f k t194 l0_4).bind fun t197 => (some t197))) else (some false)) else (some false))) else (some false))) else (some false)) else (some false)) = some r := H
  have A2 := Aside0.mk A20; clear A20
  by_cases c3 : t191 = true
  · subst c3
    have H1 : (if (l0_1.length : Int) ≤ 32 then ((impl_in.f a0_2 0 (l0_1.length : Int)).bind fun t192 => (if t192 = true then ((impl_in.f a0_3 0 255).bind fun t193 => (if t193 = true then (if (l0_4.length : Int) ≤ 2 then ((impl_rangesOk.f k l0_4 a0_0 (wrap64 (a0_0 + a0_2))).bind fun t194 => ((impl_Range_37.f k t194 l0_4).bind fun t197 => (some t197))) else (some false)) else (some false))) else (some false))) else (some false)) = some r := by rw [if_pos rfl] at H; exact H
    clear H; have H := H1; clear H1
    by_cases c4 : (l0_1.length : Int) ≤ 32
    · rw [if_pos c4] at H
      have c4b0 : decide ((l0_1.length : Int) ≤ 32) = true := decide_eq_true c4
      have c4b1 : decide (l0_1.length ≤ 32) = true := decide_eq_true (by omega)
      clear c4
      replace H := Option.bind_eq_some_iff.mp H
      obtain ⟨t192, A50, H⟩ := H
      replace H : (if t192 = true then ((impl_in.f a0_3 0 255).bind fun t193 => (if t193 = true then (if (l0_4.length : Int) ≤ 2 then ((impl_rangesOk.f k l0_4 a0_0 (wrap64 (a0_0 + a0_2))).bind fun t194 => ((impl_Range_37.f k t194 l0_4).bind fun t197 => (some t197))) else (some false)) else (some false))) else (some false)) = some r := H
      have A5 := Aside0.mk A50; clear A50
      by_cases c6 : t192 = true
      · subst c6
        have H1 : ((impl_in.f a0_3 0 255).bind fun t193 => (if t193 = true then (if (l0_4.length : Int) ≤ 2 then ((impl_rangesOk.f k l0_4 a0_0 (wrap64 (a0_0 + a0_2))).bind fun t194 => ((impl_Range_37.f k t194 l0_4).bind fun t197 => (some t197))) else (some false)) else (some false))) = some r := by rw [if_pos rfl] at H; exact H
        clear H; have H := H1; clear H1
        replace H := Option.bind_eq_some_iff.mp H
        obtain ⟨t193, A70, H⟩ := H
        replace H : (if t193 = true then (if (l0_4.length : Int) ≤ 2 then ((impl_rangesOk.f k l0_4 a0_0 (wrap64 (a0_0 + a0_2))).bind fun t194 => ((impl_Range_37.f k t194 l0_4).bind fun t197 => (some t197))) else (some false)) else (some false)) = some r := H
        have A7 := Aside0.mk A70; clear A70
        by_cases c8 : t193 = true
        · subst c8
          have H1 : (if (l0_4.length : Int) ≤ 2 then ((impl_rangesOk.f k l0_4 a0_0 (wrap64 (a0_0 + a0_2))).bind fun t194 => ((impl_Range_37.f k t194 l0_4).bind fun t197 => (some t197))) else (some false)) = some r := by rw [if_pos rfl] at H; exact H
          clear H; have H := H1; clear H1
          by_cases c9 : (l0_4.length : Int) ≤ 2
          · rw [if_pos c9] at H
            have c9b0 : decide ((l0_4.length : Int) ≤ 2) = true := decide_eq_true c9
            have c9b1 : decide (l0_4.length ≤ 2) = true := decide_eq_true (by omega)
            clear c9
            replace H := Option.bind_eq_some_iff.mp H
            obtain ⟨t194, A100, H⟩ := H
            replace H : ((impl_Range_37.f k t194 l0_4).bind fun t197 => (some t197)) = some r := H
            have A10 := Aside0.mk A100; clear A100
            replace H := Option.bind_eq_some_iff.mp H
            obtain ⟨t197, A110, H⟩ := H
            replace H : (some t197) = some r := H
            have A11 := Aside0.mk A110; clear A110
            obtain rfl := Option.some.inj H
            go_enter Try.func10, Try.ntmps10
            try go_wp2_with (first | ((with_reducible refine gate_dst (N := 1) rfl ?_); (try (refine gate_guard (by rfl) ?_; dsimp only)); refine box_event ?hg (N := 1) ?hd (cs := #[.int .i64 a0_0, .slice A0_1 l0_1.length c0_1, .int .i64 a0_2, .int .i64 a0_3, .slice A0_4 l0_4.length c0_4]) (t := 25) ?hr ?_; (case hd => rfl); (case hg => rfl); (case hr => first | (go_simp; done) | (go_simp; rfl)); intro gb190 hg w12 hbox hb; have n0_ := Aside0.mk (below_step (hb0_ HB.out) hb); have n1_ := Aside0.mk (hbox); have n2_ := Aside0.mk ((by rw [hg]; exact (below_size (hb0_ HB.out)) : w.heap.size ≤ gb190)); have n3_ := Aside0.mk ((by rw [hg]; exact (below_size (hb0_ HB.out)) : w.heap.size ≤ gb190)); clear HB; have HB := n0_; have BK190 := n1_; have GW190 := n2_; have GE190 := n3_; clear n0_ n1_ n2_ n3_; clear hb hbox hg))
            have n0_ := Aside0.mk (blk_drew BK190.out); have n1_ := Aside0.mk (below_drew1 HB.out); clear BK190 HB; have BK190 := n0_; have HB := n1_; clear n0_ n1_
            refine start_ (n := 44) (S := fun w' => w'.cell? ⟨gb190, 0, none⟩ = some (.int .i64 a0_0) ∧ w'.cell? ⟨gb190, 1, none⟩ = some (.slice A0_1 l0_1.length c0_1) ∧ w'.cell? ⟨gb190, 2, none⟩ = some (.int .i64 a0_2) ∧ w'.cell? ⟨gb190, 3, none⟩ = some (.int .i64 a0_3) ∧ w'.cell? ⟨gb190, 4, none⟩ = some (.slice A0_4 l0_4.length c0_4)) (ds := []) #[false, false, false, false, false, false, false, false, false, false, false, false, false, false, false, false, false, false, false, false, false, false, false, false, false, false, false, false, false, false, false, false, false, false, false, false, false, false, false, false, false, false, false, false] (by kernel_rfl) rfl rfl ⟨(blk_cell BK190.out 0).trans rfl, (blk_cell BK190.out 1).trans rfl, (blk_cell BK190.out 2).trans rfl, (blk_cell BK190.out 3).trans rfl, (blk_cell BK190.out 4).trans rfl⟩ (fun hHeld => ?_); refine with_tabW impl_MouthOk.tab1 impl_MouthOk.bits1 (fun HT_ HW_ => ?_)
            generalize w12.drew = w13 at BK190 HB hHeld ⊢
            refine pu_ (i := 0) (N := some 3) HT_ ?_; refine tk_ (i := 1) (N := some 4) HT_ HW_ hHeld ?_
            refine on_ (i := 2) (N := some 5) HT_ (fun K hK => ?_)
            refine goes_ Try.func36 (by kernel_rfl) rfl #[.int .i64 a0_0, .int .i64 0, .int .i64 1000000] (by rfl) rfl rfl ar_ ?_
            with_reducible refine (impl_in.calls a0_0 0 1000000 true _ A2.out).mono ?_
            rintro e w' ⟨rfl, ⟨nd, rfl⟩⟩
            refine ⟨_, rfl, ?_⟩
            refine hK.out _ _ ⟨(blk_cell BK190.out 0).trans rfl, (blk_cell BK190.out 1).trans rfl, (blk_cell BK190.out 2).trans rfl, (blk_cell BK190.out 3).trans rfl, (blk_cell BK190.out 4).trans rfl⟩ (fun hHeld => ?_)
            clear hK K; refine nm_ 5 ?_; refine pu_ (i := 3) (N := some 6) HT_ ?_; refine pu_ (i := 4) (N := some 7) HT_ ?_; refine tk_ (i := 5) (N := some 8) HT_ HW_ hHeld ?_; refine pu_ (i := 6) (N := some 9) HT_ ?_; refine pu_ (i := 7) (N := some 10) HT_ ?_; refine pu_ (i := 8) (N := some 11) HT_ ?_; refine pu_ (i := 9) (N := some 12) HT_ ?_; refine pu_ (i := 10) (N := some 13) HT_ ?_; refine pu_ (i := 12) (N := some 15) HT_ ?_; refine tk_ (i := 11) (N := some 14) HT_ HW_ hHeld ?_; refine tk_ (i := 13) (N := some 16) HT_ HW_ hHeld ?_; refine pu_ (i := 14) (N := some 17) HT_ ?_
            refine on_ (i := 15) (N := some 18) HT_ (fun K hK => ?_)
            refine goes_ Try.func36 (by kernel_rfl) rfl #[.int .i64 a0_2, .int .i64 0, .int .i64 (l0_1.length : Int)] (by rfl) rfl rfl ar_ ?_
            with_reducible refine (impl_in.calls a0_2 0 (l0_1.length : Int) true _ A5.out).mono ?_
            rintro e w' ⟨rfl, ⟨nd, rfl⟩⟩
            refine ⟨_, rfl, ?_⟩
            refine hK.out _ _ ⟨(blk_cell BK190.out 0).trans rfl, (blk_cell BK190.out 1).trans rfl, (blk_cell BK190.out 2).trans rfl, (blk_cell BK190.out 3).trans rfl, (blk_cell BK190.out 4).trans rfl⟩ (fun hHeld => ?_)
            clear hK K; refine nm_ 18 ?_; refine pu_ (i := 16) (N := some 19) HT_ ?_; refine pu_ (i := 17) (N := some 20) HT_ ?_; refine pu_ (i := 18) (N := some 21) HT_ ?_; refine tk_ (i := 19) (N := some 22) HT_ HW_ hHeld ?_
            refine on_ (i := 20) (N := some 23) HT_ (fun K hK => ?_)
            refine goes_ Try.func36 (by kernel_rfl) rfl #[.int .i64 a0_3, .int .i64 0, .int .i64 255] (by rfl) rfl rfl ar_ ?_
            with_reducible refine (impl_in.calls a0_3 0 255 true _ A7.out).mono ?_
            rintro e w' ⟨rfl, ⟨nd, rfl⟩⟩
            refine ⟨_, rfl, ?_⟩
            refine hK.out _ _ ⟨(blk_cell BK190.out 0).trans rfl, (blk_cell BK190.out 1).trans rfl, (blk_cell BK190.out 2).trans rfl, (blk_cell BK190.out 3).trans rfl, (blk_cell BK190.out 4).trans rfl⟩ (fun hHeld => ?_)
            clear hK K; refine nm_ 23 ?_; refine pu_ (i := 21) (N := some 24) HT_ ?_; refine pu_ (i := 22) (N := some 25) HT_ ?_; refine pu_ (i := 23) (N := some 26) HT_ ?_; refine tk_ (i := 24) (N := some 27) HT_ HW_ hHeld ?_; refine pu_ (i := 25) (N := some 28) HT_ ?_; refine pu_ (i := 26) (N := some 29) HT_ ?_; refine pu_ (i := 27) (N := some 30) HT_ ?_; refine pu_ (i := 28) (N := some 31) HT_ ?_; refine pu_ (i := 29) (N := some 32) HT_ ?_; refine pu_ (i := 31) (N := some 34) HT_ ?_; refine pu_ (i := 33) (N := some 36) HT_ ?_; refine pu_ (i := 35) (N := some 38) HT_ ?_; refine pu_ (i := 39) (N := some 42) HT_ ?_; refine tk_ (i := 30) (N := some 33) HT_ HW_ hHeld ?_; refine tk_ (i := 32) (N := some 35) HT_ HW_ hHeld ?_; refine tk_ (i := 34) (N := some 37) HT_ HW_ hHeld ?_; refine tk_ (i := 36) (N := some 39) HT_ HW_ hHeld ?_; refine pu_ (i := 37) (N := some 40) HT_ ?_; refine tk_ (i := 40) (N := some 43) HT_ HW_ hHeld ?_
            refine on_ (i := 38) (N := some 41) HT_ (fun K hK => ?_)
            refine goes_ Try.func38 (by kernel_rfl) rfl #[.slice A0_4 l0_4.length c0_4, .int .i64 a0_0, .int .i64 (wrap64 (a0_0 + a0_2))] (by rfl) rfl rfl ar_ ?_
            with_reducible refine (impl_rangesOk.calls k _ _ l0_4 a0_0 (wrap64 (a0_0 + a0_2)) t194 _ ?side1 ?side2 A10.out).mono ?_
            (case side1 => exact kC_ (Kd.C_below HR0_4.out (hb1_ HB.out GE190.out)))
            (case side2 => exact HC0_4.out)
            rintro e w14 ⟨v195, rfl, ho0, hb⟩
            refine ⟨_, rfl, ?_⟩
            have n0_ := Aside0.mk (Kd.R_lower ho0 (below_size (hb1_ HB.out GE190.out))); have n1_ := Aside0.mk (blk_below (g := gb190) (o := .cells #[.int .i64 a0_0, .slice A0_1 l0_1.length c0_1, .int .i64 a0_2, .int .i64 a0_3, .slice A0_4 l0_4.length c0_4] 25 (0, 0)) (kb_ BK190.out) hb); have n2_ := Aside0.mk (below_step (hb1_ HB.out GE190.out) hb); clear BK190 HB; have HO196 := n0_; have BK190 := n1_; have HB := n2_; clear n0_ n1_ n2_; (try clear hb); (try clear hb2); (try clear hk); (try clear hi); (try clear ho0)
            obtain ⟨Ao15, co15, eo15⟩ := Kd.R_slice HO196.out
            (first | subst eo15 | (injection eo15 with f1_ f2_ f3_; have f4_ := f1_.symm; have f5_ := f3_.symm; clear f1_ f2_ f3_; subst f4_; subst f5_))
            refine hK.out _ _ ⟨(blk_cell BK190.out 0).trans rfl, (blk_cell BK190.out 1).trans rfl, (blk_cell BK190.out 2).trans rfl, (blk_cell BK190.out 3).trans rfl, (blk_cell BK190.out 4).trans rfl⟩ (fun hHeld => ?_)
            clear hK K; refine nm_ 41 ?_
            refine on_ (i := 41) (N := some 44) HT_ (fun K hK => ?_)
            refine goes_ Try.func37 (by kernel_rfl) rfl #[.slice Ao15 t194.length co15, .slice A0_4 l0_4.length c0_4] (by rfl) rfl rfl ar_ ?_
            with_reducible refine (impl_Range_37.calls k _ _ t194 _ _ l0_4 t197 _ ?side1 ?side2 ?side3 ?side4 A11.out).mono ?_
            (case side1 => exact kC_ (Kd.R_reads' HO196.out).2.2)
            (case side2 => exact (Kd.R_reads' HO196.out).2.1)
            (case side3 => exact kC_ (Kd.C_below HR0_4.out HB.out))
            (case side4 => exact HC0_4.out)
            rintro e w' ⟨rfl, ⟨nd, rfl⟩⟩
            refine ⟨_, rfl, ?_⟩
            refine hK.out _ _ ⟨(blk_cell BK190.out 0).trans rfl, (blk_cell BK190.out 1).trans rfl, (blk_cell BK190.out 2).trans rfl, (blk_cell BK190.out 3).trans rfl, (blk_cell BK190.out 4).trans rfl⟩ (fun hHeld => ?_)
            clear hK K; refine nm_ 44 ?_; refine pu_ (i := 42) (N := some 45) HT_ ?_; refine pu_ (i := 43) (N := some 2) HT_ ?_
            refine done_ (done_of HT_.out (by kernel_rfl)) ?_
            try go_wp2
            go_ret
            exact ⟨by first | rfl | (simp [errW_none, errW_some] <;> rfl) | (simp [*, errW_none, errW_some] <;> rfl), by repeat (first | (with_reducible first | exact HB.out | apply below_alloc | apply pw_below_drewN | apply below_drew1 | refine below_set ?_ GE190.out) | exact HB.out)⟩
          · rw [if_neg c9] at H
            have c9b0 : decide ((l0_4.length : Int) ≤ 2) = false := decide_eq_false c9
            have c9b1 : decide (l0_4.length ≤ 2) = false := decide_eq_false (by omega)
            clear c9
            obtain rfl := Option.some.inj H
            go_enter Try.func10, Try.ntmps10
            try go_wp2_with (first | ((with_reducible refine gate_dst (N := 1) rfl ?_); (try (refine gate_guard (by rfl) ?_; dsimp only)); refine box_event ?hg (N := 1) ?hd (cs := #[.int .i64 a0_0, .slice A0_1 l0_1.length c0_1, .int .i64 a0_2, .int .i64 a0_3, .slice A0_4 l0_4.length c0_4]) (t := 25) ?hr ?_; (case hd => rfl); (case hg => rfl); (case hr => first | (go_simp; done) | (go_simp; rfl)); intro gb190 hg w16 hbox hb; have n0_ := Aside0.mk (below_step (hb0_ HB.out) hb); have n1_ := Aside0.mk (hbox); have n2_ := Aside0.mk ((by rw [hg]; exact (below_size (hb0_ HB.out)) : w.heap.size ≤ gb190)); have n3_ := Aside0.mk ((by rw [hg]; exact (below_size (hb0_ HB.out)) : w.heap.size ≤ gb190)); clear HB; have HB := n0_; have BK190 := n1_; have GW190 := n2_; have GE190 := n3_; clear n0_ n1_ n2_ n3_; clear hb hbox hg))
            have n0_ := Aside0.mk (blk_drew BK190.out); have n1_ := Aside0.mk (below_drew1 HB.out); clear BK190 HB; have BK190 := n0_; have HB := n1_; clear n0_ n1_
            refine start_ (n := 44) (S := fun w' => w'.cell? ⟨gb190, 0, none⟩ = some (.int .i64 a0_0) ∧ w'.cell? ⟨gb190, 1, none⟩ = some (.slice A0_1 l0_1.length c0_1) ∧ w'.cell? ⟨gb190, 2, none⟩ = some (.int .i64 a0_2) ∧ w'.cell? ⟨gb190, 3, none⟩ = some (.int .i64 a0_3) ∧ w'.cell? ⟨gb190, 4, none⟩ = some (.slice A0_4 l0_4.length c0_4)) (ds := []) #[false, false, false, false, false, false, false, false, false, false, false, false, false, false, false, false, false, false, false, false, false, false, false, false, false, false, false, false, false, false, false, false, false, false, false, false, false, false, false, false, false, false, false, false] (by kernel_rfl) rfl rfl ⟨(blk_cell BK190.out 0).trans rfl, (blk_cell BK190.out 1).trans rfl, (blk_cell BK190.out 2).trans rfl, (blk_cell BK190.out 3).trans rfl, (blk_cell BK190.out 4).trans rfl⟩ (fun hHeld => ?_); refine with_tabW impl_MouthOk.tab1 impl_MouthOk.bits1 (fun HT_ HW_ => ?_)
            generalize w16.drew = w17 at BK190 HB hHeld ⊢
            refine pu_ (i := 0) (N := some 3) HT_ ?_; refine tk_ (i := 1) (N := some 4) HT_ HW_ hHeld ?_
            refine on_ (i := 2) (N := some 5) HT_ (fun K hK => ?_)
            refine goes_ Try.func36 (by kernel_rfl) rfl #[.int .i64 a0_0, .int .i64 0, .int .i64 1000000] (by rfl) rfl rfl ar_ ?_
            with_reducible refine (impl_in.calls a0_0 0 1000000 true _ A2.out).mono ?_
            rintro e w' ⟨rfl, ⟨nd, rfl⟩⟩
            refine ⟨_, rfl, ?_⟩
            refine hK.out _ _ ⟨(blk_cell BK190.out 0).trans rfl, (blk_cell BK190.out 1).trans rfl, (blk_cell BK190.out 2).trans rfl, (blk_cell BK190.out 3).trans rfl, (blk_cell BK190.out 4).trans rfl⟩ (fun hHeld => ?_)
            clear hK K; refine nm_ 5 ?_; refine pu_ (i := 3) (N := some 6) HT_ ?_; refine pu_ (i := 4) (N := some 7) HT_ ?_; refine tk_ (i := 5) (N := some 8) HT_ HW_ hHeld ?_; refine pu_ (i := 6) (N := some 9) HT_ ?_; refine pu_ (i := 7) (N := some 10) HT_ ?_; refine pu_ (i := 8) (N := some 11) HT_ ?_; refine pu_ (i := 9) (N := some 12) HT_ ?_; refine pu_ (i := 10) (N := some 13) HT_ ?_; refine pu_ (i := 12) (N := some 15) HT_ ?_; refine tk_ (i := 11) (N := some 14) HT_ HW_ hHeld ?_; refine tk_ (i := 13) (N := some 16) HT_ HW_ hHeld ?_; refine pu_ (i := 14) (N := some 17) HT_ ?_
            refine on_ (i := 15) (N := some 18) HT_ (fun K hK => ?_)
            refine goes_ Try.func36 (by kernel_rfl) rfl #[.int .i64 a0_2, .int .i64 0, .int .i64 (l0_1.length : Int)] (by rfl) rfl rfl ar_ ?_
            with_reducible refine (impl_in.calls a0_2 0 (l0_1.length : Int) true _ A5.out).mono ?_
            rintro e w' ⟨rfl, ⟨nd, rfl⟩⟩
            refine ⟨_, rfl, ?_⟩
            refine hK.out _ _ ⟨(blk_cell BK190.out 0).trans rfl, (blk_cell BK190.out 1).trans rfl, (blk_cell BK190.out 2).trans rfl, (blk_cell BK190.out 3).trans rfl, (blk_cell BK190.out 4).trans rfl⟩ (fun hHeld => ?_)
            clear hK K; refine nm_ 18 ?_; refine pu_ (i := 16) (N := some 19) HT_ ?_; refine pu_ (i := 17) (N := some 20) HT_ ?_; refine pu_ (i := 18) (N := some 21) HT_ ?_; refine tk_ (i := 19) (N := some 22) HT_ HW_ hHeld ?_
            refine on_ (i := 20) (N := some 23) HT_ (fun K hK => ?_)
            refine goes_ Try.func36 (by kernel_rfl) rfl #[.int .i64 a0_3, .int .i64 0, .int .i64 255] (by rfl) rfl rfl ar_ ?_
            with_reducible refine (impl_in.calls a0_3 0 255 true _ A7.out).mono ?_
            rintro e w' ⟨rfl, ⟨nd, rfl⟩⟩
            refine ⟨_, rfl, ?_⟩
            refine hK.out _ _ ⟨(blk_cell BK190.out 0).trans rfl, (blk_cell BK190.out 1).trans rfl, (blk_cell BK190.out 2).trans rfl, (blk_cell BK190.out 3).trans rfl, (blk_cell BK190.out 4).trans rfl⟩ (fun hHeld => ?_)
            clear hK K; refine nm_ 23 ?_; refine pu_ (i := 21) (N := some 24) HT_ ?_; refine pu_ (i := 22) (N := some 25) HT_ ?_; refine pu_ (i := 23) (N := some 26) HT_ ?_; refine tk_ (i := 24) (N := some 27) HT_ HW_ hHeld ?_; refine pu_ (i := 25) (N := some 28) HT_ ?_; refine pu_ (i := 26) (N := some 29) HT_ ?_; refine pu_ (i := 27) (N := some 30) HT_ ?_; refine pu_ (i := 28) (N := some 31) HT_ ?_; refine pn_ (i := 29) (N := some 32) HT_ ?_; refine pn_ (i := 30) (N := some 33) HT_ ?_; refine pn_ (i := 31) (N := some 34) HT_ ?_; refine pn_ (i := 32) (N := some 35) HT_ ?_; refine pn_ (i := 33) (N := some 36) HT_ ?_; refine pn_ (i := 34) (N := some 37) HT_ ?_; refine pn_ (i := 35) (N := some 38) HT_ ?_; refine pn_ (i := 36) (N := some 39) HT_ ?_; refine pn_ (i := 37) (N := some 40) HT_ ?_; refine pn_ (i := 38) (N := some 41) HT_ ?_; refine pn_ (i := 39) (N := some 42) HT_ ?_; refine pn_ (i := 40) (N := some 43) HT_ ?_; refine pn_ (i := 41) (N := some 44) HT_ ?_; refine pu_ (i := 42) (N := some 45) HT_ ?_; refine pu_ (i := 43) (N := some 2) HT_ ?_
            refine done_ (done_of HT_.out (by kernel_rfl)) ?_
            try go_wp2
            go_ret
            exact ⟨by first | rfl | (simp [errW_none, errW_some] <;> rfl) | (simp [*, errW_none, errW_some] <;> rfl), by repeat (first | (with_reducible first | exact HB.out | apply below_alloc | apply pw_below_drewN | apply below_drew1 | refine below_set ?_ GE190.out) | exact HB.out)⟩
        · replace c8 := Bool.eq_false_iff.mpr c8
          subst c8
          have H1 : (some false) = some r := by rw [if_neg (show ¬ (false = true) by decide)] at H; exact H
          clear H; have H := H1; clear H1
          obtain rfl := Option.some.inj H
          go_enter Try.func10, Try.ntmps10
          try go_wp2_with (first | ((with_reducible refine gate_dst (N := 1) rfl ?_); (try (refine gate_guard (by rfl) ?_; dsimp only)); refine box_event ?hg (N := 1) ?hd (cs := #[.int .i64 a0_0, .slice A0_1 l0_1.length c0_1, .int .i64 a0_2, .int .i64 a0_3, .slice A0_4 l0_4.length c0_4]) (t := 25) ?hr ?_; (case hd => rfl); (case hg => rfl); (case hr => first | (go_simp; done) | (go_simp; rfl)); intro gb190 hg w18 hbox hb; have n0_ := Aside0.mk (below_step (hb0_ HB.out) hb); have n1_ := Aside0.mk (hbox); have n2_ := Aside0.mk ((by rw [hg]; exact (below_size (hb0_ HB.out)) : w.heap.size ≤ gb190)); have n3_ := Aside0.mk ((by rw [hg]; exact (below_size (hb0_ HB.out)) : w.heap.size ≤ gb190)); clear HB; have HB := n0_; have BK190 := n1_; have GW190 := n2_; have GE190 := n3_; clear n0_ n1_ n2_ n3_; clear hb hbox hg))
          have n0_ := Aside0.mk (blk_drew BK190.out); have n1_ := Aside0.mk (below_drew1 HB.out); clear BK190 HB; have BK190 := n0_; have HB := n1_; clear n0_ n1_
          refine start_ (n := 44) (S := fun w' => w'.cell? ⟨gb190, 0, none⟩ = some (.int .i64 a0_0) ∧ w'.cell? ⟨gb190, 1, none⟩ = some (.slice A0_1 l0_1.length c0_1) ∧ w'.cell? ⟨gb190, 2, none⟩ = some (.int .i64 a0_2) ∧ w'.cell? ⟨gb190, 3, none⟩ = some (.int .i64 a0_3) ∧ w'.cell? ⟨gb190, 4, none⟩ = some (.slice A0_4 l0_4.length c0_4)) (ds := []) #[false, false, false, false, false, false, false, false, false, false, false, false, false, false, false, false, false, false, false, false, false, false, false, false, false, false, false, false, false, false, false, false, false, false, false, false, false, false, false, false, false, false, false, false] (by kernel_rfl) rfl rfl ⟨(blk_cell BK190.out 0).trans rfl, (blk_cell BK190.out 1).trans rfl, (blk_cell BK190.out 2).trans rfl, (blk_cell BK190.out 3).trans rfl, (blk_cell BK190.out 4).trans rfl⟩ (fun hHeld => ?_); refine with_tabW impl_MouthOk.tab1 impl_MouthOk.bits1 (fun HT_ HW_ => ?_)
          generalize w18.drew = w19 at BK190 HB hHeld ⊢
          refine pu_ (i := 0) (N := some 3) HT_ ?_; refine tk_ (i := 1) (N := some 4) HT_ HW_ hHeld ?_
          refine on_ (i := 2) (N := some 5) HT_ (fun K hK => ?_)
          refine goes_ Try.func36 (by kernel_rfl) rfl #[.int .i64 a0_0, .int .i64 0, .int .i64 1000000] (by rfl) rfl rfl ar_ ?_
          with_reducible refine (impl_in.calls a0_0 0 1000000 true _ A2.out).mono ?_
          rintro e w' ⟨rfl, ⟨nd, rfl⟩⟩
          refine ⟨_, rfl, ?_⟩
          refine hK.out _ _ ⟨(blk_cell BK190.out 0).trans rfl, (blk_cell BK190.out 1).trans rfl, (blk_cell BK190.out 2).trans rfl, (blk_cell BK190.out 3).trans rfl, (blk_cell BK190.out 4).trans rfl⟩ (fun hHeld => ?_)
          clear hK K; refine nm_ 5 ?_; refine pu_ (i := 3) (N := some 6) HT_ ?_; refine pu_ (i := 4) (N := some 7) HT_ ?_; refine tk_ (i := 5) (N := some 8) HT_ HW_ hHeld ?_; refine pu_ (i := 6) (N := some 9) HT_ ?_; refine pu_ (i := 7) (N := some 10) HT_ ?_; refine pu_ (i := 8) (N := some 11) HT_ ?_; refine pu_ (i := 9) (N := some 12) HT_ ?_; refine pu_ (i := 10) (N := some 13) HT_ ?_; refine pu_ (i := 12) (N := some 15) HT_ ?_; refine tk_ (i := 11) (N := some 14) HT_ HW_ hHeld ?_; refine tk_ (i := 13) (N := some 16) HT_ HW_ hHeld ?_; refine pu_ (i := 14) (N := some 17) HT_ ?_
          refine on_ (i := 15) (N := some 18) HT_ (fun K hK => ?_)
          refine goes_ Try.func36 (by kernel_rfl) rfl #[.int .i64 a0_2, .int .i64 0, .int .i64 (l0_1.length : Int)] (by rfl) rfl rfl ar_ ?_
          with_reducible refine (impl_in.calls a0_2 0 (l0_1.length : Int) true _ A5.out).mono ?_
          rintro e w' ⟨rfl, ⟨nd, rfl⟩⟩
          refine ⟨_, rfl, ?_⟩
          refine hK.out _ _ ⟨(blk_cell BK190.out 0).trans rfl, (blk_cell BK190.out 1).trans rfl, (blk_cell BK190.out 2).trans rfl, (blk_cell BK190.out 3).trans rfl, (blk_cell BK190.out 4).trans rfl⟩ (fun hHeld => ?_)
          clear hK K; refine nm_ 18 ?_; refine pu_ (i := 16) (N := some 19) HT_ ?_; refine pu_ (i := 17) (N := some 20) HT_ ?_; refine pu_ (i := 18) (N := some 21) HT_ ?_; refine tk_ (i := 19) (N := some 22) HT_ HW_ hHeld ?_
          refine on_ (i := 20) (N := some 23) HT_ (fun K hK => ?_)
          refine goes_ Try.func36 (by kernel_rfl) rfl #[.int .i64 a0_3, .int .i64 0, .int .i64 255] (by rfl) rfl rfl ar_ ?_
          with_reducible refine (impl_in.calls a0_3 0 255 false _ A7.out).mono ?_
          rintro e w' ⟨rfl, ⟨nd, rfl⟩⟩
          refine ⟨_, rfl, ?_⟩
          refine hK.out _ _ ⟨(blk_cell BK190.out 0).trans rfl, (blk_cell BK190.out 1).trans rfl, (blk_cell BK190.out 2).trans rfl, (blk_cell BK190.out 3).trans rfl, (blk_cell BK190.out 4).trans rfl⟩ (fun hHeld => ?_)
          clear hK K; refine nm_ 23 ?_; refine pu_ (i := 21) (N := some 24) HT_ ?_; refine pu_ (i := 22) (N := some 25) HT_ ?_; refine pn_ (i := 23) (N := some 26) HT_ ?_; refine pn_ (i := 24) (N := some 27) HT_ ?_; refine pn_ (i := 25) (N := some 28) HT_ ?_; refine pn_ (i := 26) (N := some 29) HT_ ?_; refine pu_ (i := 27) (N := some 30) HT_ ?_; refine pu_ (i := 28) (N := some 31) HT_ ?_; refine pn_ (i := 29) (N := some 32) HT_ ?_; refine pn_ (i := 30) (N := some 33) HT_ ?_; refine pn_ (i := 31) (N := some 34) HT_ ?_; refine pn_ (i := 32) (N := some 35) HT_ ?_; refine pn_ (i := 33) (N := some 36) HT_ ?_; refine pn_ (i := 34) (N := some 37) HT_ ?_; refine pn_ (i := 35) (N := some 38) HT_ ?_; refine pn_ (i := 36) (N := some 39) HT_ ?_; refine pn_ (i := 37) (N := some 40) HT_ ?_; refine pn_ (i := 38) (N := some 41) HT_ ?_; refine pn_ (i := 39) (N := some 42) HT_ ?_; refine pn_ (i := 40) (N := some 43) HT_ ?_; refine pn_ (i := 41) (N := some 44) HT_ ?_; refine pu_ (i := 42) (N := some 45) HT_ ?_; refine pu_ (i := 43) (N := some 2) HT_ ?_
          refine done_ (done_of HT_.out (by kernel_rfl)) ?_
          try go_wp2
          go_ret
          exact ⟨by first | rfl | (simp [errW_none, errW_some] <;> rfl) | (simp [*, errW_none, errW_some] <;> rfl), by repeat (first | (with_reducible first | exact HB.out | apply below_alloc | apply pw_below_drewN | apply below_drew1 | refine below_set ?_ GE190.out) | exact HB.out)⟩
      · replace c6 := Bool.eq_false_iff.mpr c6
        subst c6
        have H1 : (some false) = some r := by rw [if_neg (show ¬ (false = true) by decide)] at H; exact H
        clear H; have H := H1; clear H1
        obtain rfl := Option.some.inj H
        go_enter Try.func10, Try.ntmps10
        try go_wp2_with (first | ((with_reducible refine gate_dst (N := 1) rfl ?_); (try (refine gate_guard (by rfl) ?_; dsimp only)); refine box_event ?hg (N := 1) ?hd (cs := #[.int .i64 a0_0, .slice A0_1 l0_1.length c0_1, .int .i64 a0_2, .int .i64 a0_3, .slice A0_4 l0_4.length c0_4]) (t := 25) ?hr ?_; (case hd => rfl); (case hg => rfl); (case hr => first | (go_simp; done) | (go_simp; rfl)); intro gb190 hg w20 hbox hb; have n0_ := Aside0.mk (below_step (hb0_ HB.out) hb); have n1_ := Aside0.mk (hbox); have n2_ := Aside0.mk ((by rw [hg]; exact (below_size (hb0_ HB.out)) : w.heap.size ≤ gb190)); have n3_ := Aside0.mk ((by rw [hg]; exact (below_size (hb0_ HB.out)) : w.heap.size ≤ gb190)); clear HB; have HB := n0_; have BK190 := n1_; have GW190 := n2_; have GE190 := n3_; clear n0_ n1_ n2_ n3_; clear hb hbox hg))
        have n0_ := Aside0.mk (blk_drew BK190.out); have n1_ := Aside0.mk (below_drew1 HB.out); clear BK190 HB; have BK190 := n0_; have HB := n1_; clear n0_ n1_
        refine start_ (n := 44) (S := fun w' => w'.cell? ⟨gb190, 0, none⟩ = some (.int .i64 a0_0) ∧ w'.cell? ⟨gb190, 1, none⟩ = some (.slice A0_1 l0_1.length c0_1) ∧ w'.cell? ⟨gb190, 2, none⟩ = some (.int .i64 a0_2) ∧ w'.cell? ⟨gb190, 3, none⟩ = some (.int .i64 a0_3) ∧ w'.cell? ⟨gb190, 4, none⟩ = some (.slice A0_4 l0_4.length c0_4)) (ds := []) #[false, false, false, false, false, false, false, false, false, false, false, false, false, false, false, false, false, false, false, false, false, false, false, false, false, false, false, false, false, false, false, false, false, false, false, false, false, false, false, false, false, false, false, false] (by kernel_rfl) rfl rfl ⟨(blk_cell BK190.out 0).trans rfl, (blk_cell BK190.out 1).trans rfl, (blk_cell BK190.out 2).trans rfl, (blk_cell BK190.out 3).trans rfl, (blk_cell BK190.out 4).trans rfl⟩ (fun hHeld => ?_); refine with_tabW impl_MouthOk.tab1 impl_MouthOk.bits1 (fun HT_ HW_ => ?_)
        generalize w20.drew = w21 at BK190 HB hHeld ⊢
        refine pu_ (i := 0) (N := some 3) HT_ ?_; refine tk_ (i := 1) (N := some 4) HT_ HW_ hHeld ?_
        refine on_ (i := 2) (N := some 5) HT_ (fun K hK => ?_)
        refine goes_ Try.func36 (by kernel_rfl) rfl #[.int .i64 a0_0, .int .i64 0, .int .i64 1000000] (by rfl) rfl rfl ar_ ?_
        with_reducible refine (impl_in.calls a0_0 0 1000000 true _ A2.out).mono ?_
        rintro e w' ⟨rfl, ⟨nd, rfl⟩⟩
        refine ⟨_, rfl, ?_⟩
        refine hK.out _ _ ⟨(blk_cell BK190.out 0).trans rfl, (blk_cell BK190.out 1).trans rfl, (blk_cell BK190.out 2).trans rfl, (blk_cell BK190.out 3).trans rfl, (blk_cell BK190.out 4).trans rfl⟩ (fun hHeld => ?_)
        clear hK K; refine nm_ 5 ?_; refine pu_ (i := 3) (N := some 6) HT_ ?_; refine pu_ (i := 4) (N := some 7) HT_ ?_; refine tk_ (i := 5) (N := some 8) HT_ HW_ hHeld ?_; refine pu_ (i := 6) (N := some 9) HT_ ?_; refine pu_ (i := 7) (N := some 10) HT_ ?_; refine pu_ (i := 8) (N := some 11) HT_ ?_; refine pu_ (i := 9) (N := some 12) HT_ ?_; refine pu_ (i := 10) (N := some 13) HT_ ?_; refine pu_ (i := 12) (N := some 15) HT_ ?_; refine tk_ (i := 11) (N := some 14) HT_ HW_ hHeld ?_; refine tk_ (i := 13) (N := some 16) HT_ HW_ hHeld ?_; refine pu_ (i := 14) (N := some 17) HT_ ?_
        refine on_ (i := 15) (N := some 18) HT_ (fun K hK => ?_)
        refine goes_ Try.func36 (by kernel_rfl) rfl #[.int .i64 a0_2, .int .i64 0, .int .i64 (l0_1.length : Int)] (by rfl) rfl rfl ar_ ?_
        with_reducible refine (impl_in.calls a0_2 0 (l0_1.length : Int) false _ A5.out).mono ?_
        rintro e w' ⟨rfl, ⟨nd, rfl⟩⟩
        refine ⟨_, rfl, ?_⟩
        refine hK.out _ _ ⟨(blk_cell BK190.out 0).trans rfl, (blk_cell BK190.out 1).trans rfl, (blk_cell BK190.out 2).trans rfl, (blk_cell BK190.out 3).trans rfl, (blk_cell BK190.out 4).trans rfl⟩ (fun hHeld => ?_)
        clear hK K; refine nm_ 18 ?_; refine pu_ (i := 16) (N := some 19) HT_ ?_; refine pu_ (i := 17) (N := some 20) HT_ ?_; refine pn_ (i := 18) (N := some 21) HT_ ?_; refine pn_ (i := 19) (N := some 22) HT_ ?_; refine pn_ (i := 20) (N := some 23) HT_ ?_; refine pu_ (i := 21) (N := some 24) HT_ ?_; refine pu_ (i := 22) (N := some 25) HT_ ?_; refine pn_ (i := 23) (N := some 26) HT_ ?_; refine pn_ (i := 24) (N := some 27) HT_ ?_; refine pn_ (i := 25) (N := some 28) HT_ ?_; refine pn_ (i := 26) (N := some 29) HT_ ?_; refine pu_ (i := 27) (N := some 30) HT_ ?_; refine pu_ (i := 28) (N := some 31) HT_ ?_; refine pn_ (i := 29) (N := some 32) HT_ ?_; refine pn_ (i := 30) (N := some 33) HT_ ?_; refine pn_ (i := 31) (N := some 34) HT_ ?_; refine pn_ (i := 32) (N := some 35) HT_ ?_; refine pn_ (i := 33) (N := some 36) HT_ ?_; refine pn_ (i := 34) (N := some 37) HT_ ?_; refine pn_ (i := 35) (N := some 38) HT_ ?_; refine pn_ (i := 36) (N := some 39) HT_ ?_; refine pn_ (i := 37) (N := some 40) HT_ ?_; refine pn_ (i := 38) (N := some 41) HT_ ?_; refine pn_ (i := 39) (N := some 42) HT_ ?_; refine pn_ (i := 40) (N := some 43) HT_ ?_; refine pn_ (i := 41) (N := some 44) HT_ ?_; refine pu_ (i := 42) (N := some 45) HT_ ?_; refine pu_ (i := 43) (N := some 2) HT_ ?_
        refine done_ (done_of HT_.out (by kernel_rfl)) ?_
        try go_wp2
        go_ret
        exact ⟨by first | rfl | (simp [errW_none, errW_some] <;> rfl) | (simp [*, errW_none, errW_some] <;> rfl), by repeat (first | (with_reducible first | exact HB.out | apply below_alloc | apply pw_below_drewN | apply below_drew1 | refine below_set ?_ GE190.out) | exact HB.out)⟩
    · rw [if_neg c4] at H
      have c4b0 : decide ((l0_1.length : Int) ≤ 32) = false := decide_eq_false c4
      have c4b1 : decide (l0_1.length ≤ 32) = false := decide_eq_false (by omega)
      clear c4
      obtain rfl := Option.some.inj H
      go_enter Try.func10, Try.ntmps10
      try go_wp2_with (first | ((with_reducible refine gate_dst (N := 1) rfl ?_); (try (refine gate_guard (by rfl) ?_; dsimp only)); refine box_event ?hg (N := 1) ?hd (cs := #[.int .i64 a0_0, .slice A0_1 l0_1.length c0_1, .int .i64 a0_2, .int .i64 a0_3, .slice A0_4 l0_4.length c0_4]) (t := 25) ?hr ?_; (case hd => rfl); (case hg => rfl); (case hr => first | (go_simp; done) | (go_simp; rfl)); intro gb190 hg w22 hbox hb; have n0_ := Aside0.mk (below_step (hb0_ HB.out) hb); have n1_ := Aside0.mk (hbox); have n2_ := Aside0.mk ((by rw [hg]; exact (below_size (hb0_ HB.out)) : w.heap.size ≤ gb190)); have n3_ := Aside0.mk ((by rw [hg]; exact (below_size (hb0_ HB.out)) : w.heap.size ≤ gb190)); clear HB; have HB := n0_; have BK190 := n1_; have GW190 := n2_; have GE190 := n3_; clear n0_ n1_ n2_ n3_; clear hb hbox hg))
      have n0_ := Aside0.mk (blk_drew BK190.out); have n1_ := Aside0.mk (below_drew1 HB.out); clear BK190 HB; have BK190 := n0_; have HB := n1_; clear n0_ n1_
      refine start_ (n := 44) (S := fun w' => w'.cell? ⟨gb190, 0, none⟩ = some (.int .i64 a0_0) ∧ w'.cell? ⟨gb190, 1, none⟩ = some (.slice A0_1 l0_1.length c0_1) ∧ w'.cell? ⟨gb190, 2, none⟩ = some (.int .i64 a0_2) ∧ w'.cell? ⟨gb190, 3, none⟩ = some (.int .i64 a0_3) ∧ w'.cell? ⟨gb190, 4, none⟩ = some (.slice A0_4 l0_4.length c0_4)) (ds := []) #[false, false, false, false, false, false, false, false, false, false, false, false, false, false, false, false, false, false, false, false, false, false, false, false, false, false, false, false, false, false, false, false, false, false, false, false, false, false, false, false, false, false, false, false] (by kernel_rfl) rfl rfl ⟨(blk_cell BK190.out 0).trans rfl, (blk_cell BK190.out 1).trans rfl, (blk_cell BK190.out 2).trans rfl, (blk_cell BK190.out 3).trans rfl, (blk_cell BK190.out 4).trans rfl⟩ (fun hHeld => ?_); refine with_tabW impl_MouthOk.tab1 impl_MouthOk.bits1 (fun HT_ HW_ => ?_)
      generalize w22.drew = w23 at BK190 HB hHeld ⊢
      refine pu_ (i := 0) (N := some 3) HT_ ?_; refine tk_ (i := 1) (N := some 4) HT_ HW_ hHeld ?_
      refine on_ (i := 2) (N := some 5) HT_ (fun K hK => ?_)
      refine goes_ Try.func36 (by kernel_rfl) rfl #[.int .i64 a0_0, .int .i64 0, .int .i64 1000000] (by rfl) rfl rfl ar_ ?_
      with_reducible refine (impl_in.calls a0_0 0 1000000 true _ A2.out).mono ?_
      rintro e w' ⟨rfl, ⟨nd, rfl⟩⟩
      refine ⟨_, rfl, ?_⟩
      refine hK.out _ _ ⟨(blk_cell BK190.out 0).trans rfl, (blk_cell BK190.out 1).trans rfl, (blk_cell BK190.out 2).trans rfl, (blk_cell BK190.out 3).trans rfl, (blk_cell BK190.out 4).trans rfl⟩ (fun hHeld => ?_)
      clear hK K; refine nm_ 5 ?_; refine pu_ (i := 3) (N := some 6) HT_ ?_; refine pu_ (i := 4) (N := some 7) HT_ ?_; refine tk_ (i := 5) (N := some 8) HT_ HW_ hHeld ?_; refine pu_ (i := 6) (N := some 9) HT_ ?_; refine pu_ (i := 7) (N := some 10) HT_ ?_; refine pu_ (i := 8) (N := some 11) HT_ ?_; refine pu_ (i := 9) (N := some 12) HT_ ?_; refine pn_ (i := 10) (N := some 13) HT_ ?_; refine pn_ (i := 11) (N := some 14) HT_ ?_; refine pn_ (i := 12) (N := some 15) HT_ ?_; refine pn_ (i := 13) (N := some 16) HT_ ?_; refine pn_ (i := 14) (N := some 17) HT_ ?_; refine pn_ (i := 15) (N := some 18) HT_ ?_; refine pu_ (i := 16) (N := some 19) HT_ ?_; refine pu_ (i := 17) (N := some 20) HT_ ?_; refine pn_ (i := 18) (N := some 21) HT_ ?_; refine pn_ (i := 19) (N := some 22) HT_ ?_; refine pn_ (i := 20) (N := some 23) HT_ ?_; refine pu_ (i := 21) (N := some 24) HT_ ?_; refine pu_ (i := 22) (N := some 25) HT_ ?_; refine pn_ (i := 23) (N := some 26) HT_ ?_; refine pn_ (i := 24) (N := some 27) HT_ ?_; refine pn_ (i := 25) (N := some 28) HT_ ?_; refine pn_ (i := 26) (N := some 29) HT_ ?_; refine pu_ (i := 27) (N := some 30) HT_ ?_; refine pu_ (i := 28) (N := some 31) HT_ ?_; refine pn_ (i := 29) (N := some 32) HT_ ?_; refine pn_ (i := 30) (N := some 33) HT_ ?_; refine pn_ (i := 31) (N := some 34) HT_ ?_; refine pn_ (i := 32) (N := some 35) HT_ ?_; refine pn_ (i := 33) (N := some 36) HT_ ?_; refine pn_ (i := 34) (N := some 37) HT_ ?_; refine pn_ (i := 35) (N := some 38) HT_ ?_; refine pn_ (i := 36) (N := some 39) HT_ ?_; refine pn_ (i := 37) (N := some 40) HT_ ?_; refine pn_ (i := 38) (N := some 41) HT_ ?_; refine pn_ (i := 39) (N := some 42) HT_ ?_; refine pn_ (i := 40) (N := some 43) HT_ ?_; refine pn_ (i := 41) (N := some 44) HT_ ?_; refine pu_ (i := 42) (N := some 45) HT_ ?_; refine pu_ (i := 43) (N := some 2) HT_ ?_
      refine done_ (done_of HT_.out (by kernel_rfl)) ?_
      try go_wp2
      go_ret
      exact ⟨by first | rfl | (simp [errW_none, errW_some] <;> rfl) | (simp [*, errW_none, errW_some] <;> rfl), by repeat (first | (with_reducible first | exact HB.out | apply below_alloc | apply pw_below_drewN | apply below_drew1 | refine below_set ?_ GE190.out) | exact HB.out)⟩
  · replace c3 := Bool.eq_false_iff.mpr c3
    subst c3
    have H1 : (some false) = some r := by rw [if_neg (show ¬ (false = true) by decide)] at H; exact H
    clear H; have H := H1; clear H1
    obtain rfl := Option.some.inj H
    go_enter Try.func10, Try.ntmps10
    try go_wp2_with (first | ((with_reducible refine gate_dst (N := 1) rfl ?_); (try (refine gate_guard (by rfl) ?_; dsimp only)); refine box_event ?hg (N := 1) ?hd (cs := #[.int .i64 a0_0, .slice A0_1 l0_1.length c0_1, .int .i64 a0_2, .int .i64 a0_3, .slice A0_4 l0_4.length c0_4]) (t := 25) ?hr ?_; (case hd => rfl); (case hg => rfl); (case hr => first | (go_simp; done) | (go_simp; rfl)); intro gb190 hg w24 hbox hb; have n0_ := Aside0.mk (below_step (hb0_ HB.out) hb); have n1_ := Aside0.mk (hbox); have n2_ := Aside0.mk ((by rw [hg]; exact (below_size (hb0_ HB.out)) : w.heap.size ≤ gb190)); have n3_ := Aside0.mk ((by rw [hg]; exact (below_size (hb0_ HB.out)) : w.heap.size ≤ gb190)); clear HB; have HB := n0_; have BK190 := n1_; have GW190 := n2_; have GE190 := n3_; clear n0_ n1_ n2_ n3_; clear hb hbox hg))
    have n0_ := Aside0.mk (blk_drew BK190.out); have n1_ := Aside0.mk (below_drew1 HB.out); clear BK190 HB; have BK190 := n0_; have HB := n1_; clear n0_ n1_
    refine start_ (n := 44) (S := fun w' => w'.cell? ⟨gb190, 0, none⟩ = some (.int .i64 a0_0) ∧ w'.cell? ⟨gb190, 1, none⟩ = some (.slice A0_1 l0_1.length c0_1) ∧ w'.cell? ⟨gb190, 2, none⟩ = some (.int .i64 a0_2) ∧ w'.cell? ⟨gb190, 3, none⟩ = some (.int .i64 a0_3) ∧ w'.cell? ⟨gb190, 4, none⟩ = some (.slice A0_4 l0_4.length c0_4)) (ds := []) #[false, false, false, false, false, false, false, false, false, false, false, false, false, false, false, false, false, false, false, false, false, false, false, false, false, false, false, false, false, false, false, false, false, false, false, false, false, false, false, false, false, false, false, false] (by kernel_rfl) rfl rfl ⟨(blk_cell BK190.out 0).trans rfl, (blk_cell BK190.out 1).trans rfl, (blk_cell BK190.out 2).trans rfl, (blk_cell BK190.out 3).trans rfl, (blk_cell BK190.out 4).trans rfl⟩ (fun hHeld => ?_); refine with_tabW impl_MouthOk.tab1 impl_MouthOk.bits1 (fun HT_ HW_ => ?_)
    generalize w24.drew = w25 at BK190 HB hHeld ⊢
    refine pu_ (i := 0) (N := some 3) HT_ ?_; refine tk_ (i := 1) (N := some 4) HT_ HW_ hHeld ?_
    refine on_ (i := 2) (N := some 5) HT_ (fun K hK => ?_)
    refine goes_ Try.func36 (by kernel_rfl) rfl #[.int .i64 a0_0, .int .i64 0, .int .i64 1000000] (by rfl) rfl rfl ar_ ?_
    with_reducible refine (impl_in.calls a0_0 0 1000000 false _ A2.out).mono ?_
    rintro e w' ⟨rfl, ⟨nd, rfl⟩⟩
    refine ⟨_, rfl, ?_⟩
    refine hK.out _ _ ⟨(blk_cell BK190.out 0).trans rfl, (blk_cell BK190.out 1).trans rfl, (blk_cell BK190.out 2).trans rfl, (blk_cell BK190.out 3).trans rfl, (blk_cell BK190.out 4).trans rfl⟩ (fun hHeld => ?_)
    clear hK K; refine nm_ 5 ?_; refine pu_ (i := 3) (N := some 6) HT_ ?_; refine pn_ (i := 4) (N := some 7) HT_ ?_; refine pn_ (i := 5) (N := some 8) HT_ ?_; refine pn_ (i := 6) (N := some 9) HT_ ?_; refine pn_ (i := 7) (N := some 10) HT_ ?_; refine pu_ (i := 8) (N := some 11) HT_ ?_; refine pu_ (i := 9) (N := some 12) HT_ ?_; refine pn_ (i := 10) (N := some 13) HT_ ?_; refine pn_ (i := 11) (N := some 14) HT_ ?_; refine pn_ (i := 12) (N := some 15) HT_ ?_; refine pn_ (i := 13) (N := some 16) HT_ ?_; refine pn_ (i := 14) (N := some 17) HT_ ?_; refine pn_ (i := 15) (N := some 18) HT_ ?_; refine pu_ (i := 16) (N := some 19) HT_ ?_; refine pu_ (i := 17) (N := some 20) HT_ ?_; refine pn_ (i := 18) (N := some 21) HT_ ?_; refine pn_ (i := 19) (N := some 22) HT_ ?_; refine pn_ (i := 20) (N := some 23) HT_ ?_; refine pu_ (i := 21) (N := some 24) HT_ ?_; refine pu_ (i := 22) (N := some 25) HT_ ?_; refine pn_ (i := 23) (N := some 26) HT_ ?_; refine pn_ (i := 24) (N := some 27) HT_ ?_; refine pn_ (i := 25) (N := some 28) HT_ ?_; refine pn_ (i := 26) (N := some 29) HT_ ?_; refine pu_ (i := 27) (N := some 30) HT_ ?_; refine pu_ (i := 28) (N := some 31) HT_ ?_; refine pn_ (i := 29) (N := some 32) HT_ ?_; refine pn_ (i := 30) (N := some 33) HT_ ?_; refine pn_ (i := 31) (N := some 34) HT_ ?_; refine pn_ (i := 32) (N := some 35) HT_ ?_; refine pn_ (i := 33) (N := some 36) HT_ ?_; refine pn_ (i := 34) (N := some 37) HT_ ?_; refine pn_ (i := 35) (N := some 38) HT_ ?_; refine pn_ (i := 36) (N := some 39) HT_ ?_; refine pn_ (i := 37) (N := some 40) HT_ ?_; refine pn_ (i := 38) (N := some 41) HT_ ?_; refine pn_ (i := 39) (N := some 42) HT_ ?_; refine pn_ (i := 40) (N := some 43) HT_ ?_; refine pn_ (i := 41) (N := some 44) HT_ ?_; refine pu_ (i := 42) (N := some 45) HT_ ?_; refine pu_ (i := 43) (N := some 2) HT_ ?_
    refine done_ (done_of HT_.out (by kernel_rfl)) ?_
    try go_wp2
    go_ret
    exact ⟨by first | rfl | (simp [errW_none, errW_some] <;> rfl) | (simp [*, errW_none, errW_some] <;> rfl), by repeat (first | (with_reducible first | exact HB.out | apply below_alloc | apply pw_below_drewN | apply below_drew1 | refine below_set ?_ GE190.out) | exact HB.out)⟩

/-! ### slices_Clip_byte_byte: function 54, by hand -/
theorem slices_Clip_byte_byte.calls (A0 : Option Addr) (c0 n0 : Nat) (w : World) (hc : n0 ≤ c0) : Calls Try.prog 54 #[.slice A0 n0 c0] w fun e w' => e = .returned (.slice A0 n0 n0) ∧ w' = w := by
  go_enter Try.func54, Try.ntmps54
  go_wp2
  go_ret
  exact ⟨rfl, rfl⟩

/-! ### impl_clone_byte: function 50, by hand -/
def impl_clone_byte.f (l0 : List Int) : Option (List Int) := if l0.length * 1 ≤ 140737488355328 then some l0 else none
theorem impl_clone_byte.calls (A0 : Option Addr) (c0 : Nat) (l0 : List Int) (r : List Int) (w : World) (hr0 : Kd.C (Kd.int .u8) w A0 l0.length l0) (hc0 : l0.length ≤ c0) (h : impl_clone_byte.f l0 = some r) :
    Calls Try.prog 50 #[.slice A0 l0.length c0] w fun e w' => ∃ v0_ : Value, e = .returned (v0_) ∧ Kd.R (Kd.int .u8) 5 w' w.heap.size (fun _ => True) v0_ r ∧ Below w.heap.size w w' := by
  obtain ⟨hle, rfl⟩ : l0.length * 1 ≤ 140737488355328 ∧ l0 = r := by
    unfold impl_clone_byte.f at h; split at h
    · exact ⟨by assumption, Option.some.inj h⟩
    · cases h
  have hm := hr0.2.1
  have HR := Aside0.mk hr0; clear hr0 h
  by_cases h0 : l0.length = 0
  · have hb : ((l0.length : Int) == 0) = true := by simp [h0]
    have HL : Aside0 (l0 = []) := ⟨List.eq_nil_of_length_eq_zero h0⟩
    clear h0
    go_enter Try.func50, Try.ntmps50
    go_wp2
    go_ret
    refine ⟨_, rfl, ?_, Below.refl _ _⟩
    rw [HL.out]; exact Kd.R_nil _ _ _ _ _
  · have hb : ((l0.length : Int) == 0) = false := by simp; intro hh; exact h0 (by simp [hh])
    clear h0
    go_enter Try.func50, Try.ntmps50
    go_wp2_with (first
      | ((with_reducible refine gate_dst (N := 7) rfl ?_); refine Kd.R_append_rows (Kd.int .u8) (Rr := (Kd.int .u8).K w) w.heap.size rfl _ _ 22 5 (.int .u8 0) 1 rfl Try.underlying22 info5 rfl (by decide) (by decide) (.slice none 0 0) [] l0 A0 l0.length c0 (fun _ => True) (fun _ => True) rfl rfl (Kd.R_nil _ _ _ _ _) HR.out (fun x cs h => h) (fun k _ => ⟨trivial, by simp [Value.ownBlock]⟩) (fun _ _ => trivial) (Below.refl _ _) (Nat.le_refl _) (by simpa using hle) ?_; intro v1 w1 ho hb1 hg hat; rw [List.nil_append] at ho; obtain ⟨A1, c1, hv1, hc1, _⟩ := Kd.R_reads ho; have HO := Aside0.mk ho; clear ho hat hg; have HB := Aside0.mk hb1; clear hb1; subst hv1)
      | (go_at_call 54; (with_reducible refine (slices_Clip_byte_byte.calls _ _ _ _ hc1).mono ?_); rintro e w' ⟨rfl, rfl⟩))
    go_ret
    exact ⟨_, rfl, Kd.R_clip HO.out (Nat.le_refl _) hc1, HB.out⟩

/-! ### impl_Mouth_copy: function 32 -/
def impl_Mouth_copy.f (a0_0 : Int) (l0_1 : List Int) (a0_2 : Int) (a0_3 : Int) (l0_4 : List (S60)) : Option (Int × List Int × Int × Int × (List (S60))) := (impl_clone_byte.f l0_1).bind fun t200 => ((impl_Range_51.f l0_4).bind fun t203 => (some (a0_0, t200, a0_2, a0_3, t203)))
def impl_Mouth_copy.T1 : Bool × List (List Nat × List Nat) := (true, [([], []), ([0], [0]), ([1], [1]), ([], []), ([3], [3]), ([4, 2], [4]), ([0, 1, 2, 3, 4], []), ([6, 2, 5, 0, 1, 2, 3, 4], [2, 6]), ([0, 1, 2, 3, 4, 5, 6, 7], []), ([8, 5, 7, 0, 1, 2, 3, 4, 5, 6, 7], [5, 8])])
def impl_Mouth_copy.B1 : List Nat := [0, 1, 3, 0, 8, 31, 31, 127, 255, 511]
theorem impl_Mouth_copy.tab1 : rtab .any (opsOf Try.f32 1) = impl_Mouth_copy.T1 := by kernel_rfl
theorem impl_Mouth_copy.bits1 : waitsOk impl_Mouth_copy.T1.2 impl_Mouth_copy.B1 = true := by kernel_rfl
set_option maxHeartbeats 8000000 in
set_option maxRecDepth 100000 in
theorem impl_Mouth_copy.calls (a0_0 : Int) (A0_1 : Option Addr) (c0_1 : Nat) (l0_1 : List Int) (a0_2 : Int) (a0_3 : Int) (A0_4 : Option Addr) (c0_4 : Nat) (l0_4 : List (S60)) (r1 : Int) (r2 : List Int) (r3 : Int) (r4 : Int) (r5 : List (S60)) (w : World) (hr0_1 : Kd.C (Kd.int .u8) w A0_1 l0_1.length l0_1) (hc0_1 : l0_1.length ≤ c0_1) (hr0_4 : Kd.C k60 w A0_4 l0_4.length l0_4) (hc0_4 : l0_4.length ≤ c0_4) (h : impl_Mouth_copy.f a0_0 l0_1 a0_2 a0_3 l0_4 = some (r1, r2, r3, r4, r5)) :
    Calls Try.prog 32 #[.agg #[.int .i64 a0_0, .slice A0_1 l0_1.length c0_1, .int .i64 a0_2, .int .i64 a0_3, .slice A0_4 l0_4.length c0_4]] w fun e w' => ∃ v1_ v4_ : Value, e = .returned (.agg #[.int .i64 r1, v1_, .int .i64 r3, .int .i64 r4, v4_]) ∧ Kd.R (Kd.int .u8) 5 w' w.heap.size (fun _ => True) v1_ r2 ∧ Kd.R k60 60 w' w.heap.size (fun _ => True) v4_ r5 ∧ Below w.heap.size w w' := by
  have hu25 := Try.underlying25; have HR0_1 := Aside0.mk hr0_1; have HC0_1 := Aside0.mk hc0_1; clear hr0_1 hc0_1; have HR0_4 := Aside0.mk hr0_4; have HC0_4 := Aside0.mk hc0_4; clear hr0_4 hc0_4
  have HB := Aside0.mk (Below.refl w.heap.size w)
  have H : ((impl_clone_byte.f l0_1).bind fun t200 => ((impl_Range_51.f l0_4).bind fun t203 => (some (a0_0, t200, a0_2, a0_3, t203)))) = some (r1, r2, r3, r4, r5) := h
  clear h
  replace H := Option.bind_eq_some_iff.mp H
  obtain ⟨t200, A20, H⟩ := H
  replace H : ((impl_Range_51.f l0_4).bind fun t203 => (some (a0_0, t200, a0_2, a0_3, t203))) = some (r1, r2, r3, r4, r5) := H
  have A2 := Aside0.mk A20; clear A20
  replace H := Option.bind_eq_some_iff.mp H
  obtain ⟨t203, A30, H⟩ := H
  replace H : (some (a0_0, t200, a0_2, a0_3, t203)) = some (r1, r2, r3, r4, r5) := H
  have A3 := Aside0.mk A30; clear A30
  simp only [Option.some.injEq, Prod.mk.injEq] at H
  obtain ⟨rfl, rfl, rfl, rfl, rfl⟩ := H
  go_enter Try.func32, Try.ntmps32
  try go_wp2_with (first | ((with_reducible refine gate_dst (N := 1) rfl ?_); refine box_event ?hg (N := 1) ?hd (cs := #[.int .i64 a0_0, .slice A0_1 l0_1.length c0_1, .int .i64 a0_2, .int .i64 a0_3, .slice A0_4 l0_4.length c0_4]) (t := 25) ?hr ?_; (case hd => rfl); (case hg => rfl); (case hr => first | (go_simp; done) | (go_simp; rfl)); intro gb198 hg w4 hbox hb; have n0_ := Aside0.mk (below_step (hb0_ HB.out) hb); have n1_ := Aside0.mk (hbox); have n2_ := Aside0.mk ((by rw [hg]; exact (below_size (hb0_ HB.out)) : w.heap.size ≤ gb198)); have n3_ := Aside0.mk ((by rw [hg]; exact (below_size (hb0_ HB.out)) : w.heap.size ≤ gb198)); clear HB; have HB := n0_; have BK198 := n1_; have GW198 := n2_; have GE198 := n3_; clear n0_ n1_ n2_ n3_; clear hb hbox hg) | ((with_reducible refine gate_dst (N := 2) rfl ?_); refine box_event ?hg (N := 2) ?hd (cs := #[.int .i64 0, .slice none 0 0, .int .i64 0, .int .i64 0, .slice none 0 0]) (t := 25) ?hr ?_; (case hd => rfl); (case hg => rfl); (case hr => first | (go_simp; done) | (go_simp; rfl)); intro gb199 hg w5 hbox hb; have n0_ := Aside0.mk (blk_below (g := gb198) (o := .cells #[.int .i64 a0_0, .slice A0_1 l0_1.length c0_1, .int .i64 a0_2, .int .i64 a0_3, .slice A0_4 l0_4.length c0_4] 25 (0, 0)) (kb_ BK198.out) hb); have n1_ := Aside0.mk (below_step (hb1_ HB.out GE198.out) hb); have n2_ := Aside0.mk (hbox); have n3_ := Aside0.mk ((by rw [hg]; exact (below_size (hb1_ HB.out GE198.out)) : w.heap.size ≤ gb199)); have n4_ := Aside0.mk ((by rw [hg]; exact (below_size (hb1_ HB.out GE198.out)) : w.heap.size ≤ gb199)); have n5_ := Aside0.mk ((by rw [hg]; exact Nat.ne_of_lt (blk_lt (g := gb198) (o := .cells #[.int .i64 a0_0, .slice A0_1 l0_1.length c0_1, .int .i64 a0_2, .int .i64 a0_3, .slice A0_4 l0_4.length c0_4] 25 (0, 0)) (kb_ BK198.out)) : gb198 ≠ gb199)); have n6_ := Aside0.mk ((by rw [hg]; exact Nat.ne_of_gt (blk_lt (g := gb198) (o := .cells #[.int .i64 a0_0, .slice A0_1 l0_1.length c0_1, .int .i64 a0_2, .int .i64 a0_3, .slice A0_4 l0_4.length c0_4] 25 (0, 0)) (kb_ BK198.out)) : gb199 ≠ gb198)); clear BK198; clear HB; have BK198 := n0_; have HB := n1_; have BK199 := n2_; have GW199 := n3_; have GE199 := n4_; have NB198_199 := n5_; have NB199_198 := n6_; clear n0_ n1_ n2_ n3_ n4_ n5_ n6_; clear hb hbox hg))
  have n0_ := Aside0.mk (blk_drew BK198.out); have n1_ := Aside0.mk (blk_drew BK199.out); have n2_ := Aside0.mk (below_drew1 HB.out); clear BK198 BK199 HB; have BK198 := n0_; have BK199 := n1_; have HB := n2_; clear n0_ n1_ n2_
  refine start_ (n := 10) (S := fun w' => w'.cell? ⟨gb198, 0, none⟩ = some (.int .i64 a0_0) ∧ w'.cell? ⟨gb198, 1, none⟩ = some (.slice A0_1 l0_1.length c0_1) ∧ w'.cell? ⟨gb198, 2, none⟩ = some (.int .i64 a0_2) ∧ w'.cell? ⟨gb198, 3, none⟩ = some (.int .i64 a0_3) ∧ w'.cell? ⟨gb198, 4, none⟩ = some (.slice A0_4 l0_4.length c0_4)) (ds := [7, 9]) #[false, false, false, false, false, false, false, false, false, false] (by kernel_rfl) rfl rfl ⟨(blk_cell BK198.out 0).trans rfl, (blk_cell BK198.out 1).trans rfl, (blk_cell BK198.out 2).trans rfl, (blk_cell BK198.out 3).trans rfl, (blk_cell BK198.out 4).trans rfl⟩ (fun hHeld => ?_); refine with_tabW impl_Mouth_copy.tab1 impl_Mouth_copy.bits1 (fun HT_ HW_ => ?_)
  generalize w5.drew = w6 at BK198 BK199 HB hHeld ⊢
  refine pu_ (i := 0) (N := some 3) HT_ ?_; refine pu_ (i := 3) (N := some 6) HT_ ?_; refine tk_ (i := 1) (N := some 4) HT_ HW_ hHeld ?_; refine tk_ (i := 4) (N := some 7) HT_ HW_ hHeld ?_
  refine on_ (i := 2) (N := some 5) HT_ (fun K hK => ?_)
  refine goes_ Try.func50 (by kernel_rfl) rfl #[.slice A0_1 l0_1.length c0_1] (by rfl) rfl rfl ar_ ?_
  with_reducible refine (impl_clone_byte.calls _ _ l0_1 t200 _ ?side1 ?side2 A2.out).mono ?_
  (case side1 => exact kC_ (Kd.C_below HR0_1.out HB.out))
  (case side2 => exact HC0_1.out)
  rintro e w7 ⟨v201, rfl, ho0, hb⟩
  refine ⟨_, rfl, ?_⟩
  have n0_ := Aside0.mk (Kd.R_lower ho0 (below_size (hb2_ HB.out GE198.out GE199.out))); have n1_ := Aside0.mk (blk_below (g := gb198) (o := .cells #[.int .i64 a0_0, .slice A0_1 l0_1.length c0_1, .int .i64 a0_2, .int .i64 a0_3, .slice A0_4 l0_4.length c0_4] 25 (0, 0)) (kb_ BK198.out) hb); have n2_ := Aside0.mk (blk_below (g := gb199) (o := .cells #[.int .i64 0, .slice none 0 0, .int .i64 0, .int .i64 0, .slice none 0 0] 25 (0, 0)) (kb_ BK199.out) hb); have n3_ := Aside0.mk (below_step (hb2_ HB.out GE198.out GE199.out) hb); clear BK198 BK199 HB; have HO202 := n0_; have BK198 := n1_; have BK199 := n2_; have HB := n3_; clear n0_ n1_ n2_ n3_; (try clear hb); (try clear hb2); (try clear hk); (try clear hi); (try clear ho0)
  refine hK.out _ _ ⟨(blk_cell BK198.out 0).trans rfl, (blk_cell BK198.out 1).trans rfl, (blk_cell BK198.out 2).trans rfl, (blk_cell BK198.out 3).trans rfl, (blk_cell BK198.out 4).trans rfl⟩ (fun hHeld => ?_)
  clear hK K; refine nm_ 5 ?_; refine pu_ (i := 6) (N := some 9) HT_ ?_
  refine on_ (i := 5) (N := some 8) HT_ (fun K hK => ?_)
  refine goes_ Try.func51 (by kernel_rfl) rfl #[.slice A0_4 l0_4.length c0_4] (by rfl) rfl rfl ar_ ?_
  with_reducible refine (impl_Range_51.calls _ _ l0_4 t203 _ ?side1 ?side2 A3.out).mono ?_
  (case side1 => exact kC_ (Kd.C_below HR0_4.out HB.out))
  (case side2 => exact HC0_4.out)
  rintro e w8 ⟨v204, rfl, ho0, hb⟩
  refine ⟨_, rfl, ?_⟩
  have n0_ := Aside0.mk (Kd.R_below (kR_ HO202.out) hb); have n1_ := Aside0.mk (Kd.R_lower ho0 (below_size (hb2_ HB.out GE198.out GE199.out))); have n2_ := Aside0.mk (blk_below (g := gb198) (o := .cells #[.int .i64 a0_0, .slice A0_1 l0_1.length c0_1, .int .i64 a0_2, .int .i64 a0_3, .slice A0_4 l0_4.length c0_4] 25 (0, 0)) (kb_ BK198.out) hb); have n3_ := Aside0.mk (blk_below (g := gb199) (o := .cells #[.int .i64 0, .slice none 0 0, .int .i64 0, .int .i64 0, .slice none 0 0] 25 (0, 0)) (kb_ BK199.out) hb); have n4_ := Aside0.mk (below_step (hb2_ HB.out GE198.out GE199.out) hb); clear HO202 BK198 BK199 HB; have HO202 := n0_; have HO205 := n1_; have BK198 := n2_; have BK199 := n3_; have HB := n4_; clear n0_ n1_ n2_ n3_ n4_; (try clear hb); (try clear hb2); (try clear hk); (try clear hi); (try clear ho0)
  obtain ⟨Ao9, co9, eo9⟩ := Kd.R_slice HO202.out
  (first | subst eo9 | (injection eo9 with f1_ f2_ f3_; have f4_ := f1_.symm; have f5_ := f3_.symm; clear f1_ f2_ f3_; subst f4_; subst f5_))
  obtain ⟨Ao11, co11, eo11⟩ := Kd.R_slice HO205.out
  (first | subst eo11 | (injection eo11 with f1_ f2_ f3_; have f4_ := f1_.symm; have f5_ := f3_.symm; clear f1_ f2_ f3_; subst f4_; subst f5_))
  refine hK.out _ _ ⟨(blk_cell BK198.out 0).trans rfl, (blk_cell BK198.out 1).trans rfl, (blk_cell BK198.out 2).trans rfl, (blk_cell BK198.out 3).trans rfl, (blk_cell BK198.out 4).trans rfl⟩ (fun hHeld => ?_)
  clear hK K; refine nm_ 8 ?_
  refine last_ (i := 7) (N := none) #[true, true, true, true, true, true, true, true, false, false] rfl rfl (one_of HT_.out (by kernel_rfl)) (by decide) (fun K hK => ?_)
  have hs10 : w8.cell? ⟨gb198, 1, none⟩ = some (.slice A0_1 l0_1.length c0_1) := (blk_cell BK198.out 1).trans rfl
  have hfs10 := blk_frozen BK198.out 1
  have hns10_1 := NB199_198.out; have hms10_1 := NB198_199.out
  refine skip_ (w1 := ?_) (by rfl) rfl ?_ ?_
  rotate_left
  · go_simp
    rfl
  refine hK.out _ _ ?_
  clear hK K; refine pu_ (i := 8) (N := some 10) HT_ ?_
  refine last_ (i := 9) (N := none) #[true, true, true, true, true, true, true, true, true, true] rfl rfl (one_of HT_.out (by kernel_rfl)) (by decide) (fun K hK => ?_)
  have hs12 : w8.cell? ⟨gb198, 4, none⟩ = some (.slice A0_4 l0_4.length c0_4) := (blk_cell BK198.out 4).trans rfl
  have hfs12 := blk_frozen BK198.out 4
  have hns12_1 := NB199_198.out; have hms12_1 := NB198_199.out
  refine skip_ (w1 := ?_) (by rfl) rfl ?_ ?_
  rotate_left
  · go_simp
    rfl
  refine hK.out _ _ ?_
  clear hK K
  refine done_ (done_of HT_.out (by kernel_rfl)) ?_
  have hnb13 := NB198_199.out; have hnc13 := NB199_198.out; have hcz14_0 : w8.cell? ⟨gb198, 0, none⟩ = some (.int .i64 a0_0) := (blk_cell BK198.out 0).trans rfl; have hcz14_1 : w8.cell? ⟨gb198, 1, none⟩ = some (.slice A0_1 l0_1.length c0_1) := (blk_cell BK198.out 1).trans rfl; have hcz14_2 : w8.cell? ⟨gb198, 2, none⟩ = some (.int .i64 a0_2) := (blk_cell BK198.out 2).trans rfl; have hcz14_3 : w8.cell? ⟨gb198, 3, none⟩ = some (.int .i64 a0_3) := (blk_cell BK198.out 3).trans rfl; have hcz14_4 : w8.cell? ⟨gb198, 4, none⟩ = some (.slice A0_4 l0_4.length c0_4) := (blk_cell BK198.out 4).trans rfl; have hfz14_0 := blk_frozen BK198.out 0; have hfz14_1 := blk_frozen BK198.out 1; have hfz14_2 := blk_frozen BK198.out 2; have hfz14_3 := blk_frozen BK198.out 3; have hfz14_4 := blk_frozen BK198.out 4; have hcz15_0 : w8.cell? ⟨gb199, 0, none⟩ = some (.int .i64 0) := (blk_cell BK199.out 0).trans rfl; have hcz15_1 : w8.cell? ⟨gb199, 1, none⟩ = some (.slice none 0 0) := (blk_cell BK199.out 1).trans rfl; have hcz15_2 : w8.cell? ⟨gb199, 2, none⟩ = some (.int .i64 0) := (blk_cell BK199.out 2).trans rfl; have hcz15_3 : w8.cell? ⟨gb199, 3, none⟩ = some (.int .i64 0) := (blk_cell BK199.out 3).trans rfl; have hcz15_4 : w8.cell? ⟨gb199, 4, none⟩ = some (.slice none 0 0) := (blk_cell BK199.out 4).trans rfl; have hfz15_0 := blk_frozen BK199.out 0; have hfz15_1 := blk_frozen BK199.out 1; have hfz15_2 := blk_frozen BK199.out 2; have hfz15_3 := blk_frozen BK199.out 3; have hfz15_4 := blk_frozen BK199.out 4
  try go_wp2
  refine bodyPost_ret (results_cell_row rfl _ _ gb199 25 #[.int .i64 a0_0, .slice Ao9 t200.length co9, .int .i64 a0_2, .int .i64 a0_3, .slice Ao11 t203.length co11] (0, 0) _ rfl (by refine kb_ ?_; refine blk_put (cs := #[.int .i64 a0_0, .slice Ao9 t200.length co9, .int .i64 a0_2, .int .i64 a0_3, .slice none 0 0]) ?_ 4 _ rfl; refine kb_ ?_; refine blk_put (cs := #[.int .i64 a0_0, .slice Ao9 t200.length co9, .int .i64 a0_2, .int .i64 0, .slice none 0 0]) ?_ 3 _ rfl; refine kb_ ?_; refine blk_put (cs := #[.int .i64 a0_0, .slice Ao9 t200.length co9, .int .i64 0, .int .i64 0, .slice none 0 0]) ?_ 2 _ rfl; refine kb_ ?_; refine blk_put (cs := #[.int .i64 a0_0, .slice none 0 0, .int .i64 0, .int .i64 0, .slice none 0 0]) ?_ 1 _ rfl; refine kb_ ?_; refine blk_put (cs := #[.int .i64 0, .slice none 0 0, .int .i64 0, .int .i64 0, .slice none 0 0]) ?_ 0 _ rfl; refine kb_ ?_; refine blk_far ?_ NB199_198.out _; refine kb_ ?_; refine blk_far ?_ NB199_198.out _; refine kb_ ?_; exact BK199.out) Try.underlying25 rfl (by kernel_rfl)) rfl ?_
  exact ⟨_, _, by first | rfl | (simp [errW_none, errW_some] <;> rfl) | (simp [*, errW_none, errW_some] <;> rfl), by refine kR_ ?_; exact Kd.R_mono (Kd.R_f gb199 4 (.slice Ao11 t203.length co11) (Kd.R_f gb199 3 (.int .i64 a0_3) (Kd.R_f gb199 2 (.int .i64 a0_2) (Kd.R_f gb199 1 (.slice Ao9 t200.length co9) (Kd.R_f gb199 0 (.int .i64 a0_0) (Kd.R_far (p := ⟨gb198, 4, none⟩) (Kd.R_far (p := ⟨gb198, 1, none⟩) (Kd.R_types (Kd.R_types HO202.out BK198.out (by decide)) BK199.out (by decide)) (fun _ hk => hk.1.2) (.slice Ao9 t200.length co9)) (fun _ hk => hk.1.2) (.slice Ao11 t203.length co11))))))) (fun _ hk => trivial), by refine kR_ ?_; exact Kd.R_mono (Kd.R_f gb199 4 (.slice Ao11 t203.length co11) (Kd.R_f gb199 3 (.int .i64 a0_3) (Kd.R_f gb199 2 (.int .i64 a0_2) (Kd.R_f gb199 1 (.slice Ao9 t200.length co9) (Kd.R_f gb199 0 (.int .i64 a0_0) (Kd.R_far (p := ⟨gb198, 4, none⟩) (Kd.R_far (p := ⟨gb198, 1, none⟩) (Kd.R_types (Kd.R_types HO205.out BK198.out (by decide)) BK199.out (by decide)) (fun _ hk => hk.1.2) (.slice Ao9 t200.length co9)) (fun _ hk => hk.1.2) (.slice Ao11 t203.length co11))))))) (fun _ hk => trivial), by repeat (first | (with_reducible first | exact HB.out | apply below_alloc | apply pw_below_drewN | apply below_drew1 | refine below_set ?_ GE198.out | refine below_set ?_ GE199.out) | exact HB.out)⟩

end Go.Proofs.Ytjiodkbbmhhccab.PFnExactMouthHear
