/- Printed by wip/xp/xprint.sh out of the translation, for this claim: what each function answers, as a plain function, and that the machine does just that. No condition. -/
import Derived.Test.YtcbiljabpadaeaaPFnExactNearSendx0
import Derived.Test.YtcbiljabpadaeaaPFnExactNearSendx2
namespace Go.Proofs.Ytcbiljabpadaeaa.PFnExactNearSend
open Go.RowKit Go.Proofs.YtcbiljabpadaeaaW.PrintWords Go.Proofs.YtcbiljabpadaeaaW.PrintLast Go.Proofs.YtcbiljabpadaeaaW.PrintMore
attribute [local go_sem] max2_int min2_int max_two min_two max_three min_three max_four min_four   -- for this text's walks alone
set_option linter.unusedVariables false
set_option linter.unusedSimpArgs false
mutual
def spec_NearFind.l0 : Nat → Int → Int → Int → List (S60) → List (S36) → Option (Int)
 | 0, _, _, _, _, _ => none
 | k + 1, x1, x2, x7, x202000, x202001 => if x7 < (x202000.length : Int) then ((spec_NearOk.f k x202000 x202001).bind fun t202 => (spec_NearFind.j1 k x1 x2 x7 t202 x202000 x202001)) else (spec_NearFind.j1 k x1 x2 x7 false x202000 x202001)
def spec_NearFind.j1 : Nat → Int → Int → Int → Bool → List (S60) → List (S36) → Option (Int)
 | 0, _, _, _, _, _, _ => none
 | k + 1, x1, x2, x7, x16, x202000, x202001 => if x16 = true then (if 0 ≤ x7 then (if x7 < (x202000.length : Int) then (if ((rd_T60 x202000 x7).f0) = x1 then (if ((rd_T60 x202000 x7).f2) > x2 then (some ((rd_T60 x202000 x7).f1)) else (spec_NearFind.l0 k x1 x2 (wrap64 (x7 + 1)) x202000 x202001)) else (spec_NearFind.l0 k x1 x2 (wrap64 (x7 + 1)) x202000 x202001)) else (none)) else (none)) else (some (-1))
end
def spec_NearFind.f (k : Nat) (l0_0 : List (S60)) (l0_1 : List (S36)) (a1 : Int) (a2 : Int) : Option (Int) := spec_NearFind.l0 k a1 a2 0 l0_0 l0_1
theorem spec_NearFind.mono_l : ∀ k, (∀ y0 y1 y2 y3 y4, LeO (spec_NearFind.l0 k y0 y1 y2 y3 y4) (spec_NearFind.l0 (k + 1) y0 y1 y2 y3 y4)) ∧ (∀ y0 y1 y2 y3 y4 y5, LeO (spec_NearFind.j1 k y0 y1 y2 y3 y4 y5) (spec_NearFind.j1 (k + 1) y0 y1 y2 y3 y4 y5))
 | 0 => ⟨fun _ _ _ _ _ r h => by simp [spec_NearFind.l0] at h, fun _ _ _ _ _ _ r h => by simp [spec_NearFind.j1] at h⟩
 | k + 1 => by
  obtain ⟨ih0, ih1⟩ := spec_NearFind.mono_l k
  refine ⟨?_, ?_⟩
  ·intro y0 y1 y2 y3 y4
   unfold spec_NearFind.l0
   repeat' first | (with_reducible first | apply ih0 | apply ih1 | apply spec_NearOk.mono | exact LeO.refl _ | exact LeO.none _ | refine LeO.ite ?_ ?_ | refine LeO.bind ?_ fun _ => ?_) | apply ih0 | apply ih1 | apply spec_NearOk.mono | exact LeO.none _ | refine LeO.ite ?_ ?_ | refine LeO.bind ?_ fun _ => ?_
  ·intro y0 y1 y2 y3 y4 y5
   unfold spec_NearFind.j1
   repeat' first | (with_reducible first | apply ih0 | apply ih1 | apply spec_NearOk.mono | exact LeO.refl _ | exact LeO.none _ | refine LeO.ite ?_ ?_ | refine LeO.bind ?_ fun _ => ?_) | apply ih0 | apply ih1 | apply spec_NearOk.mono | exact LeO.none _ | refine LeO.ite ?_ ?_ | refine LeO.bind ?_ fun _ => ?_
theorem spec_NearFind.mono : ∀ a0 a1 a2 a3 k, LeO (spec_NearFind.f k a0 a1 a2 a3) (spec_NearFind.f (k + 1) a0 a1 a2 a3) := by
 intro a0 a1 a2 a3 k
 obtain ⟨ih0, ih1⟩ := spec_NearFind.mono_l k
 unfold spec_NearFind.f
 repeat' first | (with_reducible first | apply ih0 | apply ih1 | apply spec_NearOk.mono | exact LeO.refl _ | exact LeO.none _ | refine LeO.ite ?_ ?_ | refine LeO.bind ?_ fun _ => ?_) | apply ih0 | apply ih1 | apply spec_NearOk.mono | exact LeO.none _ | refine LeO.ite ?_ ?_ | refine LeO.bind ?_ fun _ => ?_
set_option maxHeartbeats 8000000 in
set_option maxRecDepth 100000 in
theorem spec_NearFind.calls (k : Nat) (A0_0 : Option Addr) (c0_0 : Nat) (l0_0 : List (S60)) (A0_1 : Option Addr) (c0_1 : Nat) (l0_1 : List (S36)) (a1 : Int) (a2 : Int) (r : Int) (w : World) (hr0_0 : Kd.C k60 w A0_0 l0_0.length l0_0) (hc0_0 : l0_0.length ≤ c0_0) (hr0_1 : Kd.C k36 w A0_1 l0_1.length l0_1) (hc0_1 : l0_1.length ≤ c0_1) (h : spec_NearFind.f k l0_0 l0_1 a1 a2 = some r) :
  Calls Try.prog 32 #[.agg #[.slice A0_0 l0_0.length c0_0, .slice A0_1 l0_1.length c0_1], .int .i64 a1, .int .i64 a2] w fun e w' => e = .returned (.int .i64 r) ∧ Below w.heap.size w w' := by
 have hu26 := Try.underlying26; have HR0_0 := Aside0.mk hr0_0; have HC0_0 := Aside0.mk hc0_0; clear hr0_0 hc0_0; have HR0_1 := Aside0.mk hr0_1; have HC0_1 := Aside0.mk hc0_1; clear hr0_1 hc0_1
 have HB := Aside0.mk (Below.refl w.heap.size w)
 have H : (spec_NearFind.l0 k a1 a2 0 l0_0 l0_1) = some r := h
 clear h
 have H' := Aside0.mk H
 clear H
 go_enter Try.func32, Try.ntmps32
 go_wp2_with (first | ((with_reducible refine gate_dst (N := 3) rfl ?_); refine box_ (N := 3) (cs := #[.slice A0_0 l0_0.length c0_0, .slice A0_1 l0_1.length c0_1]) (t := 26) (fun gb201 hg w4 hbox hb => ?_); have BK201 := Aside0.mk (hbox); have GW201 := ge_ hg HB; have GE201 := ge_ hg HB; replace HB := (bs_ HB hb); clear hb hbox hg))
 go_loopg [7] k (fun kq v7 w' => ∃ (x7_1 : Int), v7 = .int .i64 x7_1 ∧ Aside0 (spec_NearFind.l0 kq a1 a2 x7_1 l0_0 l0_1 = some r) ∧ Aside0 (kq ≤ k) ∧ Aside0 (w'.heap[gb201]? = some (.cells #[(.slice A0_0 l0_0.length c0_0), (.slice A0_1 l0_1.length c0_1)] 26 (0, 0))) ∧ Aside0 (Below w.heap.size w w'))
 case atStart => exact ⟨(0), (by first | rfl | (simp; done) | (simp [*]; done)), H', ⟨Nat.le_refl _⟩, ⟨by refine kb_ ?_; exact BK201.out⟩, ⟨hbA_ HB.out⟩⟩
 case round =>
  clear H'; (try clear p2); (try clear c3)
  obtain ⟨x7_1, rfl, HA, HK1, BK201, HB⟩ := hrel
  cases gk with
  | zero => exact absurd HA.out (by simp [spec_NearFind.l0])
  | succ k1 =>
   have H := HA.out; clear HA
   simp only [spec_NearFind.l0] at H
   have HC5 := Aside0.mk H; clear H
   go_upto_region 2 with (fail)
   go_cut [16] (fun v16 wc => ∃ (kq : Nat) (x16_4 : Bool), v16 = .bool x16_4 ∧ Aside0 (spec_NearFind.j1 kq a1 a2 x7_1 x16_4 l0_0 l0_1 = some r) ∧ Aside0 (kq ≤ k1) ∧ Aside0 (wc.heap[gb201]? = some (.cells #[(.slice A0_0 l0_0.length c0_0), (.slice A0_1 l0_1.length c0_1)] 26 (0, 0))) ∧ Aside0 (Below w.heap.size w wc))
   case first =>
    have H := HC5.out; clear HC5
    by_cases c6 : x7_1 < (l0_0.length : Int)
    ·rw [if_pos c6] at H
     have c6b0 : decide (x7_1 < (l0_0.length : Int)) = true := decide_eq_true c6
     clear c6
     (first | rw [c6b0] | (simp only [i64_w, i32_w]; rw [c6b0]) | skip)
     replace H := Option.bind_eq_some_iff.mp H
     obtain ⟨t202, A70, H⟩ := H
     (try dsimp only at H)
     have A7 := Aside0.mk A70; clear A70
     have H' := Aside0.mk H
     clear H; have Z8 := zz2 BK201
     go_wp2_with (first | (go_at_call 29; (with_reducible refine (spec_NearOk.calls k1 _ _ l0_0 _ _ l0_1 t202 _ ?side1 ?side2 ?side3 ?side4 A7.out).mono ?_); (case side1 => exact kC_ (Kd.C_below HR0_0.out HB.out)); (case side2 => exact HC0_0.out); (case side3 => exact kC_ (Kd.C_below HR0_1.out HB.out)); (case side4 => exact HC0_1.out); rintro e w9 ⟨rfl, hb⟩; replace BK201 := (bbA_ BK201 hb); replace HB := (bs_ HB hb); (try clear hb); (try clear hb2); (try clear hk); (try clear hi)))
     go_meet
     case rel => exact ⟨_, (t202), (by first | rfl | (simp; done) | (simp [*]; done)), H', ⟨by have := HK1.out; first | omega | exact Nat.le_refl _⟩, ⟨by refine kb_ ?_; exact BK201.out⟩, ⟨hbA_ HB.out⟩⟩
    ·rw [if_neg c6] at H
     have c6b0 : decide (x7_1 < (l0_0.length : Int)) = false := decide_eq_false c6
     clear c6
     (first | rw [c6b0] | (simp only [i64_w, i32_w]; rw [c6b0]) | skip)
     have H' := Aside0.mk H
     clear H; have Z10 := zz2 BK201
     go_wp2
     go_meet
     case rel => exact ⟨_, (false), (by first | rfl | (simp; done) | (simp [*]; done)), H', ⟨by have := HK1.out; first | omega | exact Nat.le_refl _⟩, ⟨by refine kb_ ?_; exact BK201.out⟩, ⟨hbA_ HB.out⟩⟩
   case rest =>
    clear HC5; (try clear p2); (try clear c3); (try clear c6); (try clear c6b0); (try clear Z10); (try clear Z8); (try clear p2)
    obtain ⟨kq, x16_4, rfl, HA, HJ4, BK201, HB⟩ := hcut
    cases kq with
    | zero => exact absurd HA.out (by simp [spec_NearFind.j1])
    | succ kj4 =>
     have H := HA.out; clear HA
     simp only [spec_NearFind.j1] at H
     by_cases c11 : x16_4 = true
     ·subst c11
      rw [if_pos rfl] at H
      by_cases c12 : 0 ≤ x7_1
      ·rw [if_pos c12] at H
       have c12b0 : decide (0 ≤ x7_1) = true := decide_eq_true c12
       clear c12
       by_cases c13 : x7_1 < (l0_0.length : Int)
       ·rw [if_pos c13] at H
        have c13b0 : decide (x7_1 < (l0_0.length : Int)) = true := decide_eq_true c13
        clear c13
        by_cases c14 : ((rd_T60 l0_0 x7_1).f0) = a1
        ·rw [if_pos c14] at H
         have c14b0 : (((rd_T60 l0_0 x7_1).f0) == a1) = true := beq_iff_eq.mpr c14
         have c14b1 : (((rd_T60 l0_0 x7_1).f0) != a1) = false := bne_eq_false_iff_eq.mpr c14
         clear c14
         by_cases c15 : ((rd_T60 l0_0 x7_1).f2) > a2
         ·rw [if_pos c15] at H
          have c15b0 : decide (a2 < ((rd_T60 l0_0 x7_1).f2)) = true := decide_eq_true c15
          clear c15
          obtain rfl := Option.some.inj H
          have Z16 := zz2 BK201
          have p203 : 0 ≤ (x7_1 : Int) := of_decide_eq_true (by first | (with_reducible assumption) | assumption)
          have q203 : x7_1 < (l0_0.length : Int) := of_decide_eq_true (by first | (with_reducible assumption) | assumption)
          obtain ⟨ad203, e203, hx203_0, hx203_1, hx203_2⟩ := at_T60 HR0_0.out x7_1 p203 q203
          cases e203
          replace hx203_0 := cc_ HB hx203_0
          replace hx203_1 := cc_ HB hx203_1
          replace hx203_2 := cc_ HB hx203_2
          replace p203 := eq_true p203
          replace q203 := eq_true q203
          have p204 : 0 ≤ (x7_1 : Int) := of_decide_eq_true (by first | (with_reducible assumption) | assumption)
          have q204 : x7_1 < (l0_0.length : Int) := of_decide_eq_true (by first | (with_reducible assumption) | assumption)
          obtain ⟨ad204, e204, hx204_0, hx204_1, hx204_2⟩ := at_T60 HR0_0.out x7_1 p204 q204
          obtain rfl : ad203 = ad204 := (by injection e204)
          replace hx204_0 := cc_ HB hx204_0
          replace hx204_1 := cc_ HB hx204_1
          replace hx204_2 := cc_ HB hx204_2
          replace p204 := eq_true p204
          replace q204 := eq_true q204
          have p205 : 0 ≤ (x7_1 : Int) := of_decide_eq_true (by first | (with_reducible assumption) | assumption)
          have q205 : x7_1 < (l0_0.length : Int) := of_decide_eq_true (by first | (with_reducible assumption) | assumption)
          obtain ⟨ad205, e205, hx205_0, hx205_1, hx205_2⟩ := at_T60 HR0_0.out x7_1 p205 q205
          obtain rfl : ad203 = ad205 := (by injection e205)
          replace hx205_0 := cc_ HB hx205_0
          replace hx205_1 := cc_ HB hx205_1
          replace hx205_2 := cc_ HB hx205_2
          replace p205 := eq_true p205
          replace q205 := eq_true q205
          go_wp2
          go_ret
          exact ⟨by first | rfl | (simp [errW_none, errW_some] <;> rfl) | (simp [*, errW_none, errW_some] <;> rfl), hbA_ HB.out⟩
         ·rw [if_neg c15] at H
          have c15b0 : decide (a2 < ((rd_T60 l0_0 x7_1).f2)) = false := decide_eq_false c15
          clear c15
          have H' := Aside0.mk H
          clear H; have Z17 := zz2 BK201
          have p203 : 0 ≤ (x7_1 : Int) := of_decide_eq_true (by first | (with_reducible assumption) | assumption)
          have q203 : x7_1 < (l0_0.length : Int) := of_decide_eq_true (by first | (with_reducible assumption) | assumption)
          obtain ⟨ad203, e203, hx203_0, hx203_1, hx203_2⟩ := at_T60 HR0_0.out x7_1 p203 q203
          cases e203
          replace hx203_0 := cc_ HB hx203_0
          replace hx203_1 := cc_ HB hx203_1
          replace hx203_2 := cc_ HB hx203_2
          replace p203 := eq_true p203
          replace q203 := eq_true q203
          have p204 : 0 ≤ (x7_1 : Int) := of_decide_eq_true (by first | (with_reducible assumption) | assumption)
          have q204 : x7_1 < (l0_0.length : Int) := of_decide_eq_true (by first | (with_reducible assumption) | assumption)
          obtain ⟨ad204, e204, hx204_0, hx204_1, hx204_2⟩ := at_T60 HR0_0.out x7_1 p204 q204
          obtain rfl : ad203 = ad204 := (by injection e204)
          replace hx204_0 := cc_ HB hx204_0
          replace hx204_1 := cc_ HB hx204_1
          replace hx204_2 := cc_ HB hx204_2
          replace p204 := eq_true p204
          replace q204 := eq_true q204
          go_wp2
          go_roundg kj4
          case measure => have := HK1.out; have := HJ4.out; omega
          case rel => exact ⟨(wrap64 (x7_1 + 1)), (by first | rfl | (simp; done) | (simp [*]; done)), H', ⟨by have := HK1.out; have := HJ4.out; omega⟩, ⟨by refine kb_ ?_; exact BK201.out⟩, ⟨hbA_ HB.out⟩⟩
        ·rw [if_neg c14] at H
         have c14b0 : (((rd_T60 l0_0 x7_1).f0) == a1) = false := beq_eq_false_iff_ne.mpr c14
         have c14b1 : (((rd_T60 l0_0 x7_1).f0) != a1) = true := bne_iff_ne.mpr c14
         have H' := Aside0.mk H
         clear H; have Z18 := zz2 BK201
         have p203 : 0 ≤ (x7_1 : Int) := of_decide_eq_true (by first | (with_reducible assumption) | assumption)
         have q203 : x7_1 < (l0_0.length : Int) := of_decide_eq_true (by first | (with_reducible assumption) | assumption)
         obtain ⟨ad203, e203, hx203_0, hx203_1, hx203_2⟩ := at_T60 HR0_0.out x7_1 p203 q203
         cases e203
         replace hx203_0 := cc_ HB hx203_0
         replace hx203_1 := cc_ HB hx203_1
         replace hx203_2 := cc_ HB hx203_2
         replace p203 := eq_true p203
         replace q203 := eq_true q203
         go_wp2
         go_roundg kj4
         case measure => have := HK1.out; have := HJ4.out; omega
         case rel => exact ⟨(wrap64 (x7_1 + 1)), (by first | rfl | (simp; done) | (simp [*]; done)), H', ⟨by have := HK1.out; have := HJ4.out; omega⟩, ⟨by refine kb_ ?_; exact BK201.out⟩, ⟨hbA_ HB.out⟩⟩
       ·rw [if_neg c13] at H
        exact absurd H (by simp)
      ·rw [if_neg c12] at H
       exact absurd H (by simp)
     ·replace c11 := Bool.eq_false_iff.mpr c11
      subst c11
      rw [if_neg (show ¬ (false = true) by decide)] at H
      obtain rfl := Option.some.inj H
      go_wp2
      go_ret
      exact ⟨by first | rfl | (simp [errW_none, errW_some] <;> rfl) | (simp [*, errW_none, errW_some] <;> rfl), hbA_ HB.out⟩
def spec_NearSend.j0 : Nat → Int → List Int → Int → Bool → List (S60) → List (S36) → Option ((List (S60)) × (List (S36)) × Int)
 | 0, _, _, _, _, _, _ => none
 | k + 1, x1, x2, x3, x29, x207000, x207001 => if x29 = true then (some (([] : List (S60)), ([] : List (S36)), (-1))) else ((spec_l3Copy.f k x207000 x207001).bind fun bt211 => ((spec_NearFind.f k x207000 x207001 x1 x3).bind fun t218 => (if t218 ≥ 0 then (some (bt211.1, bt211.2, t218)) else ((some (([] : List Int) : List Int)).bind fun y219 => (if y219.length + x2.length < 140737488355328 then (if bt211.2.length < 4398046511104 then ((some (bt211.2 ++ [(⟨x1, (y219 ++ x2)⟩ : S36)] : List (S36))).bind fun y225 => (if (y225.length : Int) > 4 then (if 1 ≤ (y225.length : Int) then (some (bt211.1, (y225.drop (1 : Int).toNat), (-1))) else (none)) else (some (bt211.1, y225, (-1))))) else (none)) else (none))))))
def spec_NearSend.f (k : Nat) (l0_0 : List (S60)) (l0_1 : List (S36)) (a1 : Int) (l2 : List Int) (a3 : Int) : Option ((List (S60)) × (List (S36)) × Int) := (spec_NearOk.f k l0_0 l0_1).bind fun t208 => (if t208 = true then ((spec_l1In.f a1 0 65535).bind fun t209 => (if t209 = true then (if (l2.length : Int) > 64 then (spec_NearSend.j0 k a1 l2 a3 true l0_0 l0_1) else ((spec_l1In.f a3 0 999980).bind fun t210 => (spec_NearSend.j0 k a1 l2 a3 (!t210) l0_0 l0_1))) else (spec_NearSend.j0 k a1 l2 a3 true l0_0 l0_1))) else (spec_NearSend.j0 k a1 l2 a3 true l0_0 l0_1))
theorem spec_NearSend.mono_l : ∀ k, (∀ y0 y1 y2 y3 y4 y5, LeO (spec_NearSend.j0 k y0 y1 y2 y3 y4 y5) (spec_NearSend.j0 (k + 1) y0 y1 y2 y3 y4 y5))
 | 0 => fun _ _ _ _ _ _ r h => by simp [spec_NearSend.j0] at h
 | k + 1 => by
  have ih0 := spec_NearSend.mono_l k
  ·intro y0 y1 y2 y3 y4 y5
   unfold spec_NearSend.j0
   repeat' first | (with_reducible first | apply ih0 | apply spec_NearFind.mono | apply spec_NearOk.mono | apply spec_l3Copy.mono | exact LeO.refl _ | exact LeO.none _ | refine LeO.ite ?_ ?_ | refine LeO.bind ?_ fun _ => ?_) | apply ih0 | apply spec_NearFind.mono | apply spec_NearOk.mono | apply spec_l3Copy.mono | exact LeO.none _ | refine LeO.ite ?_ ?_ | refine LeO.bind ?_ fun _ => ?_
theorem spec_NearSend.mono : ∀ a0 a1 a2 a3 a4 k, LeO (spec_NearSend.f k a0 a1 a2 a3 a4) (spec_NearSend.f (k + 1) a0 a1 a2 a3 a4) := by
 intro a0 a1 a2 a3 a4 k
 have ih0 := spec_NearSend.mono_l k
 unfold spec_NearSend.f
 repeat' first | (with_reducible first | apply ih0 | apply spec_NearFind.mono | apply spec_NearOk.mono | apply spec_l3Copy.mono | exact LeO.refl _ | exact LeO.none _ | refine LeO.ite ?_ ?_ | refine LeO.bind ?_ fun _ => ?_) | apply ih0 | apply spec_NearFind.mono | apply spec_NearOk.mono | apply spec_l3Copy.mono | exact LeO.none _ | refine LeO.ite ?_ ?_ | refine LeO.bind ?_ fun _ => ?_
def spec_NearSend.T7 : Bool × List (List Nat × List Nat) := (true, [([], []), ([0], [0]), ([], []), ([], []), ([], []), ([3, 4], [3, 4]), ([2, 5], [2, 5]), ([6], [6]), ([1, 7, 5], [1, 7]), ([0, 1, 2, 3, 4, 5, 6, 7, 8], []), ([9, 8, 8, 0, 1, 2, 3, 4, 5, 6, 7, 8], [8, 9])])
def spec_NearSend.B7 : List Nat := [0, 1, 0, 0, 0, 24, 60, 124, 255, 511, 1023]
theorem spec_NearSend.tab7 : rtab .any (opsOf Try.f7 7) = spec_NearSend.T7 := by kernel_rfl
theorem spec_NearSend.bits7 : waitsOk spec_NearSend.T7.2 spec_NearSend.B7 = true := by kernel_rfl
set_option maxHeartbeats 8000000 in
set_option maxRecDepth 100000 in
theorem spec_NearSend.calls (k : Nat) (A0_0 : Option Addr) (c0_0 : Nat) (l0_0 : List (S60)) (A0_1 : Option Addr) (c0_1 : Nat) (l0_1 : List (S36)) (a1 : Int) (A2 : Option Addr) (c2 : Nat) (l2 : List Int) (a3 : Int) (r1 : List (S60)) (r2 : List (S36)) (r3 : Int) (w : World) (hr0_0 : Kd.C k60 w A0_0 l0_0.length l0_0) (hc0_0 : l0_0.length ≤ c0_0) (hr0_1 : Kd.C k36 w A0_1 l0_1.length l0_1) (hc0_1 : l0_1.length ≤ c0_1) (hr2 : Kd.C (Kd.int .u8) w A2 l2.length l2) (hc2 : l2.length ≤ c2) (h : spec_NearSend.f k l0_0 l0_1 a1 l2 a3 = some (r1, r2, r3)) :
  Calls Try.prog 7 #[.agg #[.slice A0_0 l0_0.length c0_0, .slice A0_1 l0_1.length c0_1], .int .i64 a1, .slice A2 l2.length c2, .int .i64 a3] w fun e w' => ∃ v0_ v1_ : Value, e = .returned (.tuple #[.agg #[v0_, v1_], .int .i64 r3]) ∧ Kd.R k60 60 w' w.heap.size (fun _ => True) v0_ r1 ∧ Kd.Q k36 36 w' w.heap.size (fun _ => True) v1_ r2 ∧ Below w.heap.size w w' := by
 have hu26 := Try.underlying26; have hu36 := Try.underlying36; have HR0_0 := Aside0.mk hr0_0; have HC0_0 := Aside0.mk hc0_0; clear hr0_0 hc0_0; have HR0_1 := Aside0.mk hr0_1; have HC0_1 := Aside0.mk hc0_1; clear hr0_1 hc0_1; have HR2 := Aside0.mk hr2; have HC2 := Aside0.mk hc2; clear hr2 hc2
 have HB := Aside0.mk (Below.refl w.heap.size w)
 have H : ((spec_NearOk.f k l0_0 l0_1).bind fun t208 => (if t208 = true then ((spec_l1In.f a1 0 65535).bind fun t209 => (if t209 = true then (if (l2.length : Int) > 64 then (spec_NearSend.j0 k a1 l2 a3 true l0_0 l0_1) else ((spec_l1In.f a3 0 999980).bind fun t210 => (spec_NearSend.j0 k a1 l2 a3 (!t210) l0_0 l0_1))) else (spec_NearSend.j0 k a1 l2 a3 true l0_0 l0_1))) else (spec_NearSend.j0 k a1 l2 a3 true l0_0 l0_1))) = some (r1, r2, r3) := h
 clear h; have HC5 := Aside0.mk H; clear H
 go_enter Try.func7, Try.ntmps7
 go_upto_region 1 with (first | ((with_reducible refine gate_dst (N := 4) rfl ?_); (try (refine gate_guard (by rfl) ?_; dsimp only)); refine box_ (N := 4) (cs := #[.slice A0_0 l0_0.length c0_0, .slice A0_1 l0_1.length c0_1]) (t := 26) (fun gb206 hg w6 hbox hb => ?_); have BK206 := Aside0.mk (hbox); have GW206 := ge_ hg HB; have GE206 := ge_ hg HB; replace HB := (bs_ HB hb); clear hb hbox hg) | ((with_reducible refine gate_dst (N := 8) rfl ?_); (try (refine gate_guard (by rfl) ?_; dsimp only)); refine box_ (N := 8) (cs := #[.slice none 0 0, .slice none 0 0]) (t := 26) (fun gb207 hg w7 hbox hb => ?_); have BK207 := Aside0.mk (hbox); have GW207 := ge_ hg HB; have GE207 := ge_ hg HB; replace HB := (bs_ HB hb); have NB206_207 := nl_ hg BK206; have NB207_206 := ng_ hg BK206; replace BK206 := (bbA_ BK206 hb); clear hb hbox hg))
 (try simp only [Act.put, List.setIfInBounds_toArray, List.set_cons_zero, List.set_cons_succ])
 go_cut [29] (fun v29 wc => ∃ (kq : Nat) (x29_4 : Bool), v29 = .bool x29_4 ∧ Aside0 (spec_NearSend.j0 kq a1 l2 a3 x29_4 l0_0 l0_1 = some (r1, r2, r3)) ∧ Aside0 (kq ≤ k) ∧ Aside0 (wc.heap[gb206]? = some (.cells #[(.slice A0_0 l0_0.length c0_0), (.slice A0_1 l0_1.length c0_1)] 26 (0, 0))) ∧ Aside0 (wc.heap[gb207]? = some (.cells #[(.slice none 0 0), (.slice none 0 0)] 26 (0, 0))) ∧ Aside0 (Below w.heap.size w wc))
 case first =>
  have H := HC5.out; clear HC5
  replace H := Option.bind_eq_some_iff.mp H
  obtain ⟨t208, A80, H⟩ := H
  (try dsimp only at H)
  have A8 := Aside0.mk A80; clear A80
  by_cases c9 : t208 = true
  ·subst c9
   rw [if_pos rfl] at H
   replace H := Option.bind_eq_some_iff.mp H
   obtain ⟨t209, A100, H⟩ := H
   (try dsimp only at H)
   have A10 := Aside0.mk A100; clear A100
   by_cases c11 : t209 = true
   ·subst c11
    rw [if_pos rfl] at H
    by_cases c12 : (l2.length : Int) > 64
    ·rw [if_pos c12] at H
     have c12b0 : decide (64 < (l2.length : Int)) = true := decide_eq_true c12
     have c12b1 : decide (64 < l2.length) = true := decide_eq_true (by omega)
     clear c12
     (first | rw [c12b0] | (simp only [i64_w, i32_w]; rw [c12b0]) | skip)
     have H' := Aside0.mk H
     clear H; have hnb13 := NB206_207.out; have hnc13 := NB207_206.out; have Z14 := zz2 BK206
     go_wp2_with (first | ((with_reducible refine gate_callee (f := 29) rfl ?_); refine goesL_ (some 13) rfl rfl Try.func29 (by kernel_rfl) rfl #[.agg #[.slice A0_0 l0_0.length c0_0, .slice A0_1 l0_1.length c0_1]] rfl ar_ ?_; (with_reducible refine (spec_NearOk.calls k _ _ l0_0 _ _ l0_1 true _ ?side1 ?side2 ?side3 ?side4 A8.out).mono ?_); (case side1 => exact kC_ (Kd.C_below HR0_0.out HB.out)); (case side2 => exact HC0_0.out); (case side3 => exact kC_ (Kd.C_below HR0_1.out HB.out)); (case side4 => exact HC0_1.out); rintro e w15 ⟨rfl, hb⟩; refine ⟨_, rfl, ?_⟩; replace BK206 := (bbA_ BK206 hb); replace BK207 := (bbA_ BK207 hb); replace HB := (bs_ HB hb); (try clear hb); (try clear hb2); (try clear hk); (try clear hi)) | (go_at_call 30; (with_reducible refine (spec_l1In.calls a1 0 65535 true _ A10.out).mono ?_); rintro e w' ⟨rfl, ⟨nd, rfl⟩⟩))
     go_meet
     case rel => exact ⟨_, (true), (by first | rfl | (simp; done) | (simp [*]; done)), H', ⟨by first | omega | exact Nat.le_refl _⟩, ⟨by refine kb_ ?_; exact BK206.out⟩, ⟨by refine kb_ ?_; exact BK207.out⟩, ⟨hbA_ HB.out⟩⟩
    ·rw [if_neg c12] at H
     have c12b0 : decide (64 < (l2.length : Int)) = false := decide_eq_false c12
     have c12b1 : decide (64 < l2.length) = false := decide_eq_false (by omega)
     clear c12
     (first | rw [c12b0] | (simp only [i64_w, i32_w]; rw [c12b0]) | skip)
     replace H := Option.bind_eq_some_iff.mp H
     obtain ⟨t210, A160, H⟩ := H
     (try dsimp only at H)
     have A16 := Aside0.mk A160; clear A160
     have H' := Aside0.mk H
     clear H; have hnb17 := NB206_207.out; have hnc17 := NB207_206.out; have Z18 := zz2 BK206
     go_wp2_with (first | ((with_reducible refine gate_callee (f := 29) rfl ?_); refine goesL_ (some 13) rfl rfl Try.func29 (by kernel_rfl) rfl #[.agg #[.slice A0_0 l0_0.length c0_0, .slice A0_1 l0_1.length c0_1]] rfl ar_ ?_; (with_reducible refine (spec_NearOk.calls k _ _ l0_0 _ _ l0_1 true _ ?side1 ?side2 ?side3 ?side4 A8.out).mono ?_); (case side1 => exact kC_ (Kd.C_below HR0_0.out HB.out)); (case side2 => exact HC0_0.out); (case side3 => exact kC_ (Kd.C_below HR0_1.out HB.out)); (case side4 => exact HC0_1.out); rintro e w19 ⟨rfl, hb⟩; refine ⟨_, rfl, ?_⟩; replace BK206 := (bbA_ BK206 hb); replace BK207 := (bbA_ BK207 hb); replace HB := (bs_ HB hb); (try clear hb); (try clear hb2); (try clear hk); (try clear hi)) | (go_at_call 30; (with_reducible refine (spec_l1In.calls a1 0 65535 true _ A10.out).mono ?_); rintro e w' ⟨rfl, ⟨nd, rfl⟩⟩) | (go_at_call 30; (with_reducible refine (spec_l1In.calls a3 0 999980 t210 _ A16.out).mono ?_); rintro e w' ⟨rfl, ⟨nd, rfl⟩⟩))
     go_meet
     case rel => exact ⟨_, (!t210), (by first | rfl | (simp; done) | (simp [*]; done)), H', ⟨by first | omega | exact Nat.le_refl _⟩, ⟨by refine kb_ ?_; exact BK206.out⟩, ⟨by refine kb_ ?_; exact BK207.out⟩, ⟨hbA_ HB.out⟩⟩
   ·replace c11 := Bool.eq_false_iff.mpr c11
    subst c11
    rw [if_neg (show ¬ (false = true) by decide)] at H
    have H' := Aside0.mk H
    clear H; have hnb20 := NB206_207.out; have hnc20 := NB207_206.out; have Z21 := zz2 BK206
    go_wp2_with (first | ((with_reducible refine gate_callee (f := 29) rfl ?_); refine goesL_ (some 13) rfl rfl Try.func29 (by kernel_rfl) rfl #[.agg #[.slice A0_0 l0_0.length c0_0, .slice A0_1 l0_1.length c0_1]] rfl ar_ ?_; (with_reducible refine (spec_NearOk.calls k _ _ l0_0 _ _ l0_1 true _ ?side1 ?side2 ?side3 ?side4 A8.out).mono ?_); (case side1 => exact kC_ (Kd.C_below HR0_0.out HB.out)); (case side2 => exact HC0_0.out); (case side3 => exact kC_ (Kd.C_below HR0_1.out HB.out)); (case side4 => exact HC0_1.out); rintro e w22 ⟨rfl, hb⟩; refine ⟨_, rfl, ?_⟩; replace BK206 := (bbA_ BK206 hb); replace BK207 := (bbA_ BK207 hb); replace HB := (bs_ HB hb); (try clear hb); (try clear hb2); (try clear hk); (try clear hi)) | (go_at_call 30; (with_reducible refine (spec_l1In.calls a1 0 65535 false _ A10.out).mono ?_); rintro e w' ⟨rfl, ⟨nd, rfl⟩⟩))
    go_meet
    case rel => exact ⟨_, (true), (by first | rfl | (simp; done) | (simp [*]; done)), H', ⟨by first | omega | exact Nat.le_refl _⟩, ⟨by refine kb_ ?_; exact BK206.out⟩, ⟨by refine kb_ ?_; exact BK207.out⟩, ⟨hbA_ HB.out⟩⟩
  ·replace c9 := Bool.eq_false_iff.mpr c9
   subst c9
   rw [if_neg (show ¬ (false = true) by decide)] at H
   have H' := Aside0.mk H
   clear H; have hnb23 := NB206_207.out; have hnc23 := NB207_206.out; have Z24 := zz2 BK206
   go_wp2_with (first | ((with_reducible refine gate_callee (f := 29) rfl ?_); refine goesL_ (some 13) rfl rfl Try.func29 (by kernel_rfl) rfl #[.agg #[.slice A0_0 l0_0.length c0_0, .slice A0_1 l0_1.length c0_1]] rfl ar_ ?_; (with_reducible refine (spec_NearOk.calls k _ _ l0_0 _ _ l0_1 false _ ?side1 ?side2 ?side3 ?side4 A8.out).mono ?_); (case side1 => exact kC_ (Kd.C_below HR0_0.out HB.out)); (case side2 => exact HC0_0.out); (case side3 => exact kC_ (Kd.C_below HR0_1.out HB.out)); (case side4 => exact HC0_1.out); rintro e w25 ⟨rfl, hb⟩; refine ⟨_, rfl, ?_⟩; replace BK206 := (bbA_ BK206 hb); replace BK207 := (bbA_ BK207 hb); replace HB := (bs_ HB hb); (try clear hb); (try clear hb2); (try clear hk); (try clear hi)))
   go_meet
   case rel => exact ⟨_, (true), (by first | rfl | (simp; done) | (simp [*]; done)), H', ⟨by first | omega | exact Nat.le_refl _⟩, ⟨by refine kb_ ?_; exact BK206.out⟩, ⟨by refine kb_ ?_; exact BK207.out⟩, ⟨hbA_ HB.out⟩⟩
 case rest =>
  clear HC5; (try clear c1); (try clear c2); (try clear p2); (try clear c7); (try clear c9); (try clear c11); (try clear c12); (try clear c12b0); (try clear c12b1); (try clear c13); (try clear c17); (try clear c20); (try clear c23); (try clear Z14); (try clear Z18); (try clear Z21); (try clear Z24)
  obtain ⟨kq, x29_4, rfl, HA, HJ4, BK206, BK207, HB⟩ := hcut
  cases kq with
  | zero => exact absurd HA.out (by simp [spec_NearSend.j0])
  | succ kj4 =>
   have H := HA.out; clear HA
   simp only [spec_NearSend.j0] at H
   by_cases c26 : x29_4 = true
   ·subst c26
    rw [if_pos rfl] at H
    simp only [Option.some.injEq, Prod.mk.injEq] at H
    obtain ⟨rfl, rfl, rfl⟩ := H
    have hnb27 := NB207_206.out; have hnc27 := NB206_207.out; have Z28 := zz2 BK207
    go_wp2
    refine bodyPost_ret (results_ct rfl _ _ gb207 26 #[.slice none 0 0, .slice none 0 0] (0, 0) _ rfl (by refine kb_ ?_; refine pz2 (cs := #[.slice none 0 0, .slice none 0 0]) ?_; refine kb_ ?_; exact BK207.out) Try.underlying26 rfl (by kernel_rfl)) rfl ?_
    exact ⟨_, _, by first | rfl | (simp [errW_none, errW_some] <;> rfl) | (simp [*, errW_none, errW_some] <;> rfl), by first | exact Kd.R_nil _ _ _ _ _ | exact Kd.N_nil _ _ _ _ _ | exact Kd.V_nil _ _ _ _ _ | exact Kd.Q_nil _ _ _ _ _ | exact Kd.S_nil _ _ _ _ _, Kd.Q_of_R ((Kd.S_R (by first | exact Kd.S_nil _ _ _ _ _ | exact Kd.N_nil _ _ _ _ _ | exact Kd.V_nil _ _ _ _ _ | exact Kd.Q_nil _ _ _ _ _ | exact Kd.R_nil _ _ _ _ _))), hbA_ HB.out⟩
   ·replace c26 := Bool.eq_false_iff.mpr c26
    subst c26
    rw [if_neg (show ¬ (false = true) by decide)] at H
    replace H := Option.bind_eq_some_iff.mp H
    obtain ⟨⟨t211, t214⟩, A290, H⟩ := H
    (try dsimp only at H)
    have A29 := Aside0.mk A290; clear A290
    replace H := Option.bind_eq_some_iff.mp H
    obtain ⟨t218, A300, H⟩ := H
    (try dsimp only at H)
    have A30 := Aside0.mk A300; clear A300
    by_cases c31 : t218 ≥ 0
    ·rw [if_pos c31] at H
     have c31b0 : decide (0 ≤ t218) = true := decide_eq_true c31
     clear c31
     simp only [Option.some.injEq, Prod.mk.injEq] at H
     obtain ⟨rfl, rfl, rfl⟩ := H
     have hnb32 := NB206_207.out; have hnc32 := NB207_206.out; have Z33 := zz2 BK206
     go_wp2_with (first | ((with_reducible refine gate_callee (f := 31) rfl ?_); refine goesL_ (some 32) rfl rfl Try.func31 (by kernel_rfl) rfl #[.agg #[.slice A0_0 l0_0.length c0_0, .slice A0_1 l0_1.length c0_1]] rfl ar_ ?_; (with_reducible refine (spec_l3Copy.calls kj4 _ _ l0_0 _ _ l0_1 t211 t214 _ ?side1 ?side2 ?side3 ?side4 A29.out).mono ?_); (case side1 => exact kC_ (Kd.C_below HR0_0.out HB.out)); (case side2 => exact HC0_0.out); (case side3 => exact kC_ (Kd.C_below HR0_1.out HB.out)); (case side4 => exact HC0_1.out); rintro e w34 ⟨v212, v215, rfl, ho0, ho1, hb⟩; refine ⟨_, rfl, ?_⟩; have HO213 := Aside0.mk (Kd.R_lower ho0 (below_size (hbA_ HB.out))); have HO216 := Aside0.mk (Kd.S_lower ho1 (below_size (hbA_ HB.out))); replace BK206 := (bbA_ BK206 hb); replace BK207 := (bbA_ BK207 hb); replace HB := (bs_ HB hb); (try clear hb); (try clear hb2); (try clear hk); (try clear hi); (try clear ho0); (try clear ho1)) | ((with_reducible refine gate_dst (N := 10) rfl ?_); (try (refine gate_guard (by rfl) ?_; dsimp only)); refine box_ (N := 10) (cs := #[.slice none 0 0, .slice none 0 0]) (t := 26) (fun gb217 hg w35 hbox hb => ?_); replace HO213 := Aside0.mk (Kd.R_below (kR_ HO213.out) hb); replace HO216 := Aside0.mk (Kd.S_below (kS_ HO216.out) hb); have BK217 := Aside0.mk (hbox); have GW217 := ge_ hg HB; have GE217 := ge_ hg HB; replace HB := (bs_ HB hb); have NB206_217 := nl_ hg BK206; have NB217_206 := ng_ hg BK206; replace BK206 := (bbA_ BK206 hb); have NB207_217 := nl_ hg BK207; have NB217_207 := ng_ hg BK207; replace BK207 := (bbA_ BK207 hb); clear hb hbox hg; obtain ⟨Ao36, co36, eo36⟩ := Kd.R_slice HO213.out; subst eo36; have hnb37 := NB217_206.out; have hnc37 := NB206_217.out; have hnb38 := NB217_207.out; have hnc38 := NB207_217.out; have Z39 := zz2 BK217; obtain ⟨Ao40, co40, eo40⟩ := Kd.S_slice HO216.out; subst eo40; have Z41 := zz2 BK206) | ((with_reducible refine gate_callee (f := 32) rfl ?_); refine goesL_ (some 36) rfl rfl Try.func32 (by kernel_rfl) rfl #[.agg #[.slice A0_0 l0_0.length c0_0, .slice A0_1 l0_1.length c0_1], .int .i64 a1, .int .i64 a3] rfl ar_ ?_; (with_reducible refine (spec_NearFind.calls kj4 _ _ l0_0 _ _ l0_1 a1 a3 t218 _ ?side1 ?side2 ?side3 ?side4 A30.out).mono ?_); (case side1 => exact Kd.C_below HR0_0.out (hbA_ HB.out)); (case side2 => exact HC0_0.out); (case side3 => exact Kd.C_below HR0_1.out (hbA_ HB.out)); (case side4 => exact HC0_1.out); rintro e w42 ⟨rfl, hb⟩; refine ⟨_, rfl, ?_⟩; replace HO213 := Aside0.mk (Kd.R_below (by refine kR_ ?_; exact (rfm_ ((Kd.R_types HO213.out BK217.out (by decide))) (fun _ h_ => op1_ h_))) hb); replace HO216 := Aside0.mk (Kd.S_below (by refine kS_ ?_; exact (Kd.S_mono (Kd.S_far (p := ⟨gb217, 1, none⟩) (Kd.S_far (p := ⟨gb217, 0, none⟩) (Kd.S_types HO216.out BK217.out (by decide)) (fun _ hk => hk.2) (.slice Ao36 t211.length co36)) (fun _ hk => hk.2) (.slice Ao40 t214.length co40)) (fun _ h_ => op1_ h_))) hb); replace BK206 := Aside0.mk (blk_below (g := gb206) (o := .cells #[.slice A0_0 l0_0.length c0_0, .slice A0_1 l0_1.length c0_1] 26 (0, 0)) (by exact kf_ BK206.out) hb); replace BK207 := Aside0.mk (blk_below (g := gb207) (o := .cells #[.slice none 0 0, .slice none 0 0] 26 (0, 0)) (by exact kf_ BK207.out) hb); replace BK217 := Aside0.mk (blk_below (g := gb217) (o := .cells #[.slice Ao36 t211.length co36, .slice Ao40 t214.length co40] 26 (0, 0)) (by refine kb_ ?_; refine pz2 (cs := #[.slice none 0 0, .slice none 0 0]) ?_; refine kb_ ?_; exact BK217.out) hb); replace HB := (bs_ HB hb); (try clear hb); (try clear hb2); (try clear hk); (try clear hi); have Z43 := zz2 BK217; have Z44 := zz2 BK207))
     refine bodyPost_ret (results_ct rfl _ _ gb207 26 #[.slice Ao36 t211.length co36, .slice Ao40 t214.length co40] (0, 0) _ rfl (by refine kb_ ?_; refine pz2 (cs := #[.slice none 0 0, .slice none 0 0]) ?_; refine kb_ ?_; exact BK207.out) Try.underlying26 rfl (by kernel_rfl)) rfl ?_
     exact ⟨_, _, by first | rfl | (simp [errW_none, errW_some] <;> rfl) | (simp [*, errW_none, errW_some] <;> rfl), by refine kR_ ?_; exact rfm_ ((Kd.R_types HO213.out BK207.out (by decide))) (fun _ hk => trivial), Kd.Q_of_R ((Kd.S_R (by refine kS_ ?_; exact Kd.S_mono (Kd.S_far (p := ⟨gb207, 1, none⟩) (Kd.S_far (p := ⟨gb207, 0, none⟩) (Kd.S_types HO216.out BK207.out (by decide)) (fun _ hk => hk.2) (.slice Ao36 t211.length co36)) (fun _ hk => hk.2) (.slice Ao40 t214.length co40)) (fun _ hk => trivial)))), hbA_ HB.out⟩
    ·rw [if_neg c31] at H
     have c31b0 : decide (0 ≤ t218) = false := decide_eq_false c31
     clear c31
     obtain ⟨y219, hy219⟩ : ∃ y_ : List Int, y_ = (([] : List Int)) := ⟨_, rfl⟩
     (first | replace H := sb_ hy219 H | rw [← hy219] at H)
     have Ny219 := Aside0.mk hy219; clear hy219
     by_cases c45 : y219.length + l2.length < 140737488355328
     ·rw [if_pos c45] at H
      have LMc45 := Aside0.mk c45; clear c45
      obtain ⟨y222, hy222⟩ : ∃ y_ : List Int, y_ = (y219 ++ l2) := ⟨_, rfl⟩
      (first | replace H := sb_ hy222 H | rw [← hy222] at H)
      have Ny222 := Aside0.mk hy222; clear hy222
      by_cases c46 : t214.length < 4398046511104
      ·rw [if_pos c46] at H
       have LMc46 := Aside0.mk c46; clear c46
       obtain ⟨y225, hy225⟩ : ∃ y_ : List (S36), y_ = (t214 ++ [(⟨a1, y222⟩ : S36)]) := ⟨_, rfl⟩
       (first | replace H := sb_ hy225 H | rw [← hy225] at H)
       have Ny225 := Aside0.mk hy225; clear hy225
       by_cases c47 : (y225.length : Int) > 4
       ·rw [if_pos c47] at H
        have c47b0 : decide (4 < (y225.length : Int)) = true := decide_eq_true c47
        have c47b1 : decide (4 < y225.length) = true := decide_eq_true (by omega)
        clear c47
        by_cases c48 : 1 ≤ (y225.length : Int)
        ·rw [if_pos c48] at H
         have c48b0 := eq_true c48
         have c48b1 : decide (1 ≤ (y225.length : Int)) = true := decide_eq_true c48
         clear c48
         obtain ⟨y228, hy228⟩ : ∃ y_ : List (S36), y_ = (y225.drop (1 : Int).toNat) := ⟨_, rfl⟩
         (first | replace H := sb_ hy228 H | rw [← hy228] at H)
         have Ny228 := Aside0.mk hy228; clear hy228
         simp only [Option.some.injEq, Prod.mk.injEq] at H
         obtain ⟨rfl, rfl, rfl⟩ := H
         have hnb49 := NB206_207.out; have hnc49 := NB207_206.out; have Z50 := zz2 BK206
         try go_wp2_with (first | ((with_reducible refine gate_callee (f := 31) rfl ?_); refine goesL_ (some 32) rfl rfl Try.func31 (by kernel_rfl) rfl #[.agg #[.slice A0_0 l0_0.length c0_0, .slice A0_1 l0_1.length c0_1]] rfl ar_ ?_; (with_reducible refine (spec_l3Copy.calls kj4 _ _ l0_0 _ _ l0_1 t211 t214 _ ?side1 ?side2 ?side3 ?side4 A29.out).mono ?_); (case side1 => exact kC_ (Kd.C_below HR0_0.out HB.out)); (case side2 => exact HC0_0.out); (case side3 => exact kC_ (Kd.C_below HR0_1.out HB.out)); (case side4 => exact HC0_1.out); rintro e w51 ⟨v212, v215, rfl, ho0, ho1, hb⟩; refine ⟨_, rfl, ?_⟩; have HO213 := Aside0.mk (Kd.R_lower ho0 (below_size (hbA_ HB.out))); have HO216 := Aside0.mk (Kd.S_lower ho1 (below_size (hbA_ HB.out))); replace BK206 := (bbA_ BK206 hb); replace BK207 := (bbA_ BK207 hb); replace HB := (bs_ HB hb); (try clear hb); (try clear hb2); (try clear hk); (try clear hi); (try clear ho0); (try clear ho1)) | ((with_reducible refine gate_dst (N := 10) rfl ?_); (try (refine gate_guard (by rfl) ?_; dsimp only)); refine box_ (N := 10) (cs := #[.slice none 0 0, .slice none 0 0]) (t := 26) (fun gb217 hg w52 hbox hb => ?_); replace HO213 := Aside0.mk (Kd.R_below (kR_ HO213.out) hb); replace HO216 := Aside0.mk (Kd.S_below (kS_ HO216.out) hb); have BK217 := Aside0.mk (hbox); have GW217 := ge_ hg HB; have GE217 := ge_ hg HB; replace HB := (bs_ HB hb); have NB206_217 := nl_ hg BK206; have NB217_206 := ng_ hg BK206; replace BK206 := (bbA_ BK206 hb); have NB207_217 := nl_ hg BK207; have NB217_207 := ng_ hg BK207; replace BK207 := (bbA_ BK207 hb); clear hb hbox hg; obtain ⟨Ao53, co53, eo53⟩ := Kd.R_slice HO213.out; subst eo53; have hnb54 := NB217_206.out; have hnc54 := NB206_217.out; have hnb55 := NB217_207.out; have hnc55 := NB207_217.out; have Z56 := zz2 BK217; obtain ⟨Ao57, co57, eo57⟩ := Kd.S_slice HO216.out; subst eo57; have Z58 := zz2 BK206) | ((with_reducible refine gate_callee (f := 32) rfl ?_); refine goesL_ (some 36) rfl rfl Try.func32 (by kernel_rfl) rfl #[.agg #[.slice A0_0 l0_0.length c0_0, .slice A0_1 l0_1.length c0_1], .int .i64 a1, .int .i64 a3] rfl ar_ ?_; (with_reducible refine (spec_NearFind.calls kj4 _ _ l0_0 _ _ l0_1 a1 a3 t218 _ ?side1 ?side2 ?side3 ?side4 A30.out).mono ?_); (case side1 => exact Kd.C_below HR0_0.out (hbA_ HB.out)); (case side2 => exact HC0_0.out); (case side3 => exact Kd.C_below HR0_1.out (hbA_ HB.out)); (case side4 => exact HC0_1.out); rintro e w59 ⟨rfl, hb⟩; refine ⟨_, rfl, ?_⟩; replace HO213 := Aside0.mk (Kd.R_below (by refine kR_ ?_; exact (rfm_ ((Kd.R_types HO213.out BK217.out (by decide))) (fun _ h_ => op1_ h_))) hb); replace HO216 := Aside0.mk (Kd.S_below (by refine kS_ ?_; exact (Kd.S_mono (Kd.S_far (p := ⟨gb217, 1, none⟩) (Kd.S_far (p := ⟨gb217, 0, none⟩) (Kd.S_types HO216.out BK217.out (by decide)) (fun _ hk => hk.2) (.slice Ao53 t211.length co53)) (fun _ hk => hk.2) (.slice Ao57 t214.length co57)) (fun _ h_ => op1_ h_))) hb); replace BK206 := Aside0.mk (blk_below (g := gb206) (o := .cells #[.slice A0_0 l0_0.length c0_0, .slice A0_1 l0_1.length c0_1] 26 (0, 0)) (by exact kf_ BK206.out) hb); replace BK207 := Aside0.mk (blk_below (g := gb207) (o := .cells #[.slice none 0 0, .slice none 0 0] 26 (0, 0)) (by exact kf_ BK207.out) hb); replace BK217 := Aside0.mk (blk_below (g := gb217) (o := .cells #[.slice Ao53 t211.length co53, .slice Ao57 t214.length co57] 26 (0, 0)) (by refine kb_ ?_; refine pz2 (cs := #[.slice none 0 0, .slice none 0 0]) ?_; refine kb_ ?_; exact BK217.out) hb); replace HB := (bs_ HB hb); (try clear hb); (try clear hb2); (try clear hk); (try clear hi)))
         replace HO213 := Aside0.mk (Kd.R_drew HO213.out); replace HO216 := Aside0.mk (Kd.S_drew HO216.out); replace BK206 := Aside0.mk (blk_drew BK206.out); replace BK207 := Aside0.mk (blk_drew BK207.out); replace BK217 := Aside0.mk (blk_drew BK217.out); replace HB := (bd_ HB)
         refine start_ (n := 11) (S := fun w' => w'.cell? ⟨gb217, 0, none⟩ = some (.slice Ao53 t211.length co53) ∧ w'.cell? ⟨gb217, 1, none⟩ = some (.slice Ao57 t214.length co57)) (ds := [10]) #[false, false, false, false, false, false, false, false, false, false, false] (by kernel_rfl) rfl rfl (cz2 BK217.out) (fun hHeld => ?_); refine with_tabW spec_NearSend.tab7 spec_NearSend.bits7 (fun HT_ HW_ => ?_)
         generalize w59.drew = w60 at HO213 HO216 BK206 BK207 BK217 HB hHeld ⊢
         refine pu_ (i := 0) (N := some 41) HT_ ?_; refine pu_ (i := 2) (N := some 43) HT_ ?_; refine pu_ (i := 4) (N := some 45) HT_ ?_; refine tk_ (i := 1) (N := some 42) HT_ HW_ hHeld ?_
         refine on_ (i := 3) (N := some 44) HT_ (fun K hK => ?_)
         refine Kd.R_lit_step (Kd.int .u8) _ 5 ?hg (N := 44) ?hd (xs := ([] : List Int)) (inner := []) (ok := fun _ => True) (okp := fun _ => True) ?hr ?hp (fun _ hk => hk) trivial (Below.refl _ _) (Nat.le_refl _) (by simp) ?_; (case hd => rfl); (case hg => rfl); (case hr => first | (go_simp; done) | (go_simp; rfl)); (case hp => exact (Reps.none _ _))
         intro v220 w61 ho62 hb hg_ hnew_
         clear hg_ hnew_
         (first | rw [← Ny219.out] at ho62 | (simp only [Int.reduceToNat] at ho62; rw [← Ny219.out] at ho62))
         have n0_ := Aside0.mk (Kd.R_below (kR_ HO213.out) hb); have n1_ := Aside0.mk (Kd.S_elder' (kS_ HO216.out) (Kd.R_base ho62) hb); have n2_ := Aside0.mk (Kd.R_lower ho62 (below_size (hbA_ HB.out))); have n3_ := (bbA_ BK206 hb); have n4_ := (bbA_ BK207 hb); have n5_ := (bbA_ BK217 hb); have n6_ := (bs_ HB hb); clear HO213 HO216 BK206 BK207 BK217 HB; have HO213 := n0_; have HO216 := n1_; have HO221 := n2_; have BK206 := n3_; have BK207 := n4_; have BK217 := n5_; have HB := n6_; clear n0_ n1_ n2_ n3_ n4_ n5_ n6_ hb ho62
         refine hK.out _ _ (cz2 BK217.out) (fun hHeld => ?_)
         clear hK K; refine nm_ 44 ?_
         refine on_ (i := 5) (N := some 46) HT_ (fun K hK => ?_)
         refine Kd.R_append_rows_step (Kd.int .u8) (w0 := w) w.heap.size (by rfl) (.tmp 44) (.tmp 45) 22 5 (.int .u8 0) 1 rfl Try.underlying22 info5 rfl (by decide) (by omega) v220 y219 l2 _ _ _ (fun _ => True) (fun _ => False) rfl rfl ?aO ?aR (fun _ _ h => h) (fun _ h => h.elim) ?aF ?aB ?aS ?aL ?_
         (case aR => exact kC_ (Kd.C_below HR2.out HB.out))
         (case aB => exact (hbA_ HB.out))
         (case aF => exact (fun _ _ => trivial))
         (case aO => exact (kR_ HO221.out))
         (case aS => exact (below_size (hbA_ HB.out)))
         (case aL => have := LMc45.out; omega)
         intro v223 w63 ho hb hg hat
         rw [← Ny222.out] at ho
         have n0_ := (bgA_ BK206 hg (Kd.R_ne HO221.out BK206.out (by decide))); have n1_ := (bgA_ BK207 hg (Kd.R_ne HO221.out BK207.out (by decide))); have n2_ := Aside0.mk (Kd.R_over' (kR_ HO213.out) (Kd.R_typed (kR_ HO221.out)) (by decide) hg); have n3_ := Aside0.mk (Kd.S_after (ok := (fun _ => True)) (kS_ HO216.out) hg hat); have n4_ := (bgA_ BK217 hg (Kd.R_ne HO221.out BK217.out (by decide))); have n5_ := Aside0.mk (hb); have n6_ := Aside0.mk (ho); clear BK206 BK207 HO213 HO216 BK217 HB HO221; have BK206 := n0_; have BK207 := n1_; have HO213 := n2_; have HO216 := n3_; have BK217 := n4_; have HB := n5_; have HO224 := n6_; clear n0_ n1_ n2_ n3_ n4_ n5_ n6_ ho hb hg hat
         obtain ⟨Ao64, co64, eo64⟩ := Kd.R_slice HO224.out
         (first | subst eo64 | (injection eo64 with f1_ f2_ f3_; have f4_ := f1_.symm; have f5_ := f3_.symm; clear f1_ f2_ f3_; subst f4_; subst f5_))
         refine hK.out _ _ (cz2 BK217.out) (fun hHeld => ?_)
         clear hK K; refine nm_ 46 ?_; refine pu_ (i := 6) (N := some 47) HT_ ?_
         refine on_ (i := 7) (N := some 48) HT_ (fun K hK => ?_)
         refine value_ (w1 := ?_) (v := ?_) (by rfl) rfl ?_ ?_
         rotate_left 2
         ·go_simp
          constructor
          ·rfl
          ·rfl
         refine hK.out _ _ ⟨(blk_cell (blk_alloc BK217.out _) 0).trans rfl, (blk_cell (blk_alloc BK217.out _) 1).trans rfl⟩ (fun hHeld => ?_)
         clear hK K; refine nm_ 48 ?_
         refine on_ (i := 8) (N := some 49) HT_ (fun K hK => ?_)
         refine Kd.S_append_step k36 (w0 := w) w.heap.size (by rfl) (.tmp 42) (.tmp 48) 24 36 (.agg #[(.int .i64 0), (.slice none 0 0)]) 32 rfl Try.underlying24 info36 rfl (by decide) (by omega) (.slice Ao57 t214.length co57) t214 (⟨a1, y222⟩ : S36) [.int .i64 a1, .slice Ao64 y222.length co64] (fun _ => True) (fun k_ => some k_ = (.slice Ao64 y222.length co64 : Value).ownBlock) rfl rfl ?aP (fun k_ hk_ => ((Kd.R_mono (ok' := fun k_ => ((fun _ => True)) k_ ∧ some k_ ≠ (.slice Ao57 t214.length co57 : Value).ownBlock) (Kd.R_apart' (HO224.out) (Kd.S_typed HO216.out) (by decide)) (fun k_ hk => ⟨trivial, hk.2⟩))).1 k_ hk_.symm) ?aF ?aO ?aB ?aS ?aL ?_
         (case aP => exact k36_mkM _ _ _ (⟨a1, y222⟩ : S36) (Kd.R_mono (Kd.R_tight rfl (Kd.R_mono (ok' := fun k_ => ((fun _ => True)) k_ ∧ some k_ ≠ (.slice Ao57 t214.length co57 : Value).ownBlock) (Kd.R_apart' (HO224.out) (Kd.S_typed HO216.out) (by decide)) (fun k_ hk => ⟨trivial, hk.2⟩))) (fun _ h_ => h_)))
         (case aB => exact (hbA_ HB.out))
         (case aF => exact (fun _ _ => trivial))
         (case aO => exact (by refine kS_ ?_; exact Kd.S_mono HO216.out (fun k_ hk => ⟨trivial, fun e_ => hk.2 e_⟩)))
         (case aS => exact (below_size (hbA_ HB.out)))
         (case aL => have := LMc46.out; omega)
         intro v226 w65 ho hb hg hat
         rw [← Ny225.out] at ho
         have n0_ := (bgA_ BK206 hg (Kd.S_ne HO216.out BK206.out (by decide))); have n1_ := (bgA_ BK207 hg (Kd.S_ne HO216.out BK207.out (by decide))); have n2_ := Aside0.mk (Kd.R_over' (kR_ HO213.out) (Kd.S_typed (kS_ HO216.out)) (by decide) hg); have n3_ := (bgA_ BK217 hg (Kd.S_ne HO216.out BK217.out (by decide))); have n4_ := Aside0.mk (hb); have n5_ := Aside0.mk (ho); clear BK206 BK207 HO213 BK217 HB HO216 HO224; have BK206 := n0_; have BK207 := n1_; have HO213 := n2_; have BK217 := n3_; have HB := n4_; have HO227 := n5_; clear n0_ n1_ n2_ n3_ n4_ n5_ ho hb hg hat
         obtain ⟨Ao66, co66, eo66⟩ := Kd.S_slice HO227.out
         (first | subst eo66 | (injection eo66 with f1_ f2_ f3_; have f4_ := f1_.symm; have f5_ := f3_.symm; clear f1_ f2_ f3_; subst f4_; subst f5_))
         refine hK.out _ _ (cz2 BK217.out) (fun hHeld => ?_)
         clear hK K; refine nm_ 49 ?_; refine pu_ (i := 9) (N := some 50) HT_ ?_
         refine last_ (i := 10) (N := none) #[true, true, true, true, true, true, true, true, true, true, true] rfl rfl (one_of HT_.out (by kernel_rfl)) (by decide) (fun K hK => ?_)
         have hs67 : w65.cell? ⟨gb217, 1, none⟩ = some (.slice Ao57 t214.length co57) := bc_ BK217 1
         have hfs67 := blk_frozen BK217.out 1
         have hns67_0 := NB206_217.out; have hns67_1 := NB207_217.out; have hms67_0 := NB217_206.out; have hms67_1 := NB217_207.out
         refine skip_ (w1 := ?_) (by rfl) rfl ?_ ?_
         rotate_left
         ·go_simp
          rfl
         refine hK.out _ _ ?_
         clear hK K
         refine done_ (done_of HT_.out (by kernel_rfl)) ?_
         obtain ⟨w68, h_w68⟩ : ∃ w_, (w65.setCell ⟨gb217, 1, none⟩ (.slice Ao66 y225.length co66)) = w_ := ⟨_, rfl⟩
         have n0_ : Aside0 (Kd.R k60 60 w68 w.heap.size (fun _ => True) (.slice Ao53 t211.length co53) t211) := ⟨by subst h_w68; refine kR_ ?_; exact Kd.R_mono (Kd.R_f gb217 1 (.slice Ao66 y225.length co66) (Kd.R_types HO213.out BK217.out (by decide))) (fun _ hk => trivial)⟩
         have n1_ : Aside0 (Kd.S k36 36 w68 w.heap.size (fun _ => True) (.slice Ao66 y225.length co66) y225) := ⟨by subst h_w68; refine kS_ ?_; exact Kd.S_mono (Kd.S_far (p := ⟨gb217, 1, none⟩) (Kd.S_types HO227.out BK217.out (by decide)) (fun _ hk => hk.2) (.slice Ao66 y225.length co66)) (fun _ hk => trivial)⟩
         have n2_ : Aside0 (w68.heap[gb206]? = some (.cells #[.slice A0_0 l0_0.length c0_0, .slice A0_1 l0_1.length c0_1] 26 (0, 0))) := ⟨by subst h_w68; exact kf_ BK206.out⟩
         have n3_ : Aside0 (w68.heap[gb207]? = some (.cells #[.slice none 0 0, .slice none 0 0] 26 (0, 0))) := ⟨by subst h_w68; exact kf_ BK207.out⟩
         have n4_ : Aside0 (w68.heap[gb217]? = some (.cells #[.slice Ao53 t211.length co53, .slice Ao66 y225.length co66] 26 (0, 0))) := ⟨by subst h_w68; refine kb_ ?_; refine blk_put (cs := #[.slice Ao53 t211.length co53, .slice Ao57 t214.length co57]) ?_ 1 _ rfl; refine kb_ ?_; exact BK217.out⟩
         have n5_ : Aside0 (Below w.heap.size w w68) := ⟨by subst h_w68; exact hbA_ HB.out⟩
         (try clear HO213); (try clear HO227); (try clear BK206); (try clear BK207); (try clear BK217); (try clear HB)
         (try rw [h_w68]); clear h_w68
         have HO213 := n0_; have HO227 := n1_; have BK206 := n2_; have BK207 := n3_; have BK217 := n4_; have HB := n5_; clear n0_ n1_ n2_ n3_ n4_ n5_; have Z69 := zz2 BK217
         have q70 : (1 : Int) ≤ ((y225.length : Int) : Int) := of_decide_eq_true (by first | (with_reducible assumption) | assumption)
         obtain ⟨i070, hi070, _, hsz70, _⟩ := info_parts info36
         have hcut70 := cut_from (P := Try.prog) 24 36 .i64 Try.underlying24 hi070 2 hsz70 Ao66 y225.length co66 1 (by omega) q70
         have hr70 := Kd.Q_drop (k := (1 : Int).toNat) (Kd.Q_of_R (Kd.S_R HO227.out)) (by omega)
         obtain ⟨A70, hA70⟩ : ∃ A1, A1 = (if co66 = (1 : Int).toNat then Ao66 else (Ao66 : Option Addr).map (·.add ((1 : Int).toNat * 2))) := ⟨_, rfl⟩
         obtain ⟨c70, hc70⟩ : ∃ c1, c1 = co66 - (1 : Int).toNat := ⟨_, rfl⟩
         have hy70 : y228.length = y225.length - (1 : Int).toNat := (by rw [Ny228.out, List.length_drop])
         rw [← Ny228.out] at hr70
         rw [← hy70, ← hA70, ← hc70] at hcut70
         replace hr70 : Kd.Q k36 36 w68 w.heap.size (fun _ => True) (.slice A70 y228.length c70) y228 := (by rw [hA70, hc70, hy70]; exact hr70)
         have HE70 : Aside0 ((Value.slice A70 y228.length c70).ownBlock = (.slice Ao66 y225.length co66 : Value).ownBlock) := ⟨by rw [hA70]; split <;> (cases (Ao66 : Option Addr) <;> first | rfl | simp [Value.ownBlock, add_block])⟩
         clear hy70 hi070 hsz70 HO227 hA70 hc70; have HO230 := Aside0.mk hr70; clear hr70
         replace q70 := eq_true q70
         have Z71 := zz2 BK207
         try go_wp2
         refine bodyPost_ret (results_ct rfl _ _ gb207 26 #[.slice Ao53 t211.length co53, .slice A70 y228.length c70] (0, 0) _ rfl (by refine kb_ ?_; refine pz2 (cs := #[.slice none 0 0, .slice none 0 0]) ?_; exact kf_ BK207.out) Try.underlying26 rfl (by kernel_rfl)) rfl ?_
         exact ⟨_, _, by first | rfl | (simp [errW_none, errW_some] <;> rfl) | (simp [*, errW_none, errW_some] <;> rfl), by refine kR_ ?_; exact rfm_ ((Kd.R_far (p := ⟨gb217, 1, none⟩) (Kd.R_types (Kd.R_types HO213.out BK217.out (by decide)) BK207.out (by decide)) (fun _ hk => hk.1.2) (.slice A70 y228.length c70))) (fun _ hk => trivial), by (with_reducible repeat (first | apply Kd.Q_alloc | apply Kd.Q_drewN | apply Kd.Q_drew)); exact Kd.Q_mono (Kd.Q_far (p := ⟨gb207, 1, none⟩) (Kd.Q_far (p := ⟨gb207, 0, none⟩) (Kd.Q_far (p := ⟨gb217, 1, none⟩) (Kd.Q_types (Kd.Q_types HO230.out BK217.out (by decide)) BK207.out (by decide)) (fun _ hk => hk.1.2) (.slice A70 y228.length c70)) (fun _ hk => hk.2) (.slice Ao53 t211.length co53)) (fun _ hk => hk.2) (.slice A70 y228.length c70)) (fun _ hk => trivial), hbA_ HB.out⟩
        ·rw [if_neg c48] at H
         exact absurd H (by simp)
       ·rw [if_neg c47] at H
        have c47b0 : decide (4 < (y225.length : Int)) = false := decide_eq_false c47
        have c47b1 : decide (4 < y225.length) = false := decide_eq_false (by omega)
        clear c47
        simp only [Option.some.injEq, Prod.mk.injEq] at H
        obtain ⟨rfl, rfl, rfl⟩ := H
        have hnb72 := NB206_207.out; have hnc72 := NB207_206.out; have Z73 := zz2 BK206
        try go_wp2_with (first | ((with_reducible refine gate_callee (f := 31) rfl ?_); refine goesL_ (some 32) rfl rfl Try.func31 (by kernel_rfl) rfl #[.agg #[.slice A0_0 l0_0.length c0_0, .slice A0_1 l0_1.length c0_1]] rfl ar_ ?_; (with_reducible refine (spec_l3Copy.calls kj4 _ _ l0_0 _ _ l0_1 t211 t214 _ ?side1 ?side2 ?side3 ?side4 A29.out).mono ?_); (case side1 => exact kC_ (Kd.C_below HR0_0.out HB.out)); (case side2 => exact HC0_0.out); (case side3 => exact kC_ (Kd.C_below HR0_1.out HB.out)); (case side4 => exact HC0_1.out); rintro e w74 ⟨v212, v215, rfl, ho0, ho1, hb⟩; refine ⟨_, rfl, ?_⟩; have HO213 := Aside0.mk (Kd.R_lower ho0 (below_size (hbA_ HB.out))); have HO216 := Aside0.mk (Kd.S_lower ho1 (below_size (hbA_ HB.out))); replace BK206 := (bbA_ BK206 hb); replace BK207 := (bbA_ BK207 hb); replace HB := (bs_ HB hb); (try clear hb); (try clear hb2); (try clear hk); (try clear hi); (try clear ho0); (try clear ho1)) | ((with_reducible refine gate_dst (N := 10) rfl ?_); (try (refine gate_guard (by rfl) ?_; dsimp only)); refine box_ (N := 10) (cs := #[.slice none 0 0, .slice none 0 0]) (t := 26) (fun gb217 hg w75 hbox hb => ?_); replace HO213 := Aside0.mk (Kd.R_below (kR_ HO213.out) hb); replace HO216 := Aside0.mk (Kd.S_below (kS_ HO216.out) hb); have BK217 := Aside0.mk (hbox); have GW217 := ge_ hg HB; have GE217 := ge_ hg HB; replace HB := (bs_ HB hb); have NB206_217 := nl_ hg BK206; have NB217_206 := ng_ hg BK206; replace BK206 := (bbA_ BK206 hb); have NB207_217 := nl_ hg BK207; have NB217_207 := ng_ hg BK207; replace BK207 := (bbA_ BK207 hb); clear hb hbox hg; obtain ⟨Ao76, co76, eo76⟩ := Kd.R_slice HO213.out; subst eo76; have hnb77 := NB217_206.out; have hnc77 := NB206_217.out; have hnb78 := NB217_207.out; have hnc78 := NB207_217.out; have Z79 := zz2 BK217; obtain ⟨Ao80, co80, eo80⟩ := Kd.S_slice HO216.out; subst eo80; have Z81 := zz2 BK206) | ((with_reducible refine gate_callee (f := 32) rfl ?_); refine goesL_ (some 36) rfl rfl Try.func32 (by kernel_rfl) rfl #[.agg #[.slice A0_0 l0_0.length c0_0, .slice A0_1 l0_1.length c0_1], .int .i64 a1, .int .i64 a3] rfl ar_ ?_; (with_reducible refine (spec_NearFind.calls kj4 _ _ l0_0 _ _ l0_1 a1 a3 t218 _ ?side1 ?side2 ?side3 ?side4 A30.out).mono ?_); (case side1 => exact Kd.C_below HR0_0.out (hbA_ HB.out)); (case side2 => exact HC0_0.out); (case side3 => exact Kd.C_below HR0_1.out (hbA_ HB.out)); (case side4 => exact HC0_1.out); rintro e w82 ⟨rfl, hb⟩; refine ⟨_, rfl, ?_⟩; replace HO213 := Aside0.mk (Kd.R_below (by refine kR_ ?_; exact (rfm_ ((Kd.R_types HO213.out BK217.out (by decide))) (fun _ h_ => op1_ h_))) hb); replace HO216 := Aside0.mk (Kd.S_below (by refine kS_ ?_; exact (Kd.S_mono (Kd.S_far (p := ⟨gb217, 1, none⟩) (Kd.S_far (p := ⟨gb217, 0, none⟩) (Kd.S_types HO216.out BK217.out (by decide)) (fun _ hk => hk.2) (.slice Ao76 t211.length co76)) (fun _ hk => hk.2) (.slice Ao80 t214.length co80)) (fun _ h_ => op1_ h_))) hb); replace BK206 := Aside0.mk (blk_below (g := gb206) (o := .cells #[.slice A0_0 l0_0.length c0_0, .slice A0_1 l0_1.length c0_1] 26 (0, 0)) (by exact kf_ BK206.out) hb); replace BK207 := Aside0.mk (blk_below (g := gb207) (o := .cells #[.slice none 0 0, .slice none 0 0] 26 (0, 0)) (by exact kf_ BK207.out) hb); replace BK217 := Aside0.mk (blk_below (g := gb217) (o := .cells #[.slice Ao76 t211.length co76, .slice Ao80 t214.length co80] 26 (0, 0)) (by refine kb_ ?_; refine pz2 (cs := #[.slice none 0 0, .slice none 0 0]) ?_; refine kb_ ?_; exact BK217.out) hb); replace HB := (bs_ HB hb); (try clear hb); (try clear hb2); (try clear hk); (try clear hi)))
        replace HO213 := Aside0.mk (Kd.R_drew HO213.out); replace HO216 := Aside0.mk (Kd.S_drew HO216.out); replace BK206 := Aside0.mk (blk_drew BK206.out); replace BK207 := Aside0.mk (blk_drew BK207.out); replace BK217 := Aside0.mk (blk_drew BK217.out); replace HB := (bd_ HB)
        refine start_ (n := 11) (S := fun w' => w'.cell? ⟨gb217, 0, none⟩ = some (.slice Ao76 t211.length co76) ∧ w'.cell? ⟨gb217, 1, none⟩ = some (.slice Ao80 t214.length co80)) (ds := [10]) #[false, false, false, false, false, false, false, false, false, false, false] (by kernel_rfl) rfl rfl (cz2 BK217.out) (fun hHeld => ?_); refine with_tabW spec_NearSend.tab7 spec_NearSend.bits7 (fun HT_ HW_ => ?_)
        generalize w82.drew = w83 at HO213 HO216 BK206 BK207 BK217 HB hHeld ⊢
        refine pu_ (i := 0) (N := some 41) HT_ ?_; refine pu_ (i := 2) (N := some 43) HT_ ?_; refine pu_ (i := 4) (N := some 45) HT_ ?_; refine tk_ (i := 1) (N := some 42) HT_ HW_ hHeld ?_
        refine on_ (i := 3) (N := some 44) HT_ (fun K hK => ?_)
        refine Kd.R_lit_step (Kd.int .u8) _ 5 ?hg (N := 44) ?hd (xs := ([] : List Int)) (inner := []) (ok := fun _ => True) (okp := fun _ => True) ?hr ?hp (fun _ hk => hk) trivial (Below.refl _ _) (Nat.le_refl _) (by simp) ?_; (case hd => rfl); (case hg => rfl); (case hr => first | (go_simp; done) | (go_simp; rfl)); (case hp => exact (Reps.none _ _))
        intro v220 w84 ho85 hb hg_ hnew_
        clear hg_ hnew_
        (first | rw [← Ny219.out] at ho85 | (simp only [Int.reduceToNat] at ho85; rw [← Ny219.out] at ho85))
        have n0_ := Aside0.mk (Kd.R_below (kR_ HO213.out) hb); have n1_ := Aside0.mk (Kd.S_elder' (kS_ HO216.out) (Kd.R_base ho85) hb); have n2_ := Aside0.mk (Kd.R_lower ho85 (below_size (hbA_ HB.out))); have n3_ := (bbA_ BK206 hb); have n4_ := (bbA_ BK207 hb); have n5_ := (bbA_ BK217 hb); have n6_ := (bs_ HB hb); clear HO213 HO216 BK206 BK207 BK217 HB; have HO213 := n0_; have HO216 := n1_; have HO221 := n2_; have BK206 := n3_; have BK207 := n4_; have BK217 := n5_; have HB := n6_; clear n0_ n1_ n2_ n3_ n4_ n5_ n6_ hb ho85
        refine hK.out _ _ (cz2 BK217.out) (fun hHeld => ?_)
        clear hK K; refine nm_ 44 ?_
        refine on_ (i := 5) (N := some 46) HT_ (fun K hK => ?_)
        refine Kd.R_append_rows_step (Kd.int .u8) (w0 := w) w.heap.size (by rfl) (.tmp 44) (.tmp 45) 22 5 (.int .u8 0) 1 rfl Try.underlying22 info5 rfl (by decide) (by omega) v220 y219 l2 _ _ _ (fun _ => True) (fun _ => False) rfl rfl ?aO ?aR (fun _ _ h => h) (fun _ h => h.elim) ?aF ?aB ?aS ?aL ?_
        (case aR => exact kC_ (Kd.C_below HR2.out HB.out))
        (case aB => exact (hbA_ HB.out))
        (case aF => exact (fun _ _ => trivial))
        (case aO => exact (kR_ HO221.out))
        (case aS => exact (below_size (hbA_ HB.out)))
        (case aL => have := LMc45.out; omega)
        intro v223 w86 ho hb hg hat
        rw [← Ny222.out] at ho
        have n0_ := (bgA_ BK206 hg (Kd.R_ne HO221.out BK206.out (by decide))); have n1_ := (bgA_ BK207 hg (Kd.R_ne HO221.out BK207.out (by decide))); have n2_ := Aside0.mk (Kd.R_over' (kR_ HO213.out) (Kd.R_typed (kR_ HO221.out)) (by decide) hg); have n3_ := Aside0.mk (Kd.S_after (ok := (fun _ => True)) (kS_ HO216.out) hg hat); have n4_ := (bgA_ BK217 hg (Kd.R_ne HO221.out BK217.out (by decide))); have n5_ := Aside0.mk (hb); have n6_ := Aside0.mk (ho); clear BK206 BK207 HO213 HO216 BK217 HB HO221; have BK206 := n0_; have BK207 := n1_; have HO213 := n2_; have HO216 := n3_; have BK217 := n4_; have HB := n5_; have HO224 := n6_; clear n0_ n1_ n2_ n3_ n4_ n5_ n6_ ho hb hg hat
        obtain ⟨Ao87, co87, eo87⟩ := Kd.R_slice HO224.out
        (first | subst eo87 | (injection eo87 with f1_ f2_ f3_; have f4_ := f1_.symm; have f5_ := f3_.symm; clear f1_ f2_ f3_; subst f4_; subst f5_))
        refine hK.out _ _ (cz2 BK217.out) (fun hHeld => ?_)
        clear hK K; refine nm_ 46 ?_; refine pu_ (i := 6) (N := some 47) HT_ ?_
        refine on_ (i := 7) (N := some 48) HT_ (fun K hK => ?_)
        refine value_ (w1 := ?_) (v := ?_) (by rfl) rfl ?_ ?_
        rotate_left 2
        ·go_simp
         constructor
         ·rfl
         ·rfl
        refine hK.out _ _ ⟨(blk_cell (blk_alloc BK217.out _) 0).trans rfl, (blk_cell (blk_alloc BK217.out _) 1).trans rfl⟩ (fun hHeld => ?_)
        clear hK K; refine nm_ 48 ?_
        refine on_ (i := 8) (N := some 49) HT_ (fun K hK => ?_)
        refine Kd.S_append_step k36 (w0 := w) w.heap.size (by rfl) (.tmp 42) (.tmp 48) 24 36 (.agg #[(.int .i64 0), (.slice none 0 0)]) 32 rfl Try.underlying24 info36 rfl (by decide) (by omega) (.slice Ao80 t214.length co80) t214 (⟨a1, y222⟩ : S36) [.int .i64 a1, .slice Ao87 y222.length co87] (fun _ => True) (fun k_ => some k_ = (.slice Ao87 y222.length co87 : Value).ownBlock) rfl rfl ?aP (fun k_ hk_ => ((Kd.R_mono (ok' := fun k_ => ((fun _ => True)) k_ ∧ some k_ ≠ (.slice Ao80 t214.length co80 : Value).ownBlock) (Kd.R_apart' (HO224.out) (Kd.S_typed HO216.out) (by decide)) (fun k_ hk => ⟨trivial, hk.2⟩))).1 k_ hk_.symm) ?aF ?aO ?aB ?aS ?aL ?_
        (case aP => exact k36_mkM _ _ _ (⟨a1, y222⟩ : S36) (Kd.R_mono (Kd.R_tight rfl (Kd.R_mono (ok' := fun k_ => ((fun _ => True)) k_ ∧ some k_ ≠ (.slice Ao80 t214.length co80 : Value).ownBlock) (Kd.R_apart' (HO224.out) (Kd.S_typed HO216.out) (by decide)) (fun k_ hk => ⟨trivial, hk.2⟩))) (fun _ h_ => h_)))
        (case aB => exact (hbA_ HB.out))
        (case aF => exact (fun _ _ => trivial))
        (case aO => exact (by refine kS_ ?_; exact Kd.S_mono HO216.out (fun k_ hk => ⟨trivial, fun e_ => hk.2 e_⟩)))
        (case aS => exact (below_size (hbA_ HB.out)))
        (case aL => have := LMc46.out; omega)
        intro v226 w88 ho hb hg hat
        rw [← Ny225.out] at ho
        have n0_ := (bgA_ BK206 hg (Kd.S_ne HO216.out BK206.out (by decide))); have n1_ := (bgA_ BK207 hg (Kd.S_ne HO216.out BK207.out (by decide))); have n2_ := Aside0.mk (Kd.R_over' (kR_ HO213.out) (Kd.S_typed (kS_ HO216.out)) (by decide) hg); have n3_ := (bgA_ BK217 hg (Kd.S_ne HO216.out BK217.out (by decide))); have n4_ := Aside0.mk (hb); have n5_ := Aside0.mk (ho); clear BK206 BK207 HO213 BK217 HB HO216 HO224; have BK206 := n0_; have BK207 := n1_; have HO213 := n2_; have BK217 := n3_; have HB := n4_; have HO227 := n5_; clear n0_ n1_ n2_ n3_ n4_ n5_ ho hb hg hat
        obtain ⟨Ao89, co89, eo89⟩ := Kd.S_slice HO227.out
        (first | subst eo89 | (injection eo89 with f1_ f2_ f3_; have f4_ := f1_.symm; have f5_ := f3_.symm; clear f1_ f2_ f3_; subst f4_; subst f5_))
        refine hK.out _ _ (cz2 BK217.out) (fun hHeld => ?_)
        clear hK K; refine nm_ 49 ?_; refine pu_ (i := 9) (N := some 50) HT_ ?_
        refine last_ (i := 10) (N := none) #[true, true, true, true, true, true, true, true, true, true, true] rfl rfl (one_of HT_.out (by kernel_rfl)) (by decide) (fun K hK => ?_)
        have hs90 : w88.cell? ⟨gb217, 1, none⟩ = some (.slice Ao80 t214.length co80) := bc_ BK217 1
        have hfs90 := blk_frozen BK217.out 1
        have hns90_0 := NB206_217.out; have hns90_1 := NB207_217.out; have hms90_0 := NB217_206.out; have hms90_1 := NB217_207.out
        refine skip_ (w1 := ?_) (by rfl) rfl ?_ ?_
        rotate_left
        ·go_simp
         rfl
        refine hK.out _ _ ?_
        clear hK K
        refine done_ (done_of HT_.out (by kernel_rfl)) ?_
        have Z91 := zz2 BK217; have Z92 := zz2 BK207
        try go_wp2
        refine bodyPost_ret (results_ct rfl _ _ gb207 26 #[.slice Ao76 t211.length co76, .slice Ao89 y225.length co89] (0, 0) _ rfl (by refine kb_ ?_; refine pz2 (cs := #[.slice none 0 0, .slice none 0 0]) ?_; exact kf_ BK207.out) Try.underlying26 rfl (by kernel_rfl)) rfl ?_
        exact ⟨_, _, by first | rfl | (simp [errW_none, errW_some] <;> rfl) | (simp [*, errW_none, errW_some] <;> rfl), by refine kR_ ?_; exact rfm_ ((Kd.R_far (p := ⟨gb217, 1, none⟩) (Kd.R_types (Kd.R_types HO213.out BK217.out (by decide)) BK207.out (by decide)) (fun _ hk => hk.1.2) (.slice Ao89 y225.length co89))) (fun _ hk => trivial), Kd.Q_of_R ((Kd.S_R (by refine kS_ ?_; exact Kd.S_mono (Kd.S_far (p := ⟨gb207, 1, none⟩) (Kd.S_far (p := ⟨gb207, 0, none⟩) (Kd.S_far (p := ⟨gb217, 1, none⟩) (Kd.S_types (Kd.S_types HO227.out BK217.out (by decide)) BK207.out (by decide)) (fun _ hk => hk.1.2) (.slice Ao89 y225.length co89)) (fun _ hk => hk.2) (.slice Ao76 t211.length co76)) (fun _ hk => hk.2) (.slice Ao89 y225.length co89)) (fun _ hk => trivial)))), hbA_ HB.out⟩
      ·rw [if_neg c46] at H
       exact absurd H (by simp)
     ·rw [if_neg c45] at H
      exact absurd H (by simp)
def laws_szNearEntryS.f (l0 : List (S88)) (a1 : Int) : Option (Int) := if (wrap64 (a1 - (l0.length : Int))) < 0 then (some (-1)) else (some (wrap64 (a1 - (l0.length : Int))))
set_option maxHeartbeats 8000000 in
set_option maxRecDepth 100000 in
theorem laws_szNearEntryS.calls (A0 : Option Addr) (c0 : Nat) (l0 : List (S88)) (a1 : Int) (r : Int) (w : World) (hr0 : Kd.C k88 w A0 l0.length l0) (hc0 : l0.length ≤ c0) (h : laws_szNearEntryS.f l0 a1 = some r) :
  Calls Try.prog 37 #[.slice A0 l0.length c0, .int .i64 a1] w fun e w' => e = .returned (.int .i64 r) ∧ Drawn0 w w' := by
 have HR0 := Aside0.mk hr0; have HC0 := Aside0.mk hc0; clear hr0 hc0
 have H : (if (wrap64 (a1 - (l0.length : Int))) < 0 then (some (-1)) else (some (wrap64 (a1 - (l0.length : Int))))) = some r := h
 clear h
 by_cases c3 : (wrap64 (a1 - (l0.length : Int))) < 0
 ·rw [if_pos c3] at H
  have c3b0 : decide ((wrap64 (a1 - (l0.length : Int))) < 0) = true := decide_eq_true c3
  clear c3
  obtain rfl := Option.some.inj H
  go_enter Try.func37, Try.ntmps37
  go_wp2
  go_ret
  exact ⟨by first | rfl | (simp; done) | (simp [*]; done), by repeat (first | exact Drawn0.refl _ | apply Drawn0.step)⟩
 ·rw [if_neg c3] at H
  have c3b0 : decide ((wrap64 (a1 - (l0.length : Int))) < 0) = false := decide_eq_false c3
  clear c3
  obtain rfl := Option.some.inj H
  go_enter Try.func37, Try.ntmps37
  go_wp2
  go_ret
  exact ⟨by first | rfl | (simp; done) | (simp [*]; done), by repeat (first | exact Drawn0.refl _ | apply Drawn0.step)⟩
def laws_szByteS.f (l0 : List Int) (a1 : Int) : Option (Int) := if (wrap64 (a1 - (l0.length : Int))) < 0 then (some (-1)) else (some (wrap64 (a1 - (l0.length : Int))))
set_option maxHeartbeats 8000000 in
set_option maxRecDepth 100000 in
theorem laws_szByteS.calls (A0 : Option Addr) (c0 : Nat) (l0 : List Int) (a1 : Int) (r : Int) (w : World) (hr0 : Kd.C (Kd.int .u8) w A0 l0.length l0) (hc0 : l0.length ≤ c0) (h : laws_szByteS.f l0 a1 = some r) :
  Calls Try.prog 66 #[.slice A0 l0.length c0, .int .i64 a1] w fun e w' => e = .returned (.int .i64 r) ∧ Drawn0 w w' := by
 have HR0 := Aside0.mk hr0; have HC0 := Aside0.mk hc0; clear hr0 hc0
 have H : (if (wrap64 (a1 - (l0.length : Int))) < 0 then (some (-1)) else (some (wrap64 (a1 - (l0.length : Int))))) = some r := h
 clear h
 by_cases c3 : (wrap64 (a1 - (l0.length : Int))) < 0
 ·rw [if_pos c3] at H
  have c3b0 : decide ((wrap64 (a1 - (l0.length : Int))) < 0) = true := decide_eq_true c3
  clear c3
  obtain rfl := Option.some.inj H
  go_enter Try.func66, Try.ntmps66
  go_wp2
  go_ret
  exact ⟨by first | rfl | (simp; done) | (simp [*]; done), by repeat (first | exact Drawn0.refl _ | apply Drawn0.step)⟩
 ·rw [if_neg c3] at H
  have c3b0 : decide ((wrap64 (a1 - (l0.length : Int))) < 0) = false := decide_eq_false c3
  clear c3
  obtain rfl := Option.some.inj H
  go_enter Try.func66, Try.ntmps66
  go_wp2
  go_ret
  exact ⟨by first | rfl | (simp; done) | (simp [*]; done), by repeat (first | exact Drawn0.refl _ | apply Drawn0.step)⟩
def laws_szNearHeld.f (a0_0 : Int) (l0_1 : List Int) (a1 : Int) : Option (Int) := (laws_szByteS.f l0_1 a1).bind fun t232 => (if t232 < 0 then (some (-1)) else (some t232))
set_option maxHeartbeats 8000000 in
set_option maxRecDepth 100000 in
theorem laws_szNearHeld.calls (a0_0 : Int) (A0_1 : Option Addr) (c0_1 : Nat) (l0_1 : List Int) (a1 : Int) (r : Int) (w : World) (hr0_1 : Kd.C (Kd.int .u8) w A0_1 l0_1.length l0_1) (hc0_1 : l0_1.length ≤ c0_1) (h : laws_szNearHeld.f a0_0 l0_1 a1 = some r) :
  Calls Try.prog 57 #[.agg #[.int .i64 a0_0, .slice A0_1 l0_1.length c0_1], .int .i64 a1] w fun e w' => e = .returned (.int .i64 r) ∧ Below w.heap.size w w' := by
 have hu86 := Try.underlying86; have HR0_1 := Aside0.mk hr0_1; have HC0_1 := Aside0.mk hc0_1; clear hr0_1 hc0_1
 have HB := Aside0.mk (Below.refl w.heap.size w)
 have H : ((laws_szByteS.f l0_1 a1).bind fun t232 => (if t232 < 0 then (some (-1)) else (some t232))) = some r := h
 clear h
 replace H := Option.bind_eq_some_iff.mp H
 obtain ⟨t232, A30, H⟩ := H
 (try dsimp only at H)
 have A3 := Aside0.mk A30; clear A30
 by_cases c4 : t232 < 0
 ·rw [if_pos c4] at H
  have c4b0 : decide (t232 < 0) = true := decide_eq_true c4
  clear c4
  obtain rfl := Option.some.inj H
  go_enter Try.func57, Try.ntmps57
  go_wp2_with (first | ((with_reducible refine gate_dst (N := 2) rfl ?_); refine box_ (N := 2) (cs := #[.int .i64 a0_0, .slice A0_1 l0_1.length c0_1]) (t := 86) (fun gb231 hg w5 hbox hb => ?_); have BK231 := Aside0.mk (hbox); have GW231 := ge_ hg HB; have GE231 := ge_ hg HB; replace HB := (bs_ HB hb); clear hb hbox hg; have Z6 := zz2 BK231) | ((with_reducible refine gate_callee (f := 66) rfl ?_); refine goesL_ (some 8) rfl rfl Try.func66 (by kernel_rfl) rfl #[.slice A0_1 l0_1.length c0_1, .int .i64 a1] rfl ar_ ?_; (with_reducible refine (laws_szByteS.calls _ _ l0_1 a1 t232 _ ?side1 ?side2 A3.out).mono ?_); (case side1 => exact kC_ (Kd.C_below HR0_1.out HB.out)); (case side2 => exact HC0_1.out); rintro e w' ⟨rfl, ⟨nd, rfl⟩⟩; refine ⟨_, rfl, ?_⟩))
  go_ret
  exact ⟨by first | rfl | (simp [errW_none, errW_some] <;> rfl) | (simp [*, errW_none, errW_some] <;> rfl), hbA_ HB.out⟩
 ·rw [if_neg c4] at H
  have c4b0 : decide (t232 < 0) = false := decide_eq_false c4
  clear c4
  obtain rfl := Option.some.inj H
  go_enter Try.func57, Try.ntmps57
  go_wp2_with (first | ((with_reducible refine gate_dst (N := 2) rfl ?_); refine box_ (N := 2) (cs := #[.int .i64 a0_0, .slice A0_1 l0_1.length c0_1]) (t := 86) (fun gb231 hg w7 hbox hb => ?_); have BK231 := Aside0.mk (hbox); have GW231 := ge_ hg HB; have GE231 := ge_ hg HB; replace HB := (bs_ HB hb); clear hb hbox hg; have Z8 := zz2 BK231) | ((with_reducible refine gate_callee (f := 66) rfl ?_); refine goesL_ (some 8) rfl rfl Try.func66 (by kernel_rfl) rfl #[.slice A0_1 l0_1.length c0_1, .int .i64 a1] rfl ar_ ?_; (with_reducible refine (laws_szByteS.calls _ _ l0_1 a1 t232 _ ?side1 ?side2 A3.out).mono ?_); (case side1 => exact kC_ (Kd.C_below HR0_1.out HB.out)); (case side2 => exact HC0_1.out); rintro e w' ⟨rfl, ⟨nd, rfl⟩⟩; refine ⟨_, rfl, ?_⟩))
  go_ret
  exact ⟨by first | rfl | (simp [errW_none, errW_some] <;> rfl) | (simp [*, errW_none, errW_some] <;> rfl), hbA_ HB.out⟩
def laws_szNearHeldS.l0 : Nat → List (S86) → Int → Int → Option (Int)
 | 0, _, _, _ => none
 | k + 1, x0, x1, x5 => if x5 < (x0.length : Int) then (if 0 ≤ x5 then ((laws_szNearHeld.f ((rd_T86 x0 x5).f0) ((rd_T86 x0 x5).f1) x1).bind fun t234 => (if t234 < 0 then (some (-1)) else (laws_szNearHeldS.l0 k x0 t234 (wrap64 (x5 + 1))))) else (none)) else (some x1)
def laws_szNearHeldS.f (k : Nat) (l0 : List (S86)) (a1 : Int) : Option (Int) := if (wrap64 (a1 - (l0.length : Int))) < 0 then (some (-1)) else (laws_szNearHeldS.l0 k l0 (wrap64 (a1 - (l0.length : Int))) 0)
theorem laws_szNearHeldS.mono_l : ∀ k, (∀ y0 y1 y2, LeO (laws_szNearHeldS.l0 k y0 y1 y2) (laws_szNearHeldS.l0 (k + 1) y0 y1 y2))
 | 0 => fun _ _ _ r h => by simp [laws_szNearHeldS.l0] at h
 | k + 1 => by
  have ih0 := laws_szNearHeldS.mono_l k
  ·intro y0 y1 y2
   unfold laws_szNearHeldS.l0
   repeat' first | (with_reducible first | apply ih0 | exact LeO.refl _ | exact LeO.none _ | refine LeO.ite ?_ ?_ | refine LeO.bind ?_ fun _ => ?_) | apply ih0 | exact LeO.none _ | refine LeO.ite ?_ ?_ | refine LeO.bind ?_ fun _ => ?_
theorem laws_szNearHeldS.mono : ∀ a0 a1 k, LeO (laws_szNearHeldS.f k a0 a1) (laws_szNearHeldS.f (k + 1) a0 a1) := by
 intro a0 a1 k
 have ih0 := laws_szNearHeldS.mono_l k
 unfold laws_szNearHeldS.f
 repeat' first | (with_reducible first | apply ih0 | exact LeO.refl _ | exact LeO.none _ | refine LeO.ite ?_ ?_ | refine LeO.bind ?_ fun _ => ?_) | apply ih0 | exact LeO.none _ | refine LeO.ite ?_ ?_ | refine LeO.bind ?_ fun _ => ?_
set_option maxHeartbeats 8000000 in
set_option maxRecDepth 100000 in
theorem laws_szNearHeldS.calls (k : Nat) (A0 : Option Addr) (c0 : Nat) (l0 : List (S86)) (a1 : Int) (r : Int) (w : World) (hr0 : Kd.C k86 w A0 l0.length l0) (hc0 : l0.length ≤ c0) (h : laws_szNearHeldS.f k l0 a1 = some r) :
  Calls Try.prog 38 #[.slice A0 l0.length c0, .int .i64 a1] w fun e w' => e = .returned (.int .i64 r) ∧ Below w.heap.size w w' := by
 have hu86 := Try.underlying86; have HR0 := Aside0.mk hr0; have HC0 := Aside0.mk hc0; clear hr0 hc0
 have HB := Aside0.mk (Below.refl w.heap.size w)
 have H : (if (wrap64 (a1 - (l0.length : Int))) < 0 then (some (-1)) else (laws_szNearHeldS.l0 k l0 (wrap64 (a1 - (l0.length : Int))) 0)) = some r := h
 clear h
 by_cases c3 : (wrap64 (a1 - (l0.length : Int))) < 0
 ·rw [if_pos c3] at H
  have c3b0 : decide ((wrap64 (a1 - (l0.length : Int))) < 0) = true := decide_eq_true c3
  clear c3
  obtain rfl := Option.some.inj H
  go_enter Try.func38, Try.ntmps38
  go_wp2
  go_ret
  exact ⟨by first | rfl | (simp [errW_none, errW_some] <;> rfl) | (simp [*, errW_none, errW_some] <;> rfl), hbA_ HB.out⟩
 ·rw [if_neg c3] at H
  have c3b0 : decide ((wrap64 (a1 - (l0.length : Int))) < 0) = false := decide_eq_false c3
  clear c3
  have H' := Aside0.mk H
  clear H
  go_enter Try.func38, Try.ntmps38
  go_wp2
  go_loopg [1, 5] k (fun kq v1 v5 w' => ∃ (x1_1 : Int) (x5_1 : Int), v1 = .int .i64 x1_1 ∧ v5 = .int .i64 x5_1 ∧ Aside0 (laws_szNearHeldS.l0 kq l0 x1_1 x5_1 = some r) ∧ Aside0 (kq ≤ k) ∧ Aside0 (Below w.heap.size w w'))
  case atStart => exact ⟨(wrap64 (a1 - (l0.length : Int))), (0), (by first | rfl | (simp; done) | (simp [*]; done)), (by first | rfl | (simp; done) | (simp [*]; done)), H', ⟨Nat.le_refl _⟩, ⟨hbA_ HB.out⟩⟩
  case round =>
   clear H'; (try clear p2); (try clear c3); (try clear c3b0)
   obtain ⟨x1_1, x5_1, rfl, rfl, HA, HK1, HB⟩ := hrel
   cases gk with
   | zero => exact absurd HA.out (by simp [laws_szNearHeldS.l0])
   | succ k1 =>
    have H := HA.out; clear HA
    simp only [laws_szNearHeldS.l0] at H
    by_cases c4 : x5_1 < (l0.length : Int)
    ·rw [if_pos c4] at H
     have c4b0 : decide (x5_1 < (l0.length : Int)) = true := decide_eq_true c4
     clear c4
     by_cases c5 : 0 ≤ x5_1
     ·rw [if_pos c5] at H
      have c5b0 : decide (0 ≤ x5_1) = true := decide_eq_true c5
      clear c5
      replace H := Option.bind_eq_some_iff.mp H
      obtain ⟨t234, A60, H⟩ := H
      (try dsimp only at H)
      have A6 := Aside0.mk A60; clear A60
      by_cases c7 : t234 < 0
      ·rw [if_pos c7] at H
       have c7b0 : decide (t234 < 0) = true := decide_eq_true c7
       clear c7
       obtain rfl := Option.some.inj H
       have p233 : 0 ≤ (x5_1 : Int) := of_decide_eq_true (by first | (with_reducible assumption) | assumption)
       have q233 : x5_1 < (l0.length : Int) := of_decide_eq_true (by first | (with_reducible assumption) | assumption)
       obtain ⟨ad233, A233_1, c233_1, e233, hx233_0, hx233_1, hl233_1, hi233_1⟩ := at_T86 HR0.out x5_1 p233 q233
       cases e233
       replace hx233_0 := cc_ HB hx233_0
       replace hx233_1 := cc_ HB hx233_1
       have HR233_1 := Aside0.mk hi233_1; have HC233_1 := Aside0.mk hl233_1; clear hi233_1 hl233_1
       replace p233 := eq_true p233
       replace q233 := eq_true q233
       go_wp2_with (first | ((with_reducible refine gate_callee (f := 57) rfl ?_); refine goesL_ (some 23) rfl rfl Try.func57 (by kernel_rfl) rfl #[.agg #[.int .i64 ((rd_T86 l0 x5_1).f0), .slice A233_1 ((rd_T86 l0 x5_1).f1).length c233_1], .int .i64 x1_1] rfl ar_ ?_; (with_reducible refine (laws_szNearHeld.calls ((rd_T86 l0 x5_1).f0) _ _ ((rd_T86 l0 x5_1).f1) x1_1 t234 _ ?side1 ?side2 A6.out).mono ?_); (case side1 => exact kC_ (Kd.C_below HR233_1.out HB.out)); (case side2 => exact HC233_1.out); rintro e w8 ⟨rfl, hb⟩; refine ⟨_, rfl, ?_⟩; replace HB := (bs_ HB hb); (try clear hb); (try clear hb2); (try clear hk); (try clear hi)))
       go_ret
       exact ⟨by first | rfl | (simp [errW_none, errW_some] <;> rfl) | (simp [*, errW_none, errW_some] <;> rfl), hbA_ HB.out⟩
      ·rw [if_neg c7] at H
       have c7b0 : decide (t234 < 0) = false := decide_eq_false c7
       clear c7
       have H' := Aside0.mk H
       clear H
       have p233 : 0 ≤ (x5_1 : Int) := of_decide_eq_true (by first | (with_reducible assumption) | assumption)
       have q233 : x5_1 < (l0.length : Int) := of_decide_eq_true (by first | (with_reducible assumption) | assumption)
       obtain ⟨ad233, A233_1, c233_1, e233, hx233_0, hx233_1, hl233_1, hi233_1⟩ := at_T86 HR0.out x5_1 p233 q233
       cases e233
       replace hx233_0 := cc_ HB hx233_0
       replace hx233_1 := cc_ HB hx233_1
       have HR233_1 := Aside0.mk hi233_1; have HC233_1 := Aside0.mk hl233_1; clear hi233_1 hl233_1
       replace p233 := eq_true p233
       replace q233 := eq_true q233
       go_wp2_with (first | ((with_reducible refine gate_callee (f := 57) rfl ?_); refine goesL_ (some 23) rfl rfl Try.func57 (by kernel_rfl) rfl #[.agg #[.int .i64 ((rd_T86 l0 x5_1).f0), .slice A233_1 ((rd_T86 l0 x5_1).f1).length c233_1], .int .i64 x1_1] rfl ar_ ?_; (with_reducible refine (laws_szNearHeld.calls ((rd_T86 l0 x5_1).f0) _ _ ((rd_T86 l0 x5_1).f1) x1_1 t234 _ ?side1 ?side2 A6.out).mono ?_); (case side1 => exact kC_ (Kd.C_below HR233_1.out HB.out)); (case side2 => exact HC233_1.out); rintro e w9 ⟨rfl, hb⟩; refine ⟨_, rfl, ?_⟩; replace HB := (bs_ HB hb); (try clear hb); (try clear hb2); (try clear hk); (try clear hi)))
       go_roundg k1
       case measure => have := HK1.out; omega
       case rel => exact ⟨(t234), (wrap64 (x5_1 + 1)), (by first | rfl | (simp; done) | (simp [*]; done)), (by first | rfl | (simp; done) | (simp [*]; done)), H', ⟨by have := HK1.out; omega⟩, ⟨hbA_ HB.out⟩⟩
     ·rw [if_neg c5] at H
      exact absurd H (by simp)
    ·rw [if_neg c4] at H
     have c4b0 : decide (x5_1 < (l0.length : Int)) = false := decide_eq_false c4
     clear c4
     obtain rfl := Option.some.inj H
     go_wp2
     go_ret
     exact ⟨by first | rfl | (simp [errW_none, errW_some] <;> rfl) | (simp [*, errW_none, errW_some] <;> rfl), hbA_ HB.out⟩
def laws_szNear.f (k : Nat) (l0_0 : List (S88)) (l0_1 : List (S86)) (a1 : Int) : Option (Int) := (laws_szNearEntryS.f l0_0 a1).bind fun t236 => (if t236 < 0 then (some (-1)) else ((laws_szNearHeldS.f k l0_1 t236).bind fun t237 => (if t237 < 0 then (some (-1)) else (some t237))))
theorem laws_szNear.mono : ∀ a0 a1 a2 k, LeO (laws_szNear.f k a0 a1 a2) (laws_szNear.f (k + 1) a0 a1 a2) := by
 intro a0 a1 a2 k
 unfold laws_szNear.f
 repeat' first | (with_reducible first | apply laws_szNearHeldS.mono | exact LeO.refl _ | exact LeO.none _ | refine LeO.ite ?_ ?_ | refine LeO.bind ?_ fun _ => ?_) | apply laws_szNearHeldS.mono | exact LeO.none _ | refine LeO.ite ?_ ?_ | refine LeO.bind ?_ fun _ => ?_
set_option maxHeartbeats 8000000 in
set_option maxRecDepth 100000 in
theorem laws_szNear.calls (k : Nat) (A0_0 : Option Addr) (c0_0 : Nat) (l0_0 : List (S88)) (A0_1 : Option Addr) (c0_1 : Nat) (l0_1 : List (S86)) (a1 : Int) (r : Int) (w : World) (hr0_0 : Kd.C k88 w A0_0 l0_0.length l0_0) (hc0_0 : l0_0.length ≤ c0_0) (hr0_1 : Kd.C k86 w A0_1 l0_1.length l0_1) (hc0_1 : l0_1.length ≤ c0_1) (h : laws_szNear.f k l0_0 l0_1 a1 = some r) :
  Calls Try.prog 13 #[.agg #[.slice A0_0 l0_0.length c0_0, .slice A0_1 l0_1.length c0_1], .int .i64 a1] w fun e w' => e = .returned (.int .i64 r) ∧ Below w.heap.size w w' := by
 have hu42 := Try.underlying42; have HR0_0 := Aside0.mk hr0_0; have HC0_0 := Aside0.mk hc0_0; clear hr0_0 hc0_0; have HR0_1 := Aside0.mk hr0_1; have HC0_1 := Aside0.mk hc0_1; clear hr0_1 hc0_1
 have HB := Aside0.mk (Below.refl w.heap.size w)
 have H : ((laws_szNearEntryS.f l0_0 a1).bind fun t236 => (if t236 < 0 then (some (-1)) else ((laws_szNearHeldS.f k l0_1 t236).bind fun t237 => (if t237 < 0 then (some (-1)) else (some t237))))) = some r := h
 clear h
 replace H := Option.bind_eq_some_iff.mp H
 obtain ⟨t236, A30, H⟩ := H
 (try dsimp only at H)
 have A3 := Aside0.mk A30; clear A30
 by_cases c4 : t236 < 0
 ·rw [if_pos c4] at H
  have c4b0 : decide (t236 < 0) = true := decide_eq_true c4
  clear c4
  obtain rfl := Option.some.inj H
  go_enter Try.func13, Try.ntmps13
  go_wp2_with (first | ((with_reducible refine gate_dst (N := 2) rfl ?_); refine box_ (N := 2) (cs := #[.slice A0_0 l0_0.length c0_0, .slice A0_1 l0_1.length c0_1]) (t := 42) (fun gb235 hg w5 hbox hb => ?_); have BK235 := Aside0.mk (hbox); have GW235 := ge_ hg HB; have GE235 := ge_ hg HB; replace HB := (bs_ HB hb); clear hb hbox hg; have Z6 := zz2 BK235) | ((with_reducible refine gate_callee (f := 37) rfl ?_); refine goesL_ (some 8) rfl rfl Try.func37 (by kernel_rfl) rfl #[.slice A0_0 l0_0.length c0_0, .int .i64 a1] rfl ar_ ?_; (with_reducible refine (laws_szNearEntryS.calls _ _ l0_0 a1 t236 _ ?side1 ?side2 A3.out).mono ?_); (case side1 => exact kC_ (Kd.C_below HR0_0.out HB.out)); (case side2 => exact HC0_0.out); rintro e w' ⟨rfl, ⟨nd, rfl⟩⟩; refine ⟨_, rfl, ?_⟩))
  go_ret
  exact ⟨by first | rfl | (simp [errW_none, errW_some] <;> rfl) | (simp [*, errW_none, errW_some] <;> rfl), hbA_ HB.out⟩
 ·rw [if_neg c4] at H
  have c4b0 : decide (t236 < 0) = false := decide_eq_false c4
  clear c4
  replace H := Option.bind_eq_some_iff.mp H
  obtain ⟨t237, A70, H⟩ := H
  (try dsimp only at H)
  have A7 := Aside0.mk A70; clear A70
  by_cases c8 : t237 < 0
  ·rw [if_pos c8] at H
   have c8b0 : decide (t237 < 0) = true := decide_eq_true c8
   clear c8
   obtain rfl := Option.some.inj H
   go_enter Try.func13, Try.ntmps13
   go_wp2_with (first | ((with_reducible refine gate_dst (N := 2) rfl ?_); refine box_ (N := 2) (cs := #[.slice A0_0 l0_0.length c0_0, .slice A0_1 l0_1.length c0_1]) (t := 42) (fun gb235 hg w9 hbox hb => ?_); have BK235 := Aside0.mk (hbox); have GW235 := ge_ hg HB; have GE235 := ge_ hg HB; replace HB := (bs_ HB hb); clear hb hbox hg; have Z10 := zz2 BK235) | ((with_reducible refine gate_callee (f := 37) rfl ?_); refine goesL_ (some 8) rfl rfl Try.func37 (by kernel_rfl) rfl #[.slice A0_0 l0_0.length c0_0, .int .i64 a1] rfl ar_ ?_; (with_reducible refine (laws_szNearEntryS.calls _ _ l0_0 a1 t236 _ ?side1 ?side2 A3.out).mono ?_); (case side1 => exact kC_ (Kd.C_below HR0_0.out HB.out)); (case side2 => exact HC0_0.out); rintro e w' ⟨rfl, ⟨nd, rfl⟩⟩; refine ⟨_, rfl, ?_⟩) | ((with_reducible refine gate_callee (f := 38) rfl ?_); refine goesL_ (some 14) rfl rfl Try.func38 (by kernel_rfl) rfl #[.slice A0_1 l0_1.length c0_1, .int .i64 t236] rfl ar_ ?_; (with_reducible refine (laws_szNearHeldS.calls k _ _ l0_1 t236 t237 _ ?side1 ?side2 A7.out).mono ?_); (case side1 => exact kC_ (Kd.C_below HR0_1.out (hbA_ HB.out))); (case side2 => exact HC0_1.out); rintro e w11 ⟨rfl, hb⟩; refine ⟨_, rfl, ?_⟩; replace BK235 := (bbA_ BK235 hb); replace HB := (bs_ HB hb); (try clear hb); (try clear hb2); (try clear hk); (try clear hi)))
   go_ret
   exact ⟨by first | rfl | (simp [errW_none, errW_some] <;> rfl) | (simp [*, errW_none, errW_some] <;> rfl), hbA_ HB.out⟩
  ·rw [if_neg c8] at H
   have c8b0 : decide (t237 < 0) = false := decide_eq_false c8
   clear c8
   obtain rfl := Option.some.inj H
   go_enter Try.func13, Try.ntmps13
   go_wp2_with (first | ((with_reducible refine gate_dst (N := 2) rfl ?_); refine box_ (N := 2) (cs := #[.slice A0_0 l0_0.length c0_0, .slice A0_1 l0_1.length c0_1]) (t := 42) (fun gb235 hg w12 hbox hb => ?_); have BK235 := Aside0.mk (hbox); have GW235 := ge_ hg HB; have GE235 := ge_ hg HB; replace HB := (bs_ HB hb); clear hb hbox hg; have Z13 := zz2 BK235) | ((with_reducible refine gate_callee (f := 37) rfl ?_); refine goesL_ (some 8) rfl rfl Try.func37 (by kernel_rfl) rfl #[.slice A0_0 l0_0.length c0_0, .int .i64 a1] rfl ar_ ?_; (with_reducible refine (laws_szNearEntryS.calls _ _ l0_0 a1 t236 _ ?side1 ?side2 A3.out).mono ?_); (case side1 => exact kC_ (Kd.C_below HR0_0.out HB.out)); (case side2 => exact HC0_0.out); rintro e w' ⟨rfl, ⟨nd, rfl⟩⟩; refine ⟨_, rfl, ?_⟩) | ((with_reducible refine gate_callee (f := 38) rfl ?_); refine goesL_ (some 14) rfl rfl Try.func38 (by kernel_rfl) rfl #[.slice A0_1 l0_1.length c0_1, .int .i64 t236] rfl ar_ ?_; (with_reducible refine (laws_szNearHeldS.calls k _ _ l0_1 t236 t237 _ ?side1 ?side2 A7.out).mono ?_); (case side1 => exact kC_ (Kd.C_below HR0_1.out (hbA_ HB.out))); (case side2 => exact HC0_1.out); rintro e w14 ⟨rfl, hb⟩; refine ⟨_, rfl, ?_⟩; replace BK235 := (bbA_ BK235 hb); replace HB := (bs_ HB hb); (try clear hb); (try clear hb2); (try clear hk); (try clear hi)))
   go_ret
   exact ⟨by first | rfl | (simp [errW_none, errW_some] <;> rfl) | (simp [*, errW_none, errW_some] <;> rfl), hbA_ HB.out⟩
def laws_toNearEntry.f (a0_0 : Int) (a0_1 : Int) (a0_2 : Int) : Option (Int × Int × Int) := some (a0_0, a0_1, a0_2)
set_option maxHeartbeats 8000000 in
set_option maxRecDepth 100000 in
theorem laws_toNearEntry.calls (a0_0 : Int) (a0_1 : Int) (a0_2 : Int) (r1 : Int) (r2 : Int) (r3 : Int) (w : World) (h : laws_toNearEntry.f a0_0 a0_1 a0_2 = some (r1, r2, r3)) :
  Calls Try.prog 58 #[.agg #[.int .i64 a0_0, .int .i64 a0_1, .int .i64 a0_2]] w fun e w' => e = .returned (.agg #[.int .i64 r1, .int .i64 r2, .int .i64 r3]) ∧ Below w.heap.size w w' := by
 have hu88 := Try.underlying88; have hu60 := Try.underlying60
 have HB := Aside0.mk (Below.refl w.heap.size w)
 have H : (some (a0_0, a0_1, a0_2)) = some (r1, r2, r3) := h
 clear h
 simp only [Option.some.injEq, Prod.mk.injEq] at H
 obtain ⟨rfl, rfl, rfl⟩ := H
 go_enter Try.func58, Try.ntmps58
 go_wp2_with (first | ((with_reducible refine gate_dst (N := 1) rfl ?_); refine box_ (N := 1) (cs := #[.int .i64 a0_0, .int .i64 a0_1, .int .i64 a0_2]) (t := 88) (fun gb238 hg w2 hbox hb => ?_); have BK238 := Aside0.mk (hbox); have GW238 := ge_ hg HB; have GE238 := ge_ hg HB; replace HB := (bs_ HB hb); clear hb hbox hg) | ((with_reducible refine gate_dst (N := 2) rfl ?_); refine box_ (N := 2) (cs := #[.int .i64 0, .int .i64 0, .int .i64 0]) (t := 60) (fun gb239 hg w3 hbox hb => ?_); have BK239 := Aside0.mk (hbox); have GW239 := ge_ hg HB; have GE239 := ge_ hg HB; replace HB := (bs_ HB hb); have NB238_239 := nl_ hg BK238; have NB239_238 := ng_ hg BK238; replace BK238 := (bbA_ BK238 hb); clear hb hbox hg) | ((with_reducible refine gate_dst (N := 3) rfl ?_); refine box_ (N := 3) (cs := #[.int .i64 0, .int .i64 0, .int .i64 0]) (t := 60) (fun gb240 hg w4 hbox hb => ?_); have BK240 := Aside0.mk (hbox); have GW240 := ge_ hg HB; have GE240 := ge_ hg HB; replace HB := (bs_ HB hb); have NB238_240 := nl_ hg BK238; have NB240_238 := ng_ hg BK238; replace BK238 := (bbA_ BK238 hb); have NB239_240 := nl_ hg BK239; have NB240_239 := ng_ hg BK239; replace BK239 := (bbA_ BK239 hb); clear hb hbox hg; have hnb5 := NB238_239.out; have hnc5 := NB239_238.out; have hnb6 := NB238_240.out; have hnc6 := NB240_238.out; have Z7 := zz3 BK238; have hnb8 := NB240_239.out; have hnc8 := NB239_240.out; have Z9 := zz3 BK240; have Z10 := zz3 BK239))
 refine bodyPost_ret (results_cell_row rfl _ _ gb239 60 #[.int .i64 a0_0, .int .i64 a0_1, .int .i64 a0_2] (0, 0) _ rfl (by refine kb_ ?_; refine pz3 (cs := #[.int .i64 0, .int .i64 0, .int .i64 0]) ?_; exact kf_ BK239.out) Try.underlying60 rfl (by kernel_rfl)) rfl ?_
 exact ⟨by first | rfl | (simp [errW_none, errW_some] <;> rfl) | (simp [*, errW_none, errW_some] <;> rfl), hbA_ HB.out⟩
def laws_toNearEntryS.l0 : Nat → List (S88) → List (S60) → Int → Option ((List (S60)))
 | 0, _, _, _ => none
 | k + 1, x0, x3, x4 => if x4 < (x0.length : Int) then (if 0 ≤ x4 then ((laws_toNearEntry.f ((rd_T88 x0 x4).f0) ((rd_T88 x0 x4).f1) ((rd_T88 x0 x4).f2)).bind fun bt245 => (if x4 < (x3.length : Int) then (laws_toNearEntryS.l0 k x0 (x3.set (x4 : Int).toNat (⟨bt245.1, bt245.2.1, bt245.2.2⟩ : S60)) (wrap64 (x4 + 1))) else (none))) else (none)) else (some x3)
def laws_toNearEntryS.f (k : Nat) (l0 : List (S88)) : Option ((List (S60))) := if 0 ≤ (l0.length : Int) then (if ((l0.length : Int) : Int).toNat ≤ 11728124029610 then (laws_toNearEntryS.l0 k l0 (List.replicate ((l0.length : Int) : Int).toNat z60) 0) else (none)) else (none)
theorem laws_toNearEntryS.mono_l : ∀ k, (∀ y0 y1 y2, LeO (laws_toNearEntryS.l0 k y0 y1 y2) (laws_toNearEntryS.l0 (k + 1) y0 y1 y2))
 | 0 => fun _ _ _ r h => by simp [laws_toNearEntryS.l0] at h
 | k + 1 => by
  have ih0 := laws_toNearEntryS.mono_l k
  ·intro y0 y1 y2
   unfold laws_toNearEntryS.l0
   repeat' first | (with_reducible first | apply ih0 | exact LeO.refl _ | exact LeO.none _ | refine LeO.ite ?_ ?_ | refine LeO.bind ?_ fun _ => ?_) | apply ih0 | exact LeO.none _ | refine LeO.ite ?_ ?_ | refine LeO.bind ?_ fun _ => ?_
theorem laws_toNearEntryS.mono : ∀ a0 k, LeO (laws_toNearEntryS.f k a0) (laws_toNearEntryS.f (k + 1) a0) := by
 intro a0 k
 have ih0 := laws_toNearEntryS.mono_l k
 unfold laws_toNearEntryS.f
 repeat' first | (with_reducible first | apply ih0 | exact LeO.refl _ | exact LeO.none _ | refine LeO.ite ?_ ?_ | refine LeO.bind ?_ fun _ => ?_) | apply ih0 | exact LeO.none _ | refine LeO.ite ?_ ?_ | refine LeO.bind ?_ fun _ => ?_
set_option maxHeartbeats 8000000 in
set_option maxRecDepth 100000 in
theorem laws_toNearEntryS.calls (k : Nat) (A0 : Option Addr) (c0 : Nat) (l0 : List (S88)) (r : List (S60)) (w : World) (hr0 : Kd.C k88 w A0 l0.length l0) (hc0 : l0.length ≤ c0) (h : laws_toNearEntryS.f k l0 = some r) :
  Calls Try.prog 39 #[.slice A0 l0.length c0] w fun e w' => ∃ v0_ : Value, e = .returned (v0_) ∧ Kd.R k60 60 w' w.heap.size (fun _ => True) v0_ r ∧ Below w.heap.size w w' := by
 have hu88 := Try.underlying88; have hu60 := Try.underlying60; have HR0 := Aside0.mk hr0; have HC0 := Aside0.mk hc0; clear hr0 hc0
 have HB := Aside0.mk (Below.refl w.heap.size w)
 have H : (if 0 ≤ (l0.length : Int) then (if ((l0.length : Int) : Int).toNat ≤ 11728124029610 then (laws_toNearEntryS.l0 k l0 (List.replicate ((l0.length : Int) : Int).toNat z60) 0) else (none)) else (none)) = some r := h
 clear h
 by_cases c2 : 0 ≤ (l0.length : Int)
 ·rw [if_pos c2] at H
  have c2b0 := eq_true c2
  have c2b1 : decide (0 ≤ (l0.length : Int)) = true := decide_eq_true c2
  clear c2
  by_cases c3 : ((l0.length : Int) : Int).toNat ≤ 11728124029610
  ·rw [if_pos c3] at H
   have c3b0 := eq_true c3
   have c3b1 : decide (((l0.length : Int) : Int).toNat ≤ 11728124029610) = true := decide_eq_true c3
   clear c3
   obtain ⟨y241, hy241⟩ : ∃ y_ : List (S60), y_ = (List.replicate ((l0.length : Int) : Int).toNat z60) := ⟨_, rfl⟩
   (first | replace H := sb_ hy241 H | rw [← hy241] at H)
   have Ny241 := Aside0.mk hy241; clear hy241
   have H' := Aside0.mk H
   clear H
   go_enter Try.func39, Try.ntmps39
   go_wp2_with (first | ((with_reducible refine gate_dst (N := 7) rfl ?_); refine Kd.R_make k60 _ 60 rfl (N := 7) rfl 23 _ _ rfl (l0.length : Int) rfl rfl Try.underlying23 (.agg #[(.int .i64 0), (.int .i64 0), (.int .i64 0)]) 24 info60 rfl (by decide) (by omega) z60 (ok := fun _ => True) (okp := fun _ => True) (k60_mkM _ _ _ z60 ) (fun _ hk => hk) trivial (of_decide_eq_true (by first | (with_reducible assumption) | assumption)) (Nat.le_trans (Nat.mul_le_mul_right _ (of_decide_eq_true (by first | (with_reducible assumption) | assumption) : (l0.length : Int).toNat ≤ 11728124029610)) (by omega)) (Below.refl _ _) (Nat.le_refl _) ?_; intro v242 w4 ho5 hb hg_ hnew_; clear hg_ hnew_; (first | rw [← Ny241.out] at ho5 | (simp only [Int.reduceToNat] at ho5; rw [← Ny241.out] at ho5)); have HO243 := Aside0.mk (Kd.R_lower ho5 (below_size (hbA_ HB.out))); replace HB := (bs_ HB hb); clear hb ho5))
   go_loopg [4] k (fun kq v4 w' => ∃ (x3_1 : List (S60)) (x4_1 : Int), v4 = .int .i64 x4_1 ∧ Aside0 (laws_toNearEntryS.l0 kq l0 x3_1 x4_1 = some r) ∧ Aside0 (kq ≤ k) ∧ Aside0 (Kd.R k60 60 w' w.heap.size (fun _ => True) v242 x3_1) ∧ Aside0 (Below w.heap.size w w'))
   case atStart => exact ⟨(y241), (0), (by first | rfl | (simp; done) | (simp [*]; done)), H', ⟨Nat.le_refl _⟩, ⟨kR_ HO243.out⟩, ⟨hbA_ HB.out⟩⟩
   case round =>
    clear H'; (try clear c2); (try clear c2b0); (try clear c2b1); (try clear p2); (try clear c3); (try clear c3b0); (try clear c3b1)
    obtain ⟨x3_1, x4_1, rfl, HA, HK1, HO_3, HB⟩ := hrel
    cases gk with
    | zero => exact absurd HA.out (by simp [laws_toNearEntryS.l0])
    | succ k1 =>
     have H := HA.out; clear HA
     simp only [laws_toNearEntryS.l0] at H
     by_cases c6 : x4_1 < (l0.length : Int)
     ·rw [if_pos c6] at H
      have c6b0 : decide (x4_1 < (l0.length : Int)) = true := decide_eq_true c6
      clear c6
      by_cases c7 : 0 ≤ x4_1
      ·rw [if_pos c7] at H
       have c7b0 : decide (0 ≤ x4_1) = true := decide_eq_true c7
       clear c7
       replace H := Option.bind_eq_some_iff.mp H
       obtain ⟨⟨t245, t246, t247⟩, A80, H⟩ := H
       (try dsimp only at H)
       have A8 := Aside0.mk A80; clear A80
       by_cases c9 : x4_1 < (x3_1.length : Int)
       ·rw [if_pos c9] at H
        have c9b0 : decide (x4_1 < (x3_1.length : Int)) = true := decide_eq_true c9
        clear c9
        obtain ⟨y248, hy248⟩ : ∃ y_ : List (S60), y_ = (x3_1.set (x4_1 : Int).toNat (⟨t245, t246, t247⟩ : S60)) := ⟨_, rfl⟩
        (first | replace H := sb_ hy248 H | rw [← hy248] at H)
        have Ny248 := Aside0.mk hy248; clear hy248
        have H' := Aside0.mk H
        clear H
        have p244 : 0 ≤ (x4_1 : Int) := of_decide_eq_true (by first | (with_reducible assumption) | assumption)
        have q244 : x4_1 < (l0.length : Int) := of_decide_eq_true (by first | (with_reducible assumption) | assumption)
        obtain ⟨ad244, e244, hx244_0, hx244_1, hx244_2⟩ := at_T88 HR0.out x4_1 p244 q244
        cases e244
        replace hx244_0 := cc_ HB hx244_0
        replace hx244_1 := cc_ HB hx244_1
        replace hx244_2 := cc_ HB hx244_2
        replace p244 := eq_true p244
        replace q244 := eq_true q244
        go_wp2_with (first | ((with_reducible refine gate_callee (f := 58) rfl ?_); refine goesL_ (some 20) rfl rfl Try.func58 (by kernel_rfl) rfl #[.agg #[.int .i64 ((rd_T88 l0 x4_1).f0), .int .i64 ((rd_T88 l0 x4_1).f1), .int .i64 ((rd_T88 l0 x4_1).f2)]] rfl ar_ ?_; (with_reducible refine (laws_toNearEntry.calls ((rd_T88 l0 x4_1).f0) ((rd_T88 l0 x4_1).f1) ((rd_T88 l0 x4_1).f2) t245 t246 t247 _ A8.out).mono ?_); rintro e w11 ⟨rfl, hb⟩; refine ⟨_, rfl, ?_⟩; replace HO_3 := Aside0.mk (Kd.R_below (kR_ HO_3.out) hb); replace HB := (bs_ HB hb); (try clear hb); (try clear hb2); (try clear hk); (try clear hi); have p10 : 0 ≤ (x4_1 : Int) := of_decide_eq_true (by first | (with_reducible assumption) | assumption); have q10 : (x4_1 : Int) < ((x3_1.length : Int) : Int) := of_decide_eq_true (by first | (with_reducible assumption) | assumption); obtain ⟨go10, co10, eo10, gb10, gl10, cl10, HG10⟩ := Kd.R_form HO_3.out (by omega); (first | cases eo10 | (injection eo10 with ea_ en_ ec_; (first | subst ea_ | (injection ea_ with ea_; subst ea_)); subst ec_; clear en_)); have GB10 := Aside0.mk gb10; have GG10 := Aside0.mk HG10; clear gb10 gl10 HG10; obtain ⟨ce10, hcl10, hM10, hcc10, hfr10⟩ := Kd.R_elem HO_3.out z60 (x4_1 : Int) p10 q10; obtain rfl := k60_openM hM10; have hx10_0 : w11.cell? ⟨go10, (x4_1 : Int).toNat * 3, none⟩ = some (.int .i64 ((rd_T60 x3_1 x4_1).f0)) := hcc10 0 _ rfl; have hx10_1 : w11.cell? ⟨go10, (x4_1 : Int).toNat * 3 + 1, none⟩ = some (.int .i64 ((rd_T60 x3_1 x4_1).f1)) := hcc10 1 _ rfl; have hx10_2 : w11.cell? ⟨go10, (x4_1 : Int).toNat * 3 + 2, none⟩ = some (.int .i64 ((rd_T60 x3_1 x4_1).f2)) := hcc10 2 _ rfl; have hf10_0 : w11.frozen? ⟨go10, (x4_1 : Int).toNat * 3, none⟩ = false := hfr10 0; have hf10_1 : w11.frozen? ⟨go10, (x4_1 : Int).toNat * 3 + 1, none⟩ = false := hfr10 1; have hf10_2 : w11.frozen? ⟨go10, (x4_1 : Int).toNat * 3 + 2, none⟩ = false := hfr10 2; clear hcl10 hcc10 hfr10 hM10; replace p10 := eq_true p10; replace q10 := eq_true q10; have HX12 := Aside0.mk (show Kd.R k60 60 w11 w.heap.size (fun _ => True) (.slice (some ⟨go10, 0, none⟩) x3_1.length co10) x3_1 from (kR_ HO_3.out)); obtain ⟨ce12, hcl12, hM12, hcc12, hfr12⟩ := Kd.R_elem HX12.out z60 (x4_1 : Int) (of_decide_eq_true (by first | (with_reducible assumption) | assumption)) (by have h_ : (x4_1 : Int) < ((x3_1.length : Int) : Int) := of_decide_eq_true (by first | (with_reducible assumption) | assumption); first | exact h_ | (have e_ := (Kd.R_reads' HO_3.out).1; omega) | simpa using h_); obtain rfl := k60_openM hM12; have HP12 := Kd.R_seg HX12.out (x4_1 : Int) (of_decide_eq_true (by first | (with_reducible assumption) | assumption)) (by have h_ : (x4_1 : Int) < ((x3_1.length : Int) : Int) := of_decide_eq_true (by first | (with_reducible assumption) | assumption); first | exact h_ | (have e_ := (Kd.R_reads' HO_3.out).1; omega) | simpa using h_) (seg := [.int .i64 t245, .int .i64 t246, .int .i64 t247]) (j := 0) hcl12 hcc12 (show 3 ≤ 3 from by decide) (x' := (⟨t245, t246, t247⟩ : S60)) (k60_mkM _ _ _ (⟨t245, t246, t247⟩ : S60) ) (fun _ hk => hk); have hx12_0 := hcc12 0 _ rfl; (try simp only [show (k60).sz = 3 from rfl, Nat.mul_one, Nat.add_zero] at hx12_0); have hf12_0 := hfr12 0; (try simp only [show (k60).sz = 3 from rfl, Nat.mul_one, Nat.add_zero] at hf12_0); have hx12_1 := hcc12 1 _ rfl; (try simp only [show (k60).sz = 3 from rfl, Nat.mul_one, Nat.add_zero] at hx12_1); have hf12_1 := hfr12 1; (try simp only [show (k60).sz = 3 from rfl, Nat.mul_one, Nat.add_zero] at hf12_1); have hx12_2 := hcc12 2 _ rfl; (try simp only [show (k60).sz = 3 from rfl, Nat.mul_one, Nat.add_zero] at hx12_2); have hf12_2 := hfr12 2; (try simp only [show (k60).sz = 3 from rfl, Nat.mul_one, Nat.add_zero] at hf12_2); clear hcl12 hcc12 hfr12 hM12) | ((with_reducible refine gate_store (t := 60) (p := 21) rfl ?_); refine store_event (t := 60) (p := 21) (v := ?vo_w13) (w1 := (((w11.setCell ⟨go10, (x4_1 : Int).toNat * 3, none⟩ (.int .i64 t245)).setCell ⟨go10, (x4_1 : Int).toNat * 3 + 1, none⟩ (.int .i64 t246)).setCell ⟨go10, (x4_1 : Int).toNat * 3 + 2, none⟩ (.int .i64 t247))) ?hg ?ho ?hn ?hr ?_; (case ho => rfl); (case hg => rfl); (case hn => rfl); (case hr => first | (go_simp; done) | (go_simp; rfl)); intro w13 hw; have hg : w11.grownBy w13 (some go10) := (by rw [hw]; exact HP12.2); have hp_ : Kd.R k60 60 w13 w.heap.size (fun _ => True) (.slice (some ⟨go10, 0, none⟩) x3_1.length co10) y248 := (by rw [hw, Ny248.out]; exact HP12.1); clear HP12; replace HO_3 := Aside0.mk (hp_); replace HB := Aside0.mk ((by rw [hw]; exact below_set (below_set (below_set (HB.out) GB10.out) GB10.out) GB10.out : Below w.heap.size w w13)); clear hg hw hp_))
        go_roundg k1
        case measure => have := HK1.out; omega
        case rel => exact ⟨(y248), (wrap64 (x4_1 + 1)), (by first | rfl | (simp; done) | (simp [*]; done)), H', ⟨by have := HK1.out; omega⟩, ⟨kR_ HO_3.out⟩, ⟨hbA_ HB.out⟩⟩
       ·rw [if_neg c9] at H
        exact absurd H (by simp)
      ·rw [if_neg c7] at H
       exact absurd H (by simp)
     ·rw [if_neg c6] at H
      have c6b0 : decide (x4_1 < (l0.length : Int)) = false := decide_eq_false c6
      clear c6
      obtain rfl := Option.some.inj H
      go_wp2
      go_ret
      exact ⟨_, by first | rfl | (simp [errW_none, errW_some] <;> rfl) | (simp [*, errW_none, errW_some] <;> rfl), kR_ HO_3.out, hbA_ HB.out⟩
  ·rw [if_neg c3] at H
   exact absurd H (by simp)
 ·rw [if_neg c2] at H
  exact absurd H (by simp)
end Go.Proofs.Ytcbiljabpadaeaa.PFnExactNearSend
