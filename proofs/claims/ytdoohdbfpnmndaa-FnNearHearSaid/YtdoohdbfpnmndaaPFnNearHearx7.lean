/- Printed by wip/xp/xprint.sh out of the translation, for this claim: what each function answers, as a plain function, and that the machine does just that. No condition. -/
import Derived.Test.YtdoohdbfpnmndaaPFnNearHearx0
import Derived.Test.YtdoohdbfpnmndaaPFnNearHearx2
namespace Go.Proofs.Ytdoohdbfpnmndaa.PFnNearHear
open Go.RowKit Go.Proofs.YtdoohdbfpnmndaaW.PrintWords Go.Proofs.YtdoohdbfpnmndaaW.PrintLast Go.Proofs.YtdoohdbfpnmndaaW.PrintMore
attribute [local go_sem] max2_int min2_int max_two min_two max_three min_three max_four min_four   -- for this text's walks alone
set_option linter.unusedVariables false
set_option linter.unusedSimpArgs false
mutual
def spec_NearFind.l0 : Nat → Int → Int → Int → List (S63) → List (S65) → Option (Int)
 | 0, _, _, _, _, _ => none
 | k + 1, x1, x2, x7, x317000, x317001 => if x7 < (x317000.length : Int) then ((spec_NearOk.f k x317000 x317001).bind fun t317 => (spec_NearFind.j1 k x1 x2 x7 t317 x317000 x317001)) else (spec_NearFind.j1 k x1 x2 x7 false x317000 x317001)
def spec_NearFind.j1 : Nat → Int → Int → Int → Bool → List (S63) → List (S65) → Option (Int)
 | 0, _, _, _, _, _, _ => none
 | k + 1, x1, x2, x7, x16, x317000, x317001 => if x16 = true then (if 0 ≤ x7 then (if x7 < (x317000.length : Int) then (if ((rd_T63 x317000 x7).f0) = x1 then (if ((rd_T63 x317000 x7).f2) > x2 then (some ((rd_T63 x317000 x7).f1)) else (spec_NearFind.l0 k x1 x2 (wrap64 (x7 + 1)) x317000 x317001)) else (spec_NearFind.l0 k x1 x2 (wrap64 (x7 + 1)) x317000 x317001)) else (none)) else (none)) else (some (-1))
end
def spec_NearFind.f (k : Nat) (l0_0 : List (S63)) (l0_1 : List (S65)) (a1 : Int) (a2 : Int) : Option (Int) := spec_NearFind.l0 k a1 a2 0 l0_0 l0_1
theorem spec_NearFind.mono_l : ∀ k, (∀ y0 y1 y2 y3 y4, LeO (spec_NearFind.l0 k y0 y1 y2 y3 y4) (spec_NearFind.l0 (k + 1) y0 y1 y2 y3 y4)) ∧ (∀ y0 y1 y2 y3 y4 y5, LeO (spec_NearFind.j1 k y0 y1 y2 y3 y4 y5) (spec_NearFind.j1 (k + 1) y0 y1 y2 y3 y4 y5))
 | 0 => ⟨fun _ _ _ _ _ r h => by simp [spec_NearFind.l0] at h, fun _ _ _ _ _ _ r h => by simp [spec_NearFind.j1] at h⟩
 | k + 1 => by
  obtain ⟨ih0, ih1⟩ := spec_NearFind.mono_l k
  refine ⟨?_, ?_⟩
  ·intro y0 y1 y2 y3 y4
   unfold spec_NearFind.l0
   repeat' first | (with_reducible first | apply ih0 | apply ih1 | apply spec_NearOk.mono | exact LeO.refl _ | exact LeO.none _ | refine LeO.ite ?_ ?_ | refine LeO.bind ?_ fun _ => ?_) | apply ih0 | apply ih1 | apply spec_NearOk.mono | exact LeO.none _ | refine LeO.ite ?_ ?_ | refine LeO.bind ?_ fun _ => ?_
  ·intro y0 y1 y2 y3 y4 y5
   unfold spec_NearFind.j1
   repeat' first | (with_reducible first | apply ih0 | apply ih1 | apply spec_NearOk.mono | exact LeO.refl _ | exact LeO.none _ | refine LeO.ite ?_ ?_ | refine LeO.bind ?_ fun _ => ?_) | apply ih0 | apply ih1 | apply spec_NearOk.mono | exact LeO.none _ | refine LeO.ite ?_ ?_ | refine LeO.bind ?_ fun _ => ?_
theorem spec_NearFind.mono : ∀ a0 a1 a2 a3 k, LeO (spec_NearFind.f k a0 a1 a2 a3) (spec_NearFind.f (k + 1) a0 a1 a2 a3) := by
 intro a0 a1 a2 a3 k
 obtain ⟨ih0, ih1⟩ := spec_NearFind.mono_l k
 unfold spec_NearFind.f
 repeat' first | (with_reducible first | apply ih0 | apply ih1 | apply spec_NearOk.mono | exact LeO.refl _ | exact LeO.none _ | refine LeO.ite ?_ ?_ | refine LeO.bind ?_ fun _ => ?_) | apply ih0 | apply ih1 | apply spec_NearOk.mono | exact LeO.none _ | refine LeO.ite ?_ ?_ | refine LeO.bind ?_ fun _ => ?_
set_option maxHeartbeats 8000000 in
set_option maxRecDepth 100000 in
theorem spec_NearFind.calls (k : Nat) (A0_0 : Option Addr) (c0_0 : Nat) (l0_0 : List (S63)) (A0_1 : Option Addr) (c0_1 : Nat) (l0_1 : List (S65)) (a1 : Int) (a2 : Int) (r : Int) (w : World) (hr0_0 : Kd.C k63 w A0_0 l0_0.length l0_0) (hc0_0 : l0_0.length ≤ c0_0) (hr0_1 : Kd.C k65 w A0_1 l0_1.length l0_1) (hc0_1 : l0_1.length ≤ c0_1) (h : spec_NearFind.f k l0_0 l0_1 a1 a2 = some r) :
  Calls Try.prog 26 #[.agg #[.slice A0_0 l0_0.length c0_0, .slice A0_1 l0_1.length c0_1], .int .i64 a1, .int .i64 a2] w fun e w' => e = .returned (.int .i64 r) ∧ Below w.heap.size w w' := by
 have hu32 := Try.underlying32; have HR0_0 := Aside0.mk hr0_0; have HC0_0 := Aside0.mk hc0_0; clear hr0_0 hc0_0; have HR0_1 := Aside0.mk hr0_1; have HC0_1 := Aside0.mk hc0_1; clear hr0_1 hc0_1
 have HB := Aside0.mk (Below.refl w.heap.size w)
 have H : (spec_NearFind.l0 k a1 a2 0 l0_0 l0_1) = some r := h
 clear h
 have H' := Aside0.mk H
 clear H
 go_enter Try.func26, Try.ntmps26
 go_wp2_with (first | ((with_reducible refine gate_dst (N := 3) rfl ?_); refine box_ (N := 3) (cs := #[.slice A0_0 l0_0.length c0_0, .slice A0_1 l0_1.length c0_1]) (t := 32) (fun gb316 hg w4 hbox hb => ?_); have BK316 := Aside0.mk (hbox); have GW316 := ge_ hg HB; have GE316 := ge_ hg HB; replace HB := (bs_ HB hb); clear hb hbox hg))
 go_loopg [7] k (fun kq v7 w' => ∃ (x7_1 : Int), v7 = .int .i64 x7_1 ∧ Aside0 (spec_NearFind.l0 kq a1 a2 x7_1 l0_0 l0_1 = some r) ∧ Aside0 (kq ≤ k) ∧ Aside0 (w'.heap[gb316]? = some (.cells #[(.slice A0_0 l0_0.length c0_0), (.slice A0_1 l0_1.length c0_1)] 32 (0, 0))) ∧ Aside0 (Below w.heap.size w w'))
 case atStart => exact ⟨(0), (by first | rfl | (simp; done) | (simp [*]; done)), H', ⟨Nat.le_refl _⟩, ⟨by refine kb_ ?_; exact BK316.out⟩, ⟨hbA_ HB.out⟩⟩
 case round =>
  clear H'; (try clear c2); (try clear p2)
  obtain ⟨x7_1, rfl, HA, HK1, BK316, HB⟩ := hrel
  cases gk with
  | zero => exact absurd HA.out (by simp [spec_NearFind.l0])
  | succ k1 =>
   have H := HA.out; clear HA
   simp only [spec_NearFind.l0] at H
   have HC5 := Aside0.mk H; clear H
   go_upto_region 2 with (fail)
   go_cut [16] (fun v16 wc => ∃ (kq : Nat) (x16_4 : Bool), v16 = .bool x16_4 ∧ Aside0 (spec_NearFind.j1 kq a1 a2 x7_1 x16_4 l0_0 l0_1 = some r) ∧ Aside0 (kq ≤ k1) ∧ Aside0 (wc.heap[gb316]? = some (.cells #[(.slice A0_0 l0_0.length c0_0), (.slice A0_1 l0_1.length c0_1)] 32 (0, 0))) ∧ Aside0 (Below w.heap.size w wc))
   case first =>
    have H := HC5.out; clear HC5
    by_cases c6 : x7_1 < (l0_0.length : Int)
    ·rw [if_pos c6] at H
     have c6b0 : decide (x7_1 < (l0_0.length : Int)) = true := decide_eq_true c6
     clear c6
     (first | rw [c6b0] | (simp only [i64_w, i32_w]; rw [c6b0]) | skip)
     replace H := Option.bind_eq_some_iff.mp H
     obtain ⟨t317, A70, H⟩ := H
     (try dsimp only at H)
     have A7 := Aside0.mk A70; clear A70
     have H' := Aside0.mk H
     clear H; have Z8 := zz2 BK316
     go_wp2_with (first | (go_at_call 31; (with_reducible refine (spec_NearOk.calls k1 _ _ l0_0 _ _ l0_1 t317 _ ?side1 ?side2 ?side3 ?side4 A7.out).mono ?_); (case side1 => exact kC_ (Kd.C_below HR0_0.out HB.out)); (case side2 => exact HC0_0.out); (case side3 => exact kC_ (Kd.C_below HR0_1.out HB.out)); (case side4 => exact HC0_1.out); rintro e w9 ⟨rfl, hb⟩; replace BK316 := (bbA_ BK316 hb); replace HB := (bs_ HB hb); (try clear hb); (try clear hb2); (try clear hk); (try clear hi)))
     go_meet
     case rel => exact ⟨_, (t317), (by first | rfl | (simp; done) | (simp [*]; done)), H', ⟨by have := HK1.out; first | omega | exact Nat.le_refl _⟩, ⟨by refine kb_ ?_; exact BK316.out⟩, ⟨hbA_ HB.out⟩⟩
    ·rw [if_neg c6] at H
     have c6b0 : decide (x7_1 < (l0_0.length : Int)) = false := decide_eq_false c6
     clear c6
     (first | rw [c6b0] | (simp only [i64_w, i32_w]; rw [c6b0]) | skip)
     have H' := Aside0.mk H
     clear H; have Z10 := zz2 BK316
     go_wp2
     go_meet
     case rel => exact ⟨_, (false), (by first | rfl | (simp; done) | (simp [*]; done)), H', ⟨by have := HK1.out; first | omega | exact Nat.le_refl _⟩, ⟨by refine kb_ ?_; exact BK316.out⟩, ⟨hbA_ HB.out⟩⟩
   case rest =>
    clear HC5; (try clear c2); (try clear p2); (try clear c6); (try clear c6b0); (try clear Z10); (try clear Z8); (try clear p2)
    obtain ⟨kq, x16_4, rfl, HA, HJ4, BK316, HB⟩ := hcut
    cases kq with
    | zero => exact absurd HA.out (by simp [spec_NearFind.j1])
    | succ kj4 =>
     have H := HA.out; clear HA
     simp only [spec_NearFind.j1] at H
     by_cases c11 : x16_4 = true
     ·subst c11
      rw [if_pos rfl] at H
      by_cases c12 : 0 ≤ x7_1
      ·rw [if_pos c12] at H
       have c12b0 : decide (0 ≤ x7_1) = true := decide_eq_true c12
       clear c12
       by_cases c13 : x7_1 < (l0_0.length : Int)
       ·rw [if_pos c13] at H
        have c13b0 : decide (x7_1 < (l0_0.length : Int)) = true := decide_eq_true c13
        clear c13
        by_cases c14 : ((rd_T63 l0_0 x7_1).f0) = a1
        ·rw [if_pos c14] at H
         have c14b0 : (((rd_T63 l0_0 x7_1).f0) == a1) = true := beq_iff_eq.mpr c14
         have c14b1 : (((rd_T63 l0_0 x7_1).f0) != a1) = false := bne_eq_false_iff_eq.mpr c14
         clear c14
         by_cases c15 : ((rd_T63 l0_0 x7_1).f2) > a2
         ·rw [if_pos c15] at H
          have c15b0 : decide (a2 < ((rd_T63 l0_0 x7_1).f2)) = true := decide_eq_true c15
          clear c15
          obtain rfl := Option.some.inj H
          have Z16 := zz2 BK316
          have p318 : 0 ≤ (x7_1 : Int) := of_decide_eq_true (by first | (with_reducible assumption) | assumption)
          have q318 : x7_1 < (l0_0.length : Int) := of_decide_eq_true (by first | (with_reducible assumption) | assumption)
          obtain ⟨ad318, e318, hx318_0, hx318_1, hx318_2⟩ := at_T63 HR0_0.out x7_1 p318 q318
          cases e318
          replace hx318_0 := cc_ HB hx318_0
          replace hx318_1 := cc_ HB hx318_1
          replace hx318_2 := cc_ HB hx318_2
          replace p318 := eq_true p318
          replace q318 := eq_true q318
          have p319 : 0 ≤ (x7_1 : Int) := of_decide_eq_true (by first | (with_reducible assumption) | assumption)
          have q319 : x7_1 < (l0_0.length : Int) := of_decide_eq_true (by first | (with_reducible assumption) | assumption)
          obtain ⟨ad319, e319, hx319_0, hx319_1, hx319_2⟩ := at_T63 HR0_0.out x7_1 p319 q319
          obtain rfl : ad318 = ad319 := (by injection e319)
          replace hx319_0 := cc_ HB hx319_0
          replace hx319_1 := cc_ HB hx319_1
          replace hx319_2 := cc_ HB hx319_2
          replace p319 := eq_true p319
          replace q319 := eq_true q319
          have p320 : 0 ≤ (x7_1 : Int) := of_decide_eq_true (by first | (with_reducible assumption) | assumption)
          have q320 : x7_1 < (l0_0.length : Int) := of_decide_eq_true (by first | (with_reducible assumption) | assumption)
          obtain ⟨ad320, e320, hx320_0, hx320_1, hx320_2⟩ := at_T63 HR0_0.out x7_1 p320 q320
          obtain rfl : ad318 = ad320 := (by injection e320)
          replace hx320_0 := cc_ HB hx320_0
          replace hx320_1 := cc_ HB hx320_1
          replace hx320_2 := cc_ HB hx320_2
          replace p320 := eq_true p320
          replace q320 := eq_true q320
          go_wp2
          go_ret
          exact ⟨by first | rfl | (simp [errW_none, errW_some] <;> rfl) | (simp [*, errW_none, errW_some] <;> rfl), hbA_ HB.out⟩
         ·rw [if_neg c15] at H
          have c15b0 : decide (a2 < ((rd_T63 l0_0 x7_1).f2)) = false := decide_eq_false c15
          clear c15
          have H' := Aside0.mk H
          clear H; have Z17 := zz2 BK316
          have p318 : 0 ≤ (x7_1 : Int) := of_decide_eq_true (by first | (with_reducible assumption) | assumption)
          have q318 : x7_1 < (l0_0.length : Int) := of_decide_eq_true (by first | (with_reducible assumption) | assumption)
          obtain ⟨ad318, e318, hx318_0, hx318_1, hx318_2⟩ := at_T63 HR0_0.out x7_1 p318 q318
          cases e318
          replace hx318_0 := cc_ HB hx318_0
          replace hx318_1 := cc_ HB hx318_1
          replace hx318_2 := cc_ HB hx318_2
          replace p318 := eq_true p318
          replace q318 := eq_true q318
          have p319 : 0 ≤ (x7_1 : Int) := of_decide_eq_true (by first | (with_reducible assumption) | assumption)
          have q319 : x7_1 < (l0_0.length : Int) := of_decide_eq_true (by first | (with_reducible assumption) | assumption)
          obtain ⟨ad319, e319, hx319_0, hx319_1, hx319_2⟩ := at_T63 HR0_0.out x7_1 p319 q319
          obtain rfl : ad318 = ad319 := (by injection e319)
          replace hx319_0 := cc_ HB hx319_0
          replace hx319_1 := cc_ HB hx319_1
          replace hx319_2 := cc_ HB hx319_2
          replace p319 := eq_true p319
          replace q319 := eq_true q319
          go_wp2
          go_roundg kj4
          case measure => have := HK1.out; have := HJ4.out; omega
          case rel => exact ⟨(wrap64 (x7_1 + 1)), (by first | rfl | (simp; done) | (simp [*]; done)), H', ⟨by have := HK1.out; have := HJ4.out; omega⟩, ⟨by refine kb_ ?_; exact BK316.out⟩, ⟨hbA_ HB.out⟩⟩
        ·rw [if_neg c14] at H
         have c14b0 : (((rd_T63 l0_0 x7_1).f0) == a1) = false := beq_eq_false_iff_ne.mpr c14
         have c14b1 : (((rd_T63 l0_0 x7_1).f0) != a1) = true := bne_iff_ne.mpr c14
         have H' := Aside0.mk H
         clear H; have Z18 := zz2 BK316
         have p318 : 0 ≤ (x7_1 : Int) := of_decide_eq_true (by first | (with_reducible assumption) | assumption)
         have q318 : x7_1 < (l0_0.length : Int) := of_decide_eq_true (by first | (with_reducible assumption) | assumption)
         obtain ⟨ad318, e318, hx318_0, hx318_1, hx318_2⟩ := at_T63 HR0_0.out x7_1 p318 q318
         cases e318
         replace hx318_0 := cc_ HB hx318_0
         replace hx318_1 := cc_ HB hx318_1
         replace hx318_2 := cc_ HB hx318_2
         replace p318 := eq_true p318
         replace q318 := eq_true q318
         go_wp2
         go_roundg kj4
         case measure => have := HK1.out; have := HJ4.out; omega
         case rel => exact ⟨(wrap64 (x7_1 + 1)), (by first | rfl | (simp; done) | (simp [*]; done)), H', ⟨by have := HK1.out; have := HJ4.out; omega⟩, ⟨by refine kb_ ?_; exact BK316.out⟩, ⟨hbA_ HB.out⟩⟩
       ·rw [if_neg c13] at H
        exact absurd H (by simp)
      ·rw [if_neg c12] at H
       exact absurd H (by simp)
     ·replace c11 := Bool.eq_false_iff.mpr c11
      subst c11
      rw [if_neg (show ¬ (false = true) by decide)] at H
      obtain rfl := Option.some.inj H
      go_wp2
      go_ret
      exact ⟨by first | rfl | (simp [errW_none, errW_some] <;> rfl) | (simp [*, errW_none, errW_some] <;> rfl), hbA_ HB.out⟩
def spec_NearSend.j0 : Nat → Int → List Int → Int → Bool → List (S63) → List (S65) → Option ((List (S63)) × (List (S65)) × Int)
 | 0, _, _, _, _, _, _ => none
 | k + 1, x1, x2, x3, x29, x322000, x322001 => if x29 = true then (some (([] : List (S63)), ([] : List (S65)), (-1))) else ((spec_l3Copy.f k x322000 x322001).bind fun bt326 => ((spec_NearFind.f k x322000 x322001 x1 x3).bind fun t333 => (if t333 ≥ 0 then (some (bt326.1, bt326.2, t333)) else ((some (([] : List Int) : List Int)).bind fun y334 => (if y334.length + x2.length < 140737488355328 then (if bt326.2.length < 4398046511104 then ((some (bt326.2 ++ [(⟨x1, (y334 ++ x2)⟩ : S65)] : List (S65))).bind fun y340 => (if (y340.length : Int) > 4 then (if 1 ≤ (y340.length : Int) then (some (bt326.1, (y340.drop (1 : Int).toNat), (-1))) else (none)) else (some (bt326.1, y340, (-1))))) else (none)) else (none))))))
def spec_NearSend.f (k : Nat) (l0_0 : List (S63)) (l0_1 : List (S65)) (a1 : Int) (l2 : List Int) (a3 : Int) : Option ((List (S63)) × (List (S65)) × Int) := (spec_NearOk.f k l0_0 l0_1).bind fun t323 => (if t323 = true then ((spec_l1In.f a1 0 65535).bind fun t324 => (if t324 = true then (if (l2.length : Int) > 64 then (spec_NearSend.j0 k a1 l2 a3 true l0_0 l0_1) else ((spec_l1In.f a3 0 999980).bind fun t325 => (spec_NearSend.j0 k a1 l2 a3 (!t325) l0_0 l0_1))) else (spec_NearSend.j0 k a1 l2 a3 true l0_0 l0_1))) else (spec_NearSend.j0 k a1 l2 a3 true l0_0 l0_1))
theorem spec_NearSend.mono_l : ∀ k, (∀ y0 y1 y2 y3 y4 y5, LeO (spec_NearSend.j0 k y0 y1 y2 y3 y4 y5) (spec_NearSend.j0 (k + 1) y0 y1 y2 y3 y4 y5))
 | 0 => fun _ _ _ _ _ _ r h => by simp [spec_NearSend.j0] at h
 | k + 1 => by
  have ih0 := spec_NearSend.mono_l k
  ·intro y0 y1 y2 y3 y4 y5
   unfold spec_NearSend.j0
   repeat' first | (with_reducible first | apply ih0 | apply spec_NearFind.mono | apply spec_NearOk.mono | apply spec_l3Copy.mono | exact LeO.refl _ | exact LeO.none _ | refine LeO.ite ?_ ?_ | refine LeO.bind ?_ fun _ => ?_) | apply ih0 | apply spec_NearFind.mono | apply spec_NearOk.mono | apply spec_l3Copy.mono | exact LeO.none _ | refine LeO.ite ?_ ?_ | refine LeO.bind ?_ fun _ => ?_
theorem spec_NearSend.mono : ∀ a0 a1 a2 a3 a4 k, LeO (spec_NearSend.f k a0 a1 a2 a3 a4) (spec_NearSend.f (k + 1) a0 a1 a2 a3 a4) := by
 intro a0 a1 a2 a3 a4 k
 have ih0 := spec_NearSend.mono_l k
 unfold spec_NearSend.f
 repeat' first | (with_reducible first | apply ih0 | apply spec_NearFind.mono | apply spec_NearOk.mono | apply spec_l3Copy.mono | exact LeO.refl _ | exact LeO.none _ | refine LeO.ite ?_ ?_ | refine LeO.bind ?_ fun _ => ?_) | apply ih0 | apply spec_NearFind.mono | apply spec_NearOk.mono | apply spec_l3Copy.mono | exact LeO.none _ | refine LeO.ite ?_ ?_ | refine LeO.bind ?_ fun _ => ?_
def spec_NearSend.T7 : Bool × List (List Nat × List Nat) := (true, [([], []), ([0], [0]), ([], []), ([], []), ([], []), ([3, 4], [3, 4]), ([2, 5], [2, 5]), ([6], [6]), ([1, 7, 5], [1, 7]), ([0, 1, 2, 3, 4, 5, 6, 7, 8], []), ([9, 8, 8, 0, 1, 2, 3, 4, 5, 6, 7, 8], [8, 9])])
def spec_NearSend.B7 : List Nat := [0, 1, 0, 0, 0, 24, 60, 124, 255, 511, 1023]
theorem spec_NearSend.tab7 : rtab .any (opsOf Try.f77 7) = spec_NearSend.T7 := by kernel_rfl
theorem spec_NearSend.bits7 : waitsOk spec_NearSend.T7.2 spec_NearSend.B7 = true := by kernel_rfl
set_option maxHeartbeats 8000000 in
set_option maxRecDepth 100000 in
theorem spec_NearSend.calls (k : Nat) (A0_0 : Option Addr) (c0_0 : Nat) (l0_0 : List (S63)) (A0_1 : Option Addr) (c0_1 : Nat) (l0_1 : List (S65)) (a1 : Int) (A2 : Option Addr) (c2 : Nat) (l2 : List Int) (a3 : Int) (r1 : List (S63)) (r2 : List (S65)) (r3 : Int) (w : World) (hr0_0 : Kd.C k63 w A0_0 l0_0.length l0_0) (hc0_0 : l0_0.length ≤ c0_0) (hr0_1 : Kd.C k65 w A0_1 l0_1.length l0_1) (hc0_1 : l0_1.length ≤ c0_1) (hr2 : Kd.C (Kd.int .u8) w A2 l2.length l2) (hc2 : l2.length ≤ c2) (h : spec_NearSend.f k l0_0 l0_1 a1 l2 a3 = some (r1, r2, r3)) :
  Calls Try.prog 77 #[.agg #[.slice A0_0 l0_0.length c0_0, .slice A0_1 l0_1.length c0_1], .int .i64 a1, .slice A2 l2.length c2, .int .i64 a3] w fun e w' => ∃ v0_ v1_ : Value, e = .returned (.tuple #[.agg #[v0_, v1_], .int .i64 r3]) ∧ Kd.R k63 63 w' w.heap.size (fun _ => True) v0_ r1 ∧ Kd.Q k65 65 w' w.heap.size (fun _ => True) v1_ r2 ∧ Below w.heap.size w w' := by
 have hu32 := Try.underlying32; have hu65 := Try.underlying65; have HR0_0 := Aside0.mk hr0_0; have HC0_0 := Aside0.mk hc0_0; clear hr0_0 hc0_0; have HR0_1 := Aside0.mk hr0_1; have HC0_1 := Aside0.mk hc0_1; clear hr0_1 hc0_1; have HR2 := Aside0.mk hr2; have HC2 := Aside0.mk hc2; clear hr2 hc2
 have HB := Aside0.mk (Below.refl w.heap.size w)
 have H : ((spec_NearOk.f k l0_0 l0_1).bind fun t323 => (if t323 = true then ((spec_l1In.f a1 0 65535).bind fun t324 => (if t324 = true then (if (l2.length : Int) > 64 then (spec_NearSend.j0 k a1 l2 a3 true l0_0 l0_1) else ((spec_l1In.f a3 0 999980).bind fun t325 => (spec_NearSend.j0 k a1 l2 a3 (!t325) l0_0 l0_1))) else (spec_NearSend.j0 k a1 l2 a3 true l0_0 l0_1))) else (spec_NearSend.j0 k a1 l2 a3 true l0_0 l0_1))) = some (r1, r2, r3) := h
 clear h; have HC5 := Aside0.mk H; clear H
 go_enter Try.func77, Try.ntmps77
 go_upto_region 1 with (first | ((with_reducible refine gate_dst (N := 4) rfl ?_); (try (refine gate_guard (by rfl) ?_; dsimp only)); refine box_ (N := 4) (cs := #[.slice A0_0 l0_0.length c0_0, .slice A0_1 l0_1.length c0_1]) (t := 32) (fun gb321 hg w6 hbox hb => ?_); have BK321 := Aside0.mk (hbox); have GW321 := ge_ hg HB; have GE321 := ge_ hg HB; replace HB := (bs_ HB hb); clear hb hbox hg) | ((with_reducible refine gate_dst (N := 8) rfl ?_); (try (refine gate_guard (by rfl) ?_; dsimp only)); refine box_ (N := 8) (cs := #[.slice none 0 0, .slice none 0 0]) (t := 32) (fun gb322 hg w7 hbox hb => ?_); have BK322 := Aside0.mk (hbox); have GW322 := ge_ hg HB; have GE322 := ge_ hg HB; replace HB := (bs_ HB hb); have NB321_322 := nl_ hg BK321; have NB322_321 := ng_ hg BK321; replace BK321 := (bbA_ BK321 hb); clear hb hbox hg))
 (try simp only [Act.put, List.setIfInBounds_toArray, List.set_cons_zero, List.set_cons_succ])
 go_cut [29] (fun v29 wc => ∃ (kq : Nat) (x29_4 : Bool), v29 = .bool x29_4 ∧ Aside0 (spec_NearSend.j0 kq a1 l2 a3 x29_4 l0_0 l0_1 = some (r1, r2, r3)) ∧ Aside0 (kq ≤ k) ∧ Aside0 (wc.heap[gb321]? = some (.cells #[(.slice A0_0 l0_0.length c0_0), (.slice A0_1 l0_1.length c0_1)] 32 (0, 0))) ∧ Aside0 (wc.heap[gb322]? = some (.cells #[(.slice none 0 0), (.slice none 0 0)] 32 (0, 0))) ∧ Aside0 (Below w.heap.size w wc))
 case first =>
  have H := HC5.out; clear HC5
  replace H := Option.bind_eq_some_iff.mp H
  obtain ⟨t323, A80, H⟩ := H
  (try dsimp only at H)
  have A8 := Aside0.mk A80; clear A80
  by_cases c9 : t323 = true
  ·subst c9
   rw [if_pos rfl] at H
   replace H := Option.bind_eq_some_iff.mp H
   obtain ⟨t324, A100, H⟩ := H
   (try dsimp only at H)
   have A10 := Aside0.mk A100; clear A100
   by_cases c11 : t324 = true
   ·subst c11
    rw [if_pos rfl] at H
    by_cases c12 : (l2.length : Int) > 64
    ·rw [if_pos c12] at H
     have c12b0 : decide (64 < (l2.length : Int)) = true := decide_eq_true c12
     have c12b1 : decide (64 < l2.length) = true := decide_eq_true (by omega)
     clear c12
     (first | rw [c12b0] | (simp only [i64_w, i32_w]; rw [c12b0]) | skip)
     have H' := Aside0.mk H
     clear H; have hnb13 := NB321_322.out; have hnc13 := NB322_321.out; have Z14 := zz2 BK321
     go_wp2_with (first | ((with_reducible refine gate_callee (f := 31) rfl ?_); refine goesL_ (some 13) rfl rfl Try.func31 (by kernel_rfl) rfl #[.agg #[.slice A0_0 l0_0.length c0_0, .slice A0_1 l0_1.length c0_1]] rfl ar_ ?_; (with_reducible refine (spec_NearOk.calls k _ _ l0_0 _ _ l0_1 true _ ?side1 ?side2 ?side3 ?side4 A8.out).mono ?_); (case side1 => exact kC_ (Kd.C_below HR0_0.out HB.out)); (case side2 => exact HC0_0.out); (case side3 => exact kC_ (Kd.C_below HR0_1.out HB.out)); (case side4 => exact HC0_1.out); rintro e w15 ⟨rfl, hb⟩; refine ⟨_, rfl, ?_⟩; replace BK321 := (bbA_ BK321 hb); replace BK322 := (bbA_ BK322 hb); replace HB := (bs_ HB hb); (try clear hb); (try clear hb2); (try clear hk); (try clear hi)) | (go_at_call 33; (with_reducible refine (spec_l1In.calls a1 0 65535 true _ A10.out).mono ?_); rintro e w' ⟨rfl, ⟨nd, rfl⟩⟩))
     go_meet
     case rel => exact ⟨_, (true), (by first | rfl | (simp; done) | (simp [*]; done)), H', ⟨by first | omega | exact Nat.le_refl _⟩, ⟨by refine kb_ ?_; exact BK321.out⟩, ⟨by refine kb_ ?_; exact BK322.out⟩, ⟨hbA_ HB.out⟩⟩
    ·rw [if_neg c12] at H
     have c12b0 : decide (64 < (l2.length : Int)) = false := decide_eq_false c12
     have c12b1 : decide (64 < l2.length) = false := decide_eq_false (by omega)
     clear c12
     (first | rw [c12b0] | (simp only [i64_w, i32_w]; rw [c12b0]) | skip)
     replace H := Option.bind_eq_some_iff.mp H
     obtain ⟨t325, A160, H⟩ := H
     (try dsimp only at H)
     have A16 := Aside0.mk A160; clear A160
     have H' := Aside0.mk H
     clear H; have hnb17 := NB321_322.out; have hnc17 := NB322_321.out; have Z18 := zz2 BK321
     go_wp2_with (first | ((with_reducible refine gate_callee (f := 31) rfl ?_); refine goesL_ (some 13) rfl rfl Try.func31 (by kernel_rfl) rfl #[.agg #[.slice A0_0 l0_0.length c0_0, .slice A0_1 l0_1.length c0_1]] rfl ar_ ?_; (with_reducible refine (spec_NearOk.calls k _ _ l0_0 _ _ l0_1 true _ ?side1 ?side2 ?side3 ?side4 A8.out).mono ?_); (case side1 => exact kC_ (Kd.C_below HR0_0.out HB.out)); (case side2 => exact HC0_0.out); (case side3 => exact kC_ (Kd.C_below HR0_1.out HB.out)); (case side4 => exact HC0_1.out); rintro e w19 ⟨rfl, hb⟩; refine ⟨_, rfl, ?_⟩; replace BK321 := (bbA_ BK321 hb); replace BK322 := (bbA_ BK322 hb); replace HB := (bs_ HB hb); (try clear hb); (try clear hb2); (try clear hk); (try clear hi)) | (go_at_call 33; (with_reducible refine (spec_l1In.calls a1 0 65535 true _ A10.out).mono ?_); rintro e w' ⟨rfl, ⟨nd, rfl⟩⟩) | (go_at_call 33; (with_reducible refine (spec_l1In.calls a3 0 999980 t325 _ A16.out).mono ?_); rintro e w' ⟨rfl, ⟨nd, rfl⟩⟩))
     go_meet
     case rel => exact ⟨_, (!t325), (by first | rfl | (simp; done) | (simp [*]; done)), H', ⟨by first | omega | exact Nat.le_refl _⟩, ⟨by refine kb_ ?_; exact BK321.out⟩, ⟨by refine kb_ ?_; exact BK322.out⟩, ⟨hbA_ HB.out⟩⟩
   ·replace c11 := Bool.eq_false_iff.mpr c11
    subst c11
    rw [if_neg (show ¬ (false = true) by decide)] at H
    have H' := Aside0.mk H
    clear H; have hnb20 := NB321_322.out; have hnc20 := NB322_321.out; have Z21 := zz2 BK321
    go_wp2_with (first | ((with_reducible refine gate_callee (f := 31) rfl ?_); refine goesL_ (some 13) rfl rfl Try.func31 (by kernel_rfl) rfl #[.agg #[.slice A0_0 l0_0.length c0_0, .slice A0_1 l0_1.length c0_1]] rfl ar_ ?_; (with_reducible refine (spec_NearOk.calls k _ _ l0_0 _ _ l0_1 true _ ?side1 ?side2 ?side3 ?side4 A8.out).mono ?_); (case side1 => exact kC_ (Kd.C_below HR0_0.out HB.out)); (case side2 => exact HC0_0.out); (case side3 => exact kC_ (Kd.C_below HR0_1.out HB.out)); (case side4 => exact HC0_1.out); rintro e w22 ⟨rfl, hb⟩; refine ⟨_, rfl, ?_⟩; replace BK321 := (bbA_ BK321 hb); replace BK322 := (bbA_ BK322 hb); replace HB := (bs_ HB hb); (try clear hb); (try clear hb2); (try clear hk); (try clear hi)) | (go_at_call 33; (with_reducible refine (spec_l1In.calls a1 0 65535 false _ A10.out).mono ?_); rintro e w' ⟨rfl, ⟨nd, rfl⟩⟩))
    go_meet
    case rel => exact ⟨_, (true), (by first | rfl | (simp; done) | (simp [*]; done)), H', ⟨by first | omega | exact Nat.le_refl _⟩, ⟨by refine kb_ ?_; exact BK321.out⟩, ⟨by refine kb_ ?_; exact BK322.out⟩, ⟨hbA_ HB.out⟩⟩
  ·replace c9 := Bool.eq_false_iff.mpr c9
   subst c9
   rw [if_neg (show ¬ (false = true) by decide)] at H
   have H' := Aside0.mk H
   clear H; have hnb23 := NB321_322.out; have hnc23 := NB322_321.out; have Z24 := zz2 BK321
   go_wp2_with (first | ((with_reducible refine gate_callee (f := 31) rfl ?_); refine goesL_ (some 13) rfl rfl Try.func31 (by kernel_rfl) rfl #[.agg #[.slice A0_0 l0_0.length c0_0, .slice A0_1 l0_1.length c0_1]] rfl ar_ ?_; (with_reducible refine (spec_NearOk.calls k _ _ l0_0 _ _ l0_1 false _ ?side1 ?side2 ?side3 ?side4 A8.out).mono ?_); (case side1 => exact kC_ (Kd.C_below HR0_0.out HB.out)); (case side2 => exact HC0_0.out); (case side3 => exact kC_ (Kd.C_below HR0_1.out HB.out)); (case side4 => exact HC0_1.out); rintro e w25 ⟨rfl, hb⟩; refine ⟨_, rfl, ?_⟩; replace BK321 := (bbA_ BK321 hb); replace BK322 := (bbA_ BK322 hb); replace HB := (bs_ HB hb); (try clear hb); (try clear hb2); (try clear hk); (try clear hi)))
   go_meet
   case rel => exact ⟨_, (true), (by first | rfl | (simp; done) | (simp [*]; done)), H', ⟨by first | omega | exact Nat.le_refl _⟩, ⟨by refine kb_ ?_; exact BK321.out⟩, ⟨by refine kb_ ?_; exact BK322.out⟩, ⟨hbA_ HB.out⟩⟩
 case rest =>
  clear HC5; (try clear c1); (try clear c2); (try clear p2); (try clear c3); (try clear c7); (try clear c9); (try clear c11); (try clear c12); (try clear c12b0); (try clear c12b1); (try clear c13); (try clear c17); (try clear c20); (try clear c23); (try clear Z14); (try clear Z18); (try clear Z21); (try clear Z24)
  obtain ⟨kq, x29_4, rfl, HA, HJ4, BK321, BK322, HB⟩ := hcut
  cases kq with
  | zero => exact absurd HA.out (by simp [spec_NearSend.j0])
  | succ kj4 =>
   have H := HA.out; clear HA
   simp only [spec_NearSend.j0] at H
   by_cases c26 : x29_4 = true
   ·subst c26
    rw [if_pos rfl] at H
    simp only [Option.some.injEq, Prod.mk.injEq] at H
    obtain ⟨rfl, rfl, rfl⟩ := H
    have hnb27 := NB322_321.out; have hnc27 := NB321_322.out; have Z28 := zz2 BK322
    go_wp2
    refine bodyPost_ret (results_ct rfl _ _ gb322 32 #[.slice none 0 0, .slice none 0 0] (0, 0) _ rfl (by refine kb_ ?_; refine pz2 (cs := #[.slice none 0 0, .slice none 0 0]) ?_; refine kb_ ?_; exact BK322.out) Try.underlying32 rfl (by kernel_rfl)) rfl ?_
    exact ⟨_, _, by first | rfl | (simp [errW_none, errW_some] <;> rfl) | (simp [*, errW_none, errW_some] <;> rfl), by first | exact Kd.R_nil _ _ _ _ _ | exact Kd.N_nil _ _ _ _ _ | exact Kd.V_nil _ _ _ _ _ | exact Kd.Q_nil _ _ _ _ _ | exact Kd.S_nil _ _ _ _ _, Kd.Q_of_R ((Kd.S_R (by first | exact Kd.S_nil _ _ _ _ _ | exact Kd.N_nil _ _ _ _ _ | exact Kd.V_nil _ _ _ _ _ | exact Kd.Q_nil _ _ _ _ _ | exact Kd.R_nil _ _ _ _ _))), hbA_ HB.out⟩
   ·replace c26 := Bool.eq_false_iff.mpr c26
    subst c26
    rw [if_neg (show ¬ (false = true) by decide)] at H
    replace H := Option.bind_eq_some_iff.mp H
    obtain ⟨⟨t326, t329⟩, A290, H⟩ := H
    (try dsimp only at H)
    have A29 := Aside0.mk A290; clear A290
    replace H := Option.bind_eq_some_iff.mp H
    obtain ⟨t333, A300, H⟩ := H
    (try dsimp only at H)
    have A30 := Aside0.mk A300; clear A300
    by_cases c31 : t333 ≥ 0
    ·rw [if_pos c31] at H
     have c31b0 : decide (0 ≤ t333) = true := decide_eq_true c31
     clear c31
     simp only [Option.some.injEq, Prod.mk.injEq] at H
     obtain ⟨rfl, rfl, rfl⟩ := H
     have hnb32 := NB321_322.out; have hnc32 := NB322_321.out; have Z33 := zz2 BK321
     go_wp2_with (first | ((with_reducible refine gate_callee (f := 34) rfl ?_); refine goesL_ (some 32) rfl rfl Try.func34 (by kernel_rfl) rfl #[.agg #[.slice A0_0 l0_0.length c0_0, .slice A0_1 l0_1.length c0_1]] rfl ar_ ?_; (with_reducible refine (spec_l3Copy.calls kj4 _ _ l0_0 _ _ l0_1 t326 t329 _ ?side1 ?side2 ?side3 ?side4 A29.out).mono ?_); (case side1 => exact kC_ (Kd.C_below HR0_0.out HB.out)); (case side2 => exact HC0_0.out); (case side3 => exact kC_ (Kd.C_below HR0_1.out HB.out)); (case side4 => exact HC0_1.out); rintro e w34 ⟨v327, v330, rfl, ho0, ho1, hb⟩; refine ⟨_, rfl, ?_⟩; have HO328 := Aside0.mk (Kd.R_lower ho0 (below_size (hbA_ HB.out))); have HO331 := Aside0.mk (Kd.S_lower ho1 (below_size (hbA_ HB.out))); replace BK321 := (bbA_ BK321 hb); replace BK322 := (bbA_ BK322 hb); replace HB := (bs_ HB hb); (try clear hb); (try clear hb2); (try clear hk); (try clear hi); (try clear ho0); (try clear ho1)) | ((with_reducible refine gate_dst (N := 10) rfl ?_); (try (refine gate_guard (by rfl) ?_; dsimp only)); refine box_ (N := 10) (cs := #[.slice none 0 0, .slice none 0 0]) (t := 32) (fun gb332 hg w35 hbox hb => ?_); replace HO328 := Aside0.mk (Kd.R_below (kR_ HO328.out) hb); replace HO331 := Aside0.mk (Kd.S_below (kS_ HO331.out) hb); have BK332 := Aside0.mk (hbox); have GW332 := ge_ hg HB; have GE332 := ge_ hg HB; replace HB := (bs_ HB hb); have NB321_332 := nl_ hg BK321; have NB332_321 := ng_ hg BK321; replace BK321 := (bbA_ BK321 hb); have NB322_332 := nl_ hg BK322; have NB332_322 := ng_ hg BK322; replace BK322 := (bbA_ BK322 hb); clear hb hbox hg; obtain ⟨Ao36, co36, eo36⟩ := Kd.R_slice HO328.out; subst eo36; have hnb37 := NB332_321.out; have hnc37 := NB321_332.out; have hnb38 := NB332_322.out; have hnc38 := NB322_332.out; have Z39 := zz2 BK332; obtain ⟨Ao40, co40, eo40⟩ := Kd.S_slice HO331.out; subst eo40; have Z41 := zz2 BK321) | ((with_reducible refine gate_callee (f := 26) rfl ?_); refine goesL_ (some 36) rfl rfl Try.func26 (by kernel_rfl) rfl #[.agg #[.slice A0_0 l0_0.length c0_0, .slice A0_1 l0_1.length c0_1], .int .i64 a1, .int .i64 a3] rfl ar_ ?_; (with_reducible refine (spec_NearFind.calls kj4 _ _ l0_0 _ _ l0_1 a1 a3 t333 _ ?side1 ?side2 ?side3 ?side4 A30.out).mono ?_); (case side1 => exact Kd.C_below HR0_0.out (hbA_ HB.out)); (case side2 => exact HC0_0.out); (case side3 => exact Kd.C_below HR0_1.out (hbA_ HB.out)); (case side4 => exact HC0_1.out); rintro e w42 ⟨rfl, hb⟩; refine ⟨_, rfl, ?_⟩; replace HO328 := Aside0.mk (Kd.R_below (by refine kR_ ?_; exact (rfm_ ((Kd.R_types HO328.out BK332.out (by decide))) (fun _ h_ => op1_ h_))) hb); replace HO331 := Aside0.mk (Kd.S_below (by refine kS_ ?_; exact (Kd.S_mono (Kd.S_far (p := ⟨gb332, 1, none⟩) (Kd.S_far (p := ⟨gb332, 0, none⟩) (Kd.S_types HO331.out BK332.out (by decide)) (fun _ hk => hk.2) (.slice Ao36 t326.length co36)) (fun _ hk => hk.2) (.slice Ao40 t329.length co40)) (fun _ h_ => op1_ h_))) hb); replace BK321 := Aside0.mk (blk_below (g := gb321) (o := .cells #[.slice A0_0 l0_0.length c0_0, .slice A0_1 l0_1.length c0_1] 32 (0, 0)) (by exact kf_ BK321.out) hb); replace BK322 := Aside0.mk (blk_below (g := gb322) (o := .cells #[.slice none 0 0, .slice none 0 0] 32 (0, 0)) (by exact kf_ BK322.out) hb); replace BK332 := Aside0.mk (blk_below (g := gb332) (o := .cells #[.slice Ao36 t326.length co36, .slice Ao40 t329.length co40] 32 (0, 0)) (by refine kb_ ?_; refine pz2 (cs := #[.slice none 0 0, .slice none 0 0]) ?_; refine kb_ ?_; exact BK332.out) hb); replace HB := (bs_ HB hb); (try clear hb); (try clear hb2); (try clear hk); (try clear hi); have Z43 := zz2 BK332; have Z44 := zz2 BK322))
     refine bodyPost_ret (results_ct rfl _ _ gb322 32 #[.slice Ao36 t326.length co36, .slice Ao40 t329.length co40] (0, 0) _ rfl (by refine kb_ ?_; refine pz2 (cs := #[.slice none 0 0, .slice none 0 0]) ?_; refine kb_ ?_; exact BK322.out) Try.underlying32 rfl (by kernel_rfl)) rfl ?_
     exact ⟨_, _, by first | rfl | (simp [errW_none, errW_some] <;> rfl) | (simp [*, errW_none, errW_some] <;> rfl), by refine kR_ ?_; exact rfm_ ((Kd.R_types HO328.out BK322.out (by decide))) (fun _ hk => trivial), Kd.Q_of_R ((Kd.S_R (by refine kS_ ?_; exact Kd.S_mono (Kd.S_far (p := ⟨gb322, 1, none⟩) (Kd.S_far (p := ⟨gb322, 0, none⟩) (Kd.S_types HO331.out BK322.out (by decide)) (fun _ hk => hk.2) (.slice Ao36 t326.length co36)) (fun _ hk => hk.2) (.slice Ao40 t329.length co40)) (fun _ hk => trivial)))), hbA_ HB.out⟩
    ·rw [if_neg c31] at H
     have c31b0 : decide (0 ≤ t333) = false := decide_eq_false c31
     clear c31
     obtain ⟨y334, hy334⟩ : ∃ y_ : List Int, y_ = (([] : List Int)) := ⟨_, rfl⟩
     (first | replace H := sb_ hy334 H | rw [← hy334] at H)
     have Ny334 := Aside0.mk hy334; clear hy334
     by_cases c45 : y334.length + l2.length < 140737488355328
     ·rw [if_pos c45] at H
      have LMc45 := Aside0.mk c45; clear c45
      obtain ⟨y337, hy337⟩ : ∃ y_ : List Int, y_ = (y334 ++ l2) := ⟨_, rfl⟩
      (first | replace H := sb_ hy337 H | rw [← hy337] at H)
      have Ny337 := Aside0.mk hy337; clear hy337
      by_cases c46 : t329.length < 4398046511104
      ·rw [if_pos c46] at H
       have LMc46 := Aside0.mk c46; clear c46
       obtain ⟨y340, hy340⟩ : ∃ y_ : List (S65), y_ = (t329 ++ [(⟨a1, y337⟩ : S65)]) := ⟨_, rfl⟩
       (first | replace H := sb_ hy340 H | rw [← hy340] at H)
       have Ny340 := Aside0.mk hy340; clear hy340
       by_cases c47 : (y340.length : Int) > 4
       ·rw [if_pos c47] at H
        have c47b0 : decide (4 < (y340.length : Int)) = true := decide_eq_true c47
        have c47b1 : decide (4 < y340.length) = true := decide_eq_true (by omega)
        clear c47
        by_cases c48 : 1 ≤ (y340.length : Int)
        ·rw [if_pos c48] at H
         have c48b0 := eq_true c48
         have c48b1 : decide (1 ≤ (y340.length : Int)) = true := decide_eq_true c48
         clear c48
         obtain ⟨y343, hy343⟩ : ∃ y_ : List (S65), y_ = (y340.drop (1 : Int).toNat) := ⟨_, rfl⟩
         (first | replace H := sb_ hy343 H | rw [← hy343] at H)
         have Ny343 := Aside0.mk hy343; clear hy343
         simp only [Option.some.injEq, Prod.mk.injEq] at H
         obtain ⟨rfl, rfl, rfl⟩ := H
         have hnb49 := NB321_322.out; have hnc49 := NB322_321.out; have Z50 := zz2 BK321
         try go_wp2_with (first | ((with_reducible refine gate_callee (f := 34) rfl ?_); refine goesL_ (some 32) rfl rfl Try.func34 (by kernel_rfl) rfl #[.agg #[.slice A0_0 l0_0.length c0_0, .slice A0_1 l0_1.length c0_1]] rfl ar_ ?_; (with_reducible refine (spec_l3Copy.calls kj4 _ _ l0_0 _ _ l0_1 t326 t329 _ ?side1 ?side2 ?side3 ?side4 A29.out).mono ?_); (case side1 => exact kC_ (Kd.C_below HR0_0.out HB.out)); (case side2 => exact HC0_0.out); (case side3 => exact kC_ (Kd.C_below HR0_1.out HB.out)); (case side4 => exact HC0_1.out); rintro e w51 ⟨v327, v330, rfl, ho0, ho1, hb⟩; refine ⟨_, rfl, ?_⟩; have HO328 := Aside0.mk (Kd.R_lower ho0 (below_size (hbA_ HB.out))); have HO331 := Aside0.mk (Kd.S_lower ho1 (below_size (hbA_ HB.out))); replace BK321 := (bbA_ BK321 hb); replace BK322 := (bbA_ BK322 hb); replace HB := (bs_ HB hb); (try clear hb); (try clear hb2); (try clear hk); (try clear hi); (try clear ho0); (try clear ho1)) | ((with_reducible refine gate_dst (N := 10) rfl ?_); (try (refine gate_guard (by rfl) ?_; dsimp only)); refine box_ (N := 10) (cs := #[.slice none 0 0, .slice none 0 0]) (t := 32) (fun gb332 hg w52 hbox hb => ?_); replace HO328 := Aside0.mk (Kd.R_below (kR_ HO328.out) hb); replace HO331 := Aside0.mk (Kd.S_below (kS_ HO331.out) hb); have BK332 := Aside0.mk (hbox); have GW332 := ge_ hg HB; have GE332 := ge_ hg HB; replace HB := (bs_ HB hb); have NB321_332 := nl_ hg BK321; have NB332_321 := ng_ hg BK321; replace BK321 := (bbA_ BK321 hb); have NB322_332 := nl_ hg BK322; have NB332_322 := ng_ hg BK322; replace BK322 := (bbA_ BK322 hb); clear hb hbox hg; obtain ⟨Ao53, co53, eo53⟩ := Kd.R_slice HO328.out; subst eo53; have hnb54 := NB332_321.out; have hnc54 := NB321_332.out; have hnb55 := NB332_322.out; have hnc55 := NB322_332.out; have Z56 := zz2 BK332; obtain ⟨Ao57, co57, eo57⟩ := Kd.S_slice HO331.out; subst eo57; have Z58 := zz2 BK321) | ((with_reducible refine gate_callee (f := 26) rfl ?_); refine goesL_ (some 36) rfl rfl Try.func26 (by kernel_rfl) rfl #[.agg #[.slice A0_0 l0_0.length c0_0, .slice A0_1 l0_1.length c0_1], .int .i64 a1, .int .i64 a3] rfl ar_ ?_; (with_reducible refine (spec_NearFind.calls kj4 _ _ l0_0 _ _ l0_1 a1 a3 t333 _ ?side1 ?side2 ?side3 ?side4 A30.out).mono ?_); (case side1 => exact Kd.C_below HR0_0.out (hbA_ HB.out)); (case side2 => exact HC0_0.out); (case side3 => exact Kd.C_below HR0_1.out (hbA_ HB.out)); (case side4 => exact HC0_1.out); rintro e w59 ⟨rfl, hb⟩; refine ⟨_, rfl, ?_⟩; replace HO328 := Aside0.mk (Kd.R_below (by refine kR_ ?_; exact (rfm_ ((Kd.R_types HO328.out BK332.out (by decide))) (fun _ h_ => op1_ h_))) hb); replace HO331 := Aside0.mk (Kd.S_below (by refine kS_ ?_; exact (Kd.S_mono (Kd.S_far (p := ⟨gb332, 1, none⟩) (Kd.S_far (p := ⟨gb332, 0, none⟩) (Kd.S_types HO331.out BK332.out (by decide)) (fun _ hk => hk.2) (.slice Ao53 t326.length co53)) (fun _ hk => hk.2) (.slice Ao57 t329.length co57)) (fun _ h_ => op1_ h_))) hb); replace BK321 := Aside0.mk (blk_below (g := gb321) (o := .cells #[.slice A0_0 l0_0.length c0_0, .slice A0_1 l0_1.length c0_1] 32 (0, 0)) (by exact kf_ BK321.out) hb); replace BK322 := Aside0.mk (blk_below (g := gb322) (o := .cells #[.slice none 0 0, .slice none 0 0] 32 (0, 0)) (by exact kf_ BK322.out) hb); replace BK332 := Aside0.mk (blk_below (g := gb332) (o := .cells #[.slice Ao53 t326.length co53, .slice Ao57 t329.length co57] 32 (0, 0)) (by refine kb_ ?_; refine pz2 (cs := #[.slice none 0 0, .slice none 0 0]) ?_; refine kb_ ?_; exact BK332.out) hb); replace HB := (bs_ HB hb); (try clear hb); (try clear hb2); (try clear hk); (try clear hi)))
         replace HO328 := Aside0.mk (Kd.R_drew HO328.out); replace HO331 := Aside0.mk (Kd.S_drew HO331.out); replace BK321 := Aside0.mk (blk_drew BK321.out); replace BK322 := Aside0.mk (blk_drew BK322.out); replace BK332 := Aside0.mk (blk_drew BK332.out); replace HB := (bd_ HB)
         refine start_ (n := 11) (S := fun w' => w'.cell? ⟨gb332, 0, none⟩ = some (.slice Ao53 t326.length co53) ∧ w'.cell? ⟨gb332, 1, none⟩ = some (.slice Ao57 t329.length co57)) (ds := [10]) #[false, false, false, false, false, false, false, false, false, false, false] (by kernel_rfl) rfl rfl (cz2 BK332.out) (fun hHeld => ?_); refine with_tabW spec_NearSend.tab7 spec_NearSend.bits7 (fun HT_ HW_ => ?_)
         generalize w59.drew = w60 at HO328 HO331 BK321 BK322 BK332 HB hHeld ⊢
         refine pu_ (i := 0) (N := some 41) HT_ ?_; refine pu_ (i := 2) (N := some 43) HT_ ?_; refine pu_ (i := 4) (N := some 45) HT_ ?_; refine tk_ (i := 1) (N := some 42) HT_ HW_ hHeld ?_
         refine on_ (i := 3) (N := some 44) HT_ (fun K hK => ?_)
         refine Kd.R_lit_step (Kd.int .u8) _ 5 ?hg (N := 44) ?hd (xs := ([] : List Int)) (inner := []) (ok := fun _ => True) (okp := fun _ => True) ?hr ?hp (fun _ hk => hk) trivial (Below.refl _ _) (Nat.le_refl _) (by simp) ?_; (case hd => rfl); (case hg => rfl); (case hr => first | (go_simp; done) | (go_simp; rfl)); (case hp => exact (Reps.none _ _))
         intro v335 w61 ho62 hb hg_ hnew_
         clear hg_ hnew_
         (first | rw [← Ny334.out] at ho62 | (simp only [Int.reduceToNat] at ho62; rw [← Ny334.out] at ho62))
         have n0_ := Aside0.mk (Kd.R_below (kR_ HO328.out) hb); have n1_ := Aside0.mk (Kd.S_elder' (kS_ HO331.out) (Kd.R_base ho62) hb); have n2_ := Aside0.mk (Kd.R_lower ho62 (below_size (hbA_ HB.out))); have n3_ := (bbA_ BK321 hb); have n4_ := (bbA_ BK322 hb); have n5_ := (bbA_ BK332 hb); have n6_ := (bs_ HB hb); clear HO328 HO331 BK321 BK322 BK332 HB; have HO328 := n0_; have HO331 := n1_; have HO336 := n2_; have BK321 := n3_; have BK322 := n4_; have BK332 := n5_; have HB := n6_; clear n0_ n1_ n2_ n3_ n4_ n5_ n6_ hb ho62
         refine hK.out _ _ (cz2 BK332.out) (fun hHeld => ?_)
         clear hK K; refine nm_ 44 ?_
         refine on_ (i := 5) (N := some 46) HT_ (fun K hK => ?_)
         refine Kd.R_append_rows_step (Kd.int .u8) (w0 := w) w.heap.size (by rfl) (.tmp 44) (.tmp 45) 44 5 (.int .u8 0) 1 rfl Try.underlying44 info5 rfl (by decide) (by omega) v335 y334 l2 _ _ _ (fun _ => True) (fun _ => False) rfl rfl ?aO ?aR (fun _ _ h => h) (fun _ h => h.elim) ?aF ?aB ?aS ?aL ?_
         (case aR => exact kC_ (Kd.C_below HR2.out HB.out))
         (case aB => exact (hbA_ HB.out))
         (case aF => exact (fun _ _ => trivial))
         (case aO => exact (kR_ HO336.out))
         (case aS => exact (below_size (hbA_ HB.out)))
         (case aL => have := LMc45.out; omega)
         intro v338 w63 ho hb hg hat
         rw [← Ny337.out] at ho
         have n0_ := (bgA_ BK321 hg (Kd.R_ne HO336.out BK321.out (by decide))); have n1_ := (bgA_ BK322 hg (Kd.R_ne HO336.out BK322.out (by decide))); have n2_ := Aside0.mk (Kd.R_over' (kR_ HO328.out) (Kd.R_typed (kR_ HO336.out)) (by decide) hg); have n3_ := Aside0.mk (Kd.S_after (ok := (fun _ => True)) (kS_ HO331.out) hg hat); have n4_ := (bgA_ BK332 hg (Kd.R_ne HO336.out BK332.out (by decide))); have n5_ := Aside0.mk (hb); have n6_ := Aside0.mk (ho); clear BK321 BK322 HO328 HO331 BK332 HB HO336; have BK321 := n0_; have BK322 := n1_; have HO328 := n2_; have HO331 := n3_; have BK332 := n4_; have HB := n5_; have HO339 := n6_; clear n0_ n1_ n2_ n3_ n4_ n5_ n6_ ho hb hg hat
         obtain ⟨Ao64, co64, eo64⟩ := Kd.R_slice HO339.out
         (first | subst eo64 | (injection eo64 with f1_ f2_ f3_; have f4_ := f1_.symm; have f5_ := f3_.symm; clear f1_ f2_ f3_; subst f4_; subst f5_))
         refine hK.out _ _ (cz2 BK332.out) (fun hHeld => ?_)
         clear hK K; refine nm_ 46 ?_; refine pu_ (i := 6) (N := some 47) HT_ ?_
         refine on_ (i := 7) (N := some 48) HT_ (fun K hK => ?_)
         refine value_ (w1 := ?_) (v := ?_) (by rfl) rfl ?_ ?_
         rotate_left 2
         ·go_simp
          constructor
          ·rfl
          ·rfl
         refine hK.out _ _ ⟨(blk_cell (blk_alloc BK332.out _) 0).trans rfl, (blk_cell (blk_alloc BK332.out _) 1).trans rfl⟩ (fun hHeld => ?_)
         clear hK K; refine nm_ 48 ?_
         refine on_ (i := 8) (N := some 49) HT_ (fun K hK => ?_)
         refine Kd.S_append_step k65 (w0 := w) w.heap.size (by rfl) (.tmp 42) (.tmp 48) 30 65 (.agg #[(.int .i64 0), (.slice none 0 0)]) 32 rfl Try.underlying30 info65 rfl (by decide) (by omega) (.slice Ao57 t329.length co57) t329 (⟨a1, y337⟩ : S65) [.int .i64 a1, .slice Ao64 y337.length co64] (fun _ => True) (fun k_ => some k_ = (.slice Ao64 y337.length co64 : Value).ownBlock) rfl rfl ?aP (fun k_ hk_ => ((Kd.R_mono (ok' := fun k_ => ((fun _ => True)) k_ ∧ some k_ ≠ (.slice Ao57 t329.length co57 : Value).ownBlock) (Kd.R_apart' (HO339.out) (Kd.S_typed HO331.out) (by decide)) (fun k_ hk => ⟨trivial, hk.2⟩))).1 k_ hk_.symm) ?aF ?aO ?aB ?aS ?aL ?_
         (case aP => exact k65_mkM _ _ _ (⟨a1, y337⟩ : S65) (Kd.R_mono (Kd.R_tight rfl (Kd.R_mono (ok' := fun k_ => ((fun _ => True)) k_ ∧ some k_ ≠ (.slice Ao57 t329.length co57 : Value).ownBlock) (Kd.R_apart' (HO339.out) (Kd.S_typed HO331.out) (by decide)) (fun k_ hk => ⟨trivial, hk.2⟩))) (fun _ h_ => h_)))
         (case aB => exact (hbA_ HB.out))
         (case aF => exact (fun _ _ => trivial))
         (case aO => exact (by refine kS_ ?_; exact Kd.S_mono HO331.out (fun k_ hk => ⟨trivial, fun e_ => hk.2 e_⟩)))
         (case aS => exact (below_size (hbA_ HB.out)))
         (case aL => have := LMc46.out; omega)
         intro v341 w65 ho hb hg hat
         rw [← Ny340.out] at ho
         have n0_ := (bgA_ BK321 hg (Kd.S_ne HO331.out BK321.out (by decide))); have n1_ := (bgA_ BK322 hg (Kd.S_ne HO331.out BK322.out (by decide))); have n2_ := Aside0.mk (Kd.R_over' (kR_ HO328.out) (Kd.S_typed (kS_ HO331.out)) (by decide) hg); have n3_ := (bgA_ BK332 hg (Kd.S_ne HO331.out BK332.out (by decide))); have n4_ := Aside0.mk (hb); have n5_ := Aside0.mk (ho); clear BK321 BK322 HO328 BK332 HB HO331 HO339; have BK321 := n0_; have BK322 := n1_; have HO328 := n2_; have BK332 := n3_; have HB := n4_; have HO342 := n5_; clear n0_ n1_ n2_ n3_ n4_ n5_ ho hb hg hat
         obtain ⟨Ao66, co66, eo66⟩ := Kd.S_slice HO342.out
         (first | subst eo66 | (injection eo66 with f1_ f2_ f3_; have f4_ := f1_.symm; have f5_ := f3_.symm; clear f1_ f2_ f3_; subst f4_; subst f5_))
         refine hK.out _ _ (cz2 BK332.out) (fun hHeld => ?_)
         clear hK K; refine nm_ 49 ?_; refine pu_ (i := 9) (N := some 50) HT_ ?_
         refine last_ (i := 10) (N := none) #[true, true, true, true, true, true, true, true, true, true, true] rfl rfl (one_of HT_.out (by kernel_rfl)) (by decide) (fun K hK => ?_)
         have hs67 : w65.cell? ⟨gb332, 1, none⟩ = some (.slice Ao57 t329.length co57) := bc_ BK332 1
         have hfs67 := blk_frozen BK332.out 1
         have hns67_0 := NB321_332.out; have hns67_1 := NB322_332.out; have hms67_0 := NB332_321.out; have hms67_1 := NB332_322.out
         refine skip_ (w1 := ?_) (by rfl) rfl ?_ ?_
         rotate_left
         ·go_simp
          rfl
         refine hK.out _ _ ?_
         clear hK K
         refine done_ (done_of HT_.out (by kernel_rfl)) ?_
         obtain ⟨w68, h_w68⟩ : ∃ w_, (w65.setCell ⟨gb332, 1, none⟩ (.slice Ao66 y340.length co66)) = w_ := ⟨_, rfl⟩
         have n0_ : Aside0 (Kd.R k63 63 w68 w.heap.size (fun _ => True) (.slice Ao53 t326.length co53) t326) := ⟨by subst h_w68; refine kR_ ?_; exact Kd.R_mono (Kd.R_f gb332 1 (.slice Ao66 y340.length co66) (Kd.R_types HO328.out BK332.out (by decide))) (fun _ hk => trivial)⟩
         have n1_ : Aside0 (Kd.S k65 65 w68 w.heap.size (fun _ => True) (.slice Ao66 y340.length co66) y340) := ⟨by subst h_w68; refine kS_ ?_; exact Kd.S_mono (Kd.S_far (p := ⟨gb332, 1, none⟩) (Kd.S_types HO342.out BK332.out (by decide)) (fun _ hk => hk.2) (.slice Ao66 y340.length co66)) (fun _ hk => trivial)⟩
         have n2_ : Aside0 (w68.heap[gb321]? = some (.cells #[.slice A0_0 l0_0.length c0_0, .slice A0_1 l0_1.length c0_1] 32 (0, 0))) := ⟨by subst h_w68; exact kf_ BK321.out⟩
         have n3_ : Aside0 (w68.heap[gb322]? = some (.cells #[.slice none 0 0, .slice none 0 0] 32 (0, 0))) := ⟨by subst h_w68; exact kf_ BK322.out⟩
         have n4_ : Aside0 (w68.heap[gb332]? = some (.cells #[.slice Ao53 t326.length co53, .slice Ao66 y340.length co66] 32 (0, 0))) := ⟨by subst h_w68; refine kb_ ?_; refine blk_put (cs := #[.slice Ao53 t326.length co53, .slice Ao57 t329.length co57]) ?_ 1 _ rfl; refine kb_ ?_; exact BK332.out⟩
         have n5_ : Aside0 (Below w.heap.size w w68) := ⟨by subst h_w68; exact hbA_ HB.out⟩
         (try clear HO328); (try clear HO342); (try clear BK321); (try clear BK322); (try clear BK332); (try clear HB)
         (try rw [h_w68]); clear h_w68
         have HO328 := n0_; have HO342 := n1_; have BK321 := n2_; have BK322 := n3_; have BK332 := n4_; have HB := n5_; clear n0_ n1_ n2_ n3_ n4_ n5_; have Z69 := zz2 BK332
         have q70 : (1 : Int) ≤ ((y340.length : Int) : Int) := of_decide_eq_true (by first | (with_reducible assumption) | assumption)
         obtain ⟨i070, hi070, _, hsz70, _⟩ := info_parts info65
         have hcut70 := cut_from (P := Try.prog) 30 65 .i64 Try.underlying30 hi070 2 hsz70 Ao66 y340.length co66 1 (by omega) q70
         have hr70 := Kd.Q_drop (k := (1 : Int).toNat) (Kd.Q_of_R (Kd.S_R HO342.out)) (by omega)
         obtain ⟨A70, hA70⟩ : ∃ A1, A1 = (if co66 = (1 : Int).toNat then Ao66 else (Ao66 : Option Addr).map (·.add ((1 : Int).toNat * 2))) := ⟨_, rfl⟩
         obtain ⟨c70, hc70⟩ : ∃ c1, c1 = co66 - (1 : Int).toNat := ⟨_, rfl⟩
         have hy70 : y343.length = y340.length - (1 : Int).toNat := (by rw [Ny343.out, List.length_drop])
         rw [← Ny343.out] at hr70
         rw [← hy70, ← hA70, ← hc70] at hcut70
         replace hr70 : Kd.Q k65 65 w68 w.heap.size (fun _ => True) (.slice A70 y343.length c70) y343 := (by rw [hA70, hc70, hy70]; exact hr70)
         have HE70 : Aside0 ((Value.slice A70 y343.length c70).ownBlock = (.slice Ao66 y340.length co66 : Value).ownBlock) := ⟨by rw [hA70]; split <;> (cases (Ao66 : Option Addr) <;> first | rfl | simp [Value.ownBlock, add_block])⟩
         clear hy70 hi070 hsz70 HO342 hA70 hc70; have HO345 := Aside0.mk hr70; clear hr70
         replace q70 := eq_true q70
         have Z71 := zz2 BK322
         try go_wp2
         refine bodyPost_ret (results_ct rfl _ _ gb322 32 #[.slice Ao53 t326.length co53, .slice A70 y343.length c70] (0, 0) _ rfl (by refine kb_ ?_; refine pz2 (cs := #[.slice none 0 0, .slice none 0 0]) ?_; exact kf_ BK322.out) Try.underlying32 rfl (by kernel_rfl)) rfl ?_
         exact ⟨_, _, by first | rfl | (simp [errW_none, errW_some] <;> rfl) | (simp [*, errW_none, errW_some] <;> rfl), by refine kR_ ?_; exact rfm_ ((Kd.R_far (p := ⟨gb332, 1, none⟩) (Kd.R_types (Kd.R_types HO328.out BK332.out (by decide)) BK322.out (by decide)) (fun _ hk => hk.1.2) (.slice A70 y343.length c70))) (fun _ hk => trivial), by (with_reducible repeat (first | apply Kd.Q_alloc | apply Kd.Q_drewN | apply Kd.Q_drew)); exact Kd.Q_mono (Kd.Q_far (p := ⟨gb322, 1, none⟩) (Kd.Q_far (p := ⟨gb322, 0, none⟩) (Kd.Q_far (p := ⟨gb332, 1, none⟩) (Kd.Q_types (Kd.Q_types HO345.out BK332.out (by decide)) BK322.out (by decide)) (fun _ hk => hk.1.2) (.slice A70 y343.length c70)) (fun _ hk => hk.2) (.slice Ao53 t326.length co53)) (fun _ hk => hk.2) (.slice A70 y343.length c70)) (fun _ hk => trivial), hbA_ HB.out⟩
        ·rw [if_neg c48] at H
         exact absurd H (by simp)
       ·rw [if_neg c47] at H
        have c47b0 : decide (4 < (y340.length : Int)) = false := decide_eq_false c47
        have c47b1 : decide (4 < y340.length) = false := decide_eq_false (by omega)
        clear c47
        simp only [Option.some.injEq, Prod.mk.injEq] at H
        obtain ⟨rfl, rfl, rfl⟩ := H
        have hnb72 := NB321_322.out; have hnc72 := NB322_321.out; have Z73 := zz2 BK321
        try go_wp2_with (first | ((with_reducible refine gate_callee (f := 34) rfl ?_); refine goesL_ (some 32) rfl rfl Try.func34 (by kernel_rfl) rfl #[.agg #[.slice A0_0 l0_0.length c0_0, .slice A0_1 l0_1.length c0_1]] rfl ar_ ?_; (with_reducible refine (spec_l3Copy.calls kj4 _ _ l0_0 _ _ l0_1 t326 t329 _ ?side1 ?side2 ?side3 ?side4 A29.out).mono ?_); (case side1 => exact kC_ (Kd.C_below HR0_0.out HB.out)); (case side2 => exact HC0_0.out); (case side3 => exact kC_ (Kd.C_below HR0_1.out HB.out)); (case side4 => exact HC0_1.out); rintro e w74 ⟨v327, v330, rfl, ho0, ho1, hb⟩; refine ⟨_, rfl, ?_⟩; have HO328 := Aside0.mk (Kd.R_lower ho0 (below_size (hbA_ HB.out))); have HO331 := Aside0.mk (Kd.S_lower ho1 (below_size (hbA_ HB.out))); replace BK321 := (bbA_ BK321 hb); replace BK322 := (bbA_ BK322 hb); replace HB := (bs_ HB hb); (try clear hb); (try clear hb2); (try clear hk); (try clear hi); (try clear ho0); (try clear ho1)) | ((with_reducible refine gate_dst (N := 10) rfl ?_); (try (refine gate_guard (by rfl) ?_; dsimp only)); refine box_ (N := 10) (cs := #[.slice none 0 0, .slice none 0 0]) (t := 32) (fun gb332 hg w75 hbox hb => ?_); replace HO328 := Aside0.mk (Kd.R_below (kR_ HO328.out) hb); replace HO331 := Aside0.mk (Kd.S_below (kS_ HO331.out) hb); have BK332 := Aside0.mk (hbox); have GW332 := ge_ hg HB; have GE332 := ge_ hg HB; replace HB := (bs_ HB hb); have NB321_332 := nl_ hg BK321; have NB332_321 := ng_ hg BK321; replace BK321 := (bbA_ BK321 hb); have NB322_332 := nl_ hg BK322; have NB332_322 := ng_ hg BK322; replace BK322 := (bbA_ BK322 hb); clear hb hbox hg; obtain ⟨Ao76, co76, eo76⟩ := Kd.R_slice HO328.out; subst eo76; have hnb77 := NB332_321.out; have hnc77 := NB321_332.out; have hnb78 := NB332_322.out; have hnc78 := NB322_332.out; have Z79 := zz2 BK332; obtain ⟨Ao80, co80, eo80⟩ := Kd.S_slice HO331.out; subst eo80; have Z81 := zz2 BK321) | ((with_reducible refine gate_callee (f := 26) rfl ?_); refine goesL_ (some 36) rfl rfl Try.func26 (by kernel_rfl) rfl #[.agg #[.slice A0_0 l0_0.length c0_0, .slice A0_1 l0_1.length c0_1], .int .i64 a1, .int .i64 a3] rfl ar_ ?_; (with_reducible refine (spec_NearFind.calls kj4 _ _ l0_0 _ _ l0_1 a1 a3 t333 _ ?side1 ?side2 ?side3 ?side4 A30.out).mono ?_); (case side1 => exact Kd.C_below HR0_0.out (hbA_ HB.out)); (case side2 => exact HC0_0.out); (case side3 => exact Kd.C_below HR0_1.out (hbA_ HB.out)); (case side4 => exact HC0_1.out); rintro e w82 ⟨rfl, hb⟩; refine ⟨_, rfl, ?_⟩; replace HO328 := Aside0.mk (Kd.R_below (by refine kR_ ?_; exact (rfm_ ((Kd.R_types HO328.out BK332.out (by decide))) (fun _ h_ => op1_ h_))) hb); replace HO331 := Aside0.mk (Kd.S_below (by refine kS_ ?_; exact (Kd.S_mono (Kd.S_far (p := ⟨gb332, 1, none⟩) (Kd.S_far (p := ⟨gb332, 0, none⟩) (Kd.S_types HO331.out BK332.out (by decide)) (fun _ hk => hk.2) (.slice Ao76 t326.length co76)) (fun _ hk => hk.2) (.slice Ao80 t329.length co80)) (fun _ h_ => op1_ h_))) hb); replace BK321 := Aside0.mk (blk_below (g := gb321) (o := .cells #[.slice A0_0 l0_0.length c0_0, .slice A0_1 l0_1.length c0_1] 32 (0, 0)) (by exact kf_ BK321.out) hb); replace BK322 := Aside0.mk (blk_below (g := gb322) (o := .cells #[.slice none 0 0, .slice none 0 0] 32 (0, 0)) (by exact kf_ BK322.out) hb); replace BK332 := Aside0.mk (blk_below (g := gb332) (o := .cells #[.slice Ao76 t326.length co76, .slice Ao80 t329.length co80] 32 (0, 0)) (by refine kb_ ?_; refine pz2 (cs := #[.slice none 0 0, .slice none 0 0]) ?_; refine kb_ ?_; exact BK332.out) hb); replace HB := (bs_ HB hb); (try clear hb); (try clear hb2); (try clear hk); (try clear hi)))
        replace HO328 := Aside0.mk (Kd.R_drew HO328.out); replace HO331 := Aside0.mk (Kd.S_drew HO331.out); replace BK321 := Aside0.mk (blk_drew BK321.out); replace BK322 := Aside0.mk (blk_drew BK322.out); replace BK332 := Aside0.mk (blk_drew BK332.out); replace HB := (bd_ HB)
        refine start_ (n := 11) (S := fun w' => w'.cell? ⟨gb332, 0, none⟩ = some (.slice Ao76 t326.length co76) ∧ w'.cell? ⟨gb332, 1, none⟩ = some (.slice Ao80 t329.length co80)) (ds := [10]) #[false, false, false, false, false, false, false, false, false, false, false] (by kernel_rfl) rfl rfl (cz2 BK332.out) (fun hHeld => ?_); refine with_tabW spec_NearSend.tab7 spec_NearSend.bits7 (fun HT_ HW_ => ?_)
        generalize w82.drew = w83 at HO328 HO331 BK321 BK322 BK332 HB hHeld ⊢
        refine pu_ (i := 0) (N := some 41) HT_ ?_; refine pu_ (i := 2) (N := some 43) HT_ ?_; refine pu_ (i := 4) (N := some 45) HT_ ?_; refine tk_ (i := 1) (N := some 42) HT_ HW_ hHeld ?_
        refine on_ (i := 3) (N := some 44) HT_ (fun K hK => ?_)
        refine Kd.R_lit_step (Kd.int .u8) _ 5 ?hg (N := 44) ?hd (xs := ([] : List Int)) (inner := []) (ok := fun _ => True) (okp := fun _ => True) ?hr ?hp (fun _ hk => hk) trivial (Below.refl _ _) (Nat.le_refl _) (by simp) ?_; (case hd => rfl); (case hg => rfl); (case hr => first | (go_simp; done) | (go_simp; rfl)); (case hp => exact (Reps.none _ _))
        intro v335 w84 ho85 hb hg_ hnew_
        clear hg_ hnew_
        (first | rw [← Ny334.out] at ho85 | (simp only [Int.reduceToNat] at ho85; rw [← Ny334.out] at ho85))
        have n0_ := Aside0.mk (Kd.R_below (kR_ HO328.out) hb); have n1_ := Aside0.mk (Kd.S_elder' (kS_ HO331.out) (Kd.R_base ho85) hb); have n2_ := Aside0.mk (Kd.R_lower ho85 (below_size (hbA_ HB.out))); have n3_ := (bbA_ BK321 hb); have n4_ := (bbA_ BK322 hb); have n5_ := (bbA_ BK332 hb); have n6_ := (bs_ HB hb); clear HO328 HO331 BK321 BK322 BK332 HB; have HO328 := n0_; have HO331 := n1_; have HO336 := n2_; have BK321 := n3_; have BK322 := n4_; have BK332 := n5_; have HB := n6_; clear n0_ n1_ n2_ n3_ n4_ n5_ n6_ hb ho85
        refine hK.out _ _ (cz2 BK332.out) (fun hHeld => ?_)
        clear hK K; refine nm_ 44 ?_
        refine on_ (i := 5) (N := some 46) HT_ (fun K hK => ?_)
        refine Kd.R_append_rows_step (Kd.int .u8) (w0 := w) w.heap.size (by rfl) (.tmp 44) (.tmp 45) 44 5 (.int .u8 0) 1 rfl Try.underlying44 info5 rfl (by decide) (by omega) v335 y334 l2 _ _ _ (fun _ => True) (fun _ => False) rfl rfl ?aO ?aR (fun _ _ h => h) (fun _ h => h.elim) ?aF ?aB ?aS ?aL ?_
        (case aR => exact kC_ (Kd.C_below HR2.out HB.out))
        (case aB => exact (hbA_ HB.out))
        (case aF => exact (fun _ _ => trivial))
        (case aO => exact (kR_ HO336.out))
        (case aS => exact (below_size (hbA_ HB.out)))
        (case aL => have := LMc45.out; omega)
        intro v338 w86 ho hb hg hat
        rw [← Ny337.out] at ho
        have n0_ := (bgA_ BK321 hg (Kd.R_ne HO336.out BK321.out (by decide))); have n1_ := (bgA_ BK322 hg (Kd.R_ne HO336.out BK322.out (by decide))); have n2_ := Aside0.mk (Kd.R_over' (kR_ HO328.out) (Kd.R_typed (kR_ HO336.out)) (by decide) hg); have n3_ := Aside0.mk (Kd.S_after (ok := (fun _ => True)) (kS_ HO331.out) hg hat); have n4_ := (bgA_ BK332 hg (Kd.R_ne HO336.out BK332.out (by decide))); have n5_ := Aside0.mk (hb); have n6_ := Aside0.mk (ho); clear BK321 BK322 HO328 HO331 BK332 HB HO336; have BK321 := n0_; have BK322 := n1_; have HO328 := n2_; have HO331 := n3_; have BK332 := n4_; have HB := n5_; have HO339 := n6_; clear n0_ n1_ n2_ n3_ n4_ n5_ n6_ ho hb hg hat
        obtain ⟨Ao87, co87, eo87⟩ := Kd.R_slice HO339.out
        (first | subst eo87 | (injection eo87 with f1_ f2_ f3_; have f4_ := f1_.symm; have f5_ := f3_.symm; clear f1_ f2_ f3_; subst f4_; subst f5_))
        refine hK.out _ _ (cz2 BK332.out) (fun hHeld => ?_)
        clear hK K; refine nm_ 46 ?_; refine pu_ (i := 6) (N := some 47) HT_ ?_
        refine on_ (i := 7) (N := some 48) HT_ (fun K hK => ?_)
        refine value_ (w1 := ?_) (v := ?_) (by rfl) rfl ?_ ?_
        rotate_left 2
        ·go_simp
         constructor
         ·rfl
         ·rfl
        refine hK.out _ _ ⟨(blk_cell (blk_alloc BK332.out _) 0).trans rfl, (blk_cell (blk_alloc BK332.out _) 1).trans rfl⟩ (fun hHeld => ?_)
        clear hK K; refine nm_ 48 ?_
        refine on_ (i := 8) (N := some 49) HT_ (fun K hK => ?_)
        refine Kd.S_append_step k65 (w0 := w) w.heap.size (by rfl) (.tmp 42) (.tmp 48) 30 65 (.agg #[(.int .i64 0), (.slice none 0 0)]) 32 rfl Try.underlying30 info65 rfl (by decide) (by omega) (.slice Ao80 t329.length co80) t329 (⟨a1, y337⟩ : S65) [.int .i64 a1, .slice Ao87 y337.length co87] (fun _ => True) (fun k_ => some k_ = (.slice Ao87 y337.length co87 : Value).ownBlock) rfl rfl ?aP (fun k_ hk_ => ((Kd.R_mono (ok' := fun k_ => ((fun _ => True)) k_ ∧ some k_ ≠ (.slice Ao80 t329.length co80 : Value).ownBlock) (Kd.R_apart' (HO339.out) (Kd.S_typed HO331.out) (by decide)) (fun k_ hk => ⟨trivial, hk.2⟩))).1 k_ hk_.symm) ?aF ?aO ?aB ?aS ?aL ?_
        (case aP => exact k65_mkM _ _ _ (⟨a1, y337⟩ : S65) (Kd.R_mono (Kd.R_tight rfl (Kd.R_mono (ok' := fun k_ => ((fun _ => True)) k_ ∧ some k_ ≠ (.slice Ao80 t329.length co80 : Value).ownBlock) (Kd.R_apart' (HO339.out) (Kd.S_typed HO331.out) (by decide)) (fun k_ hk => ⟨trivial, hk.2⟩))) (fun _ h_ => h_)))
        (case aB => exact (hbA_ HB.out))
        (case aF => exact (fun _ _ => trivial))
        (case aO => exact (by refine kS_ ?_; exact Kd.S_mono HO331.out (fun k_ hk => ⟨trivial, fun e_ => hk.2 e_⟩)))
        (case aS => exact (below_size (hbA_ HB.out)))
        (case aL => have := LMc46.out; omega)
        intro v341 w88 ho hb hg hat
        rw [← Ny340.out] at ho
        have n0_ := (bgA_ BK321 hg (Kd.S_ne HO331.out BK321.out (by decide))); have n1_ := (bgA_ BK322 hg (Kd.S_ne HO331.out BK322.out (by decide))); have n2_ := Aside0.mk (Kd.R_over' (kR_ HO328.out) (Kd.S_typed (kS_ HO331.out)) (by decide) hg); have n3_ := (bgA_ BK332 hg (Kd.S_ne HO331.out BK332.out (by decide))); have n4_ := Aside0.mk (hb); have n5_ := Aside0.mk (ho); clear BK321 BK322 HO328 BK332 HB HO331 HO339; have BK321 := n0_; have BK322 := n1_; have HO328 := n2_; have BK332 := n3_; have HB := n4_; have HO342 := n5_; clear n0_ n1_ n2_ n3_ n4_ n5_ ho hb hg hat
        obtain ⟨Ao89, co89, eo89⟩ := Kd.S_slice HO342.out
        (first | subst eo89 | (injection eo89 with f1_ f2_ f3_; have f4_ := f1_.symm; have f5_ := f3_.symm; clear f1_ f2_ f3_; subst f4_; subst f5_))
        refine hK.out _ _ (cz2 BK332.out) (fun hHeld => ?_)
        clear hK K; refine nm_ 49 ?_; refine pu_ (i := 9) (N := some 50) HT_ ?_
        refine last_ (i := 10) (N := none) #[true, true, true, true, true, true, true, true, true, true, true] rfl rfl (one_of HT_.out (by kernel_rfl)) (by decide) (fun K hK => ?_)
        have hs90 : w88.cell? ⟨gb332, 1, none⟩ = some (.slice Ao80 t329.length co80) := bc_ BK332 1
        have hfs90 := blk_frozen BK332.out 1
        have hns90_0 := NB321_332.out; have hns90_1 := NB322_332.out; have hms90_0 := NB332_321.out; have hms90_1 := NB332_322.out
        refine skip_ (w1 := ?_) (by rfl) rfl ?_ ?_
        rotate_left
        ·go_simp
         rfl
        refine hK.out _ _ ?_
        clear hK K
        refine done_ (done_of HT_.out (by kernel_rfl)) ?_
        have Z91 := zz2 BK332; have Z92 := zz2 BK322
        try go_wp2
        refine bodyPost_ret (results_ct rfl _ _ gb322 32 #[.slice Ao76 t326.length co76, .slice Ao89 y340.length co89] (0, 0) _ rfl (by refine kb_ ?_; refine pz2 (cs := #[.slice none 0 0, .slice none 0 0]) ?_; exact kf_ BK322.out) Try.underlying32 rfl (by kernel_rfl)) rfl ?_
        exact ⟨_, _, by first | rfl | (simp [errW_none, errW_some] <;> rfl) | (simp [*, errW_none, errW_some] <;> rfl), by refine kR_ ?_; exact rfm_ ((Kd.R_far (p := ⟨gb332, 1, none⟩) (Kd.R_types (Kd.R_types HO328.out BK332.out (by decide)) BK322.out (by decide)) (fun _ hk => hk.1.2) (.slice Ao89 y340.length co89))) (fun _ hk => trivial), Kd.Q_of_R ((Kd.S_R (by refine kS_ ?_; exact Kd.S_mono (Kd.S_far (p := ⟨gb322, 1, none⟩) (Kd.S_far (p := ⟨gb322, 0, none⟩) (Kd.S_far (p := ⟨gb332, 1, none⟩) (Kd.S_types (Kd.S_types HO342.out BK332.out (by decide)) BK322.out (by decide)) (fun _ hk => hk.1.2) (.slice Ao89 y340.length co89)) (fun _ hk => hk.2) (.slice Ao76 t326.length co76)) (fun _ hk => hk.2) (.slice Ao89 y340.length co89)) (fun _ hk => trivial)))), hbA_ HB.out⟩
      ·rw [if_neg c46] at H
       exact absurd H (by simp)
     ·rw [if_neg c45] at H
      exact absurd H (by simp)
end Go.Proofs.Ytdoohdbfpnmndaa.PFnNearHear
