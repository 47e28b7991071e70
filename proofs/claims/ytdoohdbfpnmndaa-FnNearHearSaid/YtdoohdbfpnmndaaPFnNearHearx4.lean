/- Printed by wip/xp/xprint.sh out of the translation, for this claim: what each function answers, as a plain function, and that the machine does just that. No condition. -/
import Derived.Test.YtdoohdbfpnmndaaPFnNearHearx0
import Derived.Test.YtdoohdbfpnmndaaPFnNearHearx3
namespace Go.Proofs.Ytdoohdbfpnmndaa.PFnNearHear
open Go.RowKit Go.Proofs.YtdoohdbfpnmndaaW.PrintWords Go.Proofs.YtdoohdbfpnmndaaW.PrintLast Go.Proofs.YtdoohdbfpnmndaaW.PrintMore
attribute [local go_sem] max2_int min2_int max_two min_two max_three min_three max_four min_four   -- for this text's walks alone
set_option linter.unusedVariables false
set_option linter.unusedSimpArgs false
mutual
def impl_NearOk.l0 : Nat → List (S63) → Int → Int → List (S63) → List (S65) → Option (Bool)
 | 0, _, _, _, _, _ => none
 | k + 1, x6, x7, x8, x197000, x197001 => if x8 < x7 then (if 0 ≤ x8 then (if x8 < (x6.length : Int) then ((impl_word.f ((rd_T63 x6 x8).f0)).bind fun t200 => (if t200 = true then ((impl_in.f ((rd_T63 x6 x8).f1) 0 254).bind fun t201 => (if t201 = true then ((impl_in.f ((rd_T63 x6 x8).f2) 0 1000000).bind fun t202 => (if t202 = true then ((impl_Near_at.f x197000 x197001 ((rd_T63 x6 x8).f0)).bind fun t203 => (impl_NearOk.j1 k x6 x7 x8 (decide (t203 < x8)) x197000 x197001)) else (impl_NearOk.j1 k x6 x7 x8 true x197000 x197001))) else (impl_NearOk.j1 k x6 x7 x8 true x197000 x197001))) else (impl_NearOk.j1 k x6 x7 x8 true x197000 x197001))) else (none)) else (none)) else (if (x197000.length : Int) ≤ 4 then (if (x197001.length : Int) ≤ 4 then ((impl_NearHeld_40.f k x197001).bind fun t197 => (some (!t197))) else (some false)) else (some false))
def impl_NearOk.j1 : Nat → List (S63) → Int → Int → Bool → List (S63) → List (S65) → Option (Bool)
 | 0, _, _, _, _, _, _ => none
 | k + 1, x6, x7, x8, x36, x197000, x197001 => if x36 = true then (some false) else (impl_NearOk.l0 k x6 x7 (wrap64 (x8 + 1)) x197000 x197001)
end
def impl_NearOk.f (k : Nat) (l0_0 : List (S63)) (l0_1 : List (S65)) : Option (Bool) := impl_NearOk.l0 k l0_0 (l0_0.length : Int) 0 l0_0 l0_1
theorem impl_NearOk.mono_l : ∀ k, (∀ y0 y1 y2 y3 y4, LeO (impl_NearOk.l0 k y0 y1 y2 y3 y4) (impl_NearOk.l0 (k + 1) y0 y1 y2 y3 y4)) ∧ (∀ y0 y1 y2 y3 y4 y5, LeO (impl_NearOk.j1 k y0 y1 y2 y3 y4 y5) (impl_NearOk.j1 (k + 1) y0 y1 y2 y3 y4 y5))
 | 0 => ⟨fun _ _ _ _ _ r h => by simp [impl_NearOk.l0] at h, fun _ _ _ _ _ _ r h => by simp [impl_NearOk.j1] at h⟩
 | k + 1 => by
  obtain ⟨ih0, ih1⟩ := impl_NearOk.mono_l k
  refine ⟨?_, ?_⟩
  ·intro y0 y1 y2 y3 y4
   unfold impl_NearOk.l0
   repeat' first | (with_reducible first | apply ih0 | apply ih1 | apply impl_NearHeld_40.mono | exact LeO.refl _ | exact LeO.none _ | refine LeO.ite ?_ ?_ | refine LeO.bind ?_ fun _ => ?_) | apply ih0 | apply ih1 | apply impl_NearHeld_40.mono | exact LeO.none _ | refine LeO.ite ?_ ?_ | refine LeO.bind ?_ fun _ => ?_
  ·intro y0 y1 y2 y3 y4 y5
   unfold impl_NearOk.j1
   repeat' first | (with_reducible first | apply ih0 | apply ih1 | apply impl_NearHeld_40.mono | exact LeO.refl _ | exact LeO.none _ | refine LeO.ite ?_ ?_ | refine LeO.bind ?_ fun _ => ?_) | apply ih0 | apply ih1 | apply impl_NearHeld_40.mono | exact LeO.none _ | refine LeO.ite ?_ ?_ | refine LeO.bind ?_ fun _ => ?_
theorem impl_NearOk.mono : ∀ a0 a1 k, LeO (impl_NearOk.f k a0 a1) (impl_NearOk.f (k + 1) a0 a1) := by
 intro a0 a1 k
 obtain ⟨ih0, ih1⟩ := impl_NearOk.mono_l k
 unfold impl_NearOk.f
 repeat' first | (with_reducible first | apply ih0 | apply ih1 | apply impl_NearHeld_40.mono | exact LeO.refl _ | exact LeO.none _ | refine LeO.ite ?_ ?_ | refine LeO.bind ?_ fun _ => ?_) | apply ih0 | apply ih1 | apply impl_NearHeld_40.mono | exact LeO.none _ | refine LeO.ite ?_ ?_ | refine LeO.bind ?_ fun _ => ?_
set_option maxHeartbeats 8000000 in
set_option maxRecDepth 100000 in
theorem impl_NearOk.calls (k : Nat) (A0_0 : Option Addr) (c0_0 : Nat) (l0_0 : List (S63)) (A0_1 : Option Addr) (c0_1 : Nat) (l0_1 : List (S65)) (r : Bool) (w : World) (hr0_0 : Kd.C k63 w A0_0 l0_0.length l0_0) (hc0_0 : l0_0.length ≤ c0_0) (hr0_1 : Kd.C k65 w A0_1 l0_1.length l0_1) (hc0_1 : l0_1.length ≤ c0_1) (h : impl_NearOk.f k l0_0 l0_1 = some r) :
  Calls Try.prog 20 #[.agg #[.slice A0_0 l0_0.length c0_0, .slice A0_1 l0_1.length c0_1]] w fun e w' => e = .returned (.bool r) ∧ Below w.heap.size w w' := by
 have hu32 := Try.underlying32; have hu63 := Try.underlying63; have HR0_0 := Aside0.mk hr0_0; have HC0_0 := Aside0.mk hc0_0; clear hr0_0 hc0_0; have HR0_1 := Aside0.mk hr0_1; have HC0_1 := Aside0.mk hc0_1; clear hr0_1 hc0_1
 have HB := Aside0.mk (Below.refl w.heap.size w)
 have H : (impl_NearOk.l0 k l0_0 (l0_0.length : Int) 0 l0_0 l0_1) = some r := h
 clear h
 have H' := Aside0.mk H
 clear H
 go_enter Try.func20, Try.ntmps20
 go_wp2_with (first | ((with_reducible refine gate_dst (N := 1) rfl ?_); (try (refine gate_guard (by rfl) ?_; dsimp only)); refine box_ (N := 1) (cs := #[.slice A0_0 l0_0.length c0_0, .slice A0_1 l0_1.length c0_1]) (t := 32) (fun gb196 hg w2 hbox hb => ?_); have BK196 := Aside0.mk (hbox); have GW196 := ge_ hg HB; have GE196 := ge_ hg HB; replace HB := (bs_ HB hb); clear hb hbox hg; have Z3 := zz2 BK196))
 go_loopg [8] k (fun kq v8 w' => ∃ (x8_1 : Int), v8 = .int .i64 x8_1 ∧ Aside0 (impl_NearOk.l0 kq l0_0 (l0_0.length : Int) x8_1 l0_0 l0_1 = some r) ∧ Aside0 (kq ≤ k) ∧ Aside0 (w'.heap[gb196]? = some (.cells #[(.slice A0_0 l0_0.length c0_0), (.slice A0_1 l0_1.length c0_1)] 32 (0, 0))) ∧ Aside0 (Below w.heap.size w w'))
 case atStart => exact ⟨(0), (by first | rfl | (simp; done) | (simp [*]; done)), H', ⟨Nat.le_refl _⟩, ⟨by refine kb_ ?_; exact BK196.out⟩, ⟨hbA_ HB.out⟩⟩
 case round =>
  clear H'; (try clear c2); (try clear p2); (try clear Z3)
  obtain ⟨x8_1, rfl, HA, HK1, BK196, HB⟩ := hrel
  cases gk with
  | zero => exact absurd HA.out (by simp [impl_NearOk.l0])
  | succ k1 =>
   have H := HA.out; clear HA
   simp only [impl_NearOk.l0] at H
   by_cases c4 : x8_1 < (l0_0.length : Int)
   ·rw [if_pos c4] at H
    have c4b0 : decide (x8_1 < (l0_0.length : Int)) = true := decide_eq_true c4
    clear c4
    by_cases c5 : 0 ≤ x8_1
    ·rw [if_pos c5] at H
     have c5b0 : decide (0 ≤ x8_1) = true := decide_eq_true c5
     clear c5
     by_cases c6 : x8_1 < (l0_0.length : Int)
     ·rw [if_pos c6] at H
      have c6b0 : decide (x8_1 < (l0_0.length : Int)) = true := decide_eq_true c6
      clear c6; have HC7 := Aside0.mk H; clear H
      have p198 : 0 ≤ (x8_1 : Int) := of_decide_eq_true (by first | (with_reducible assumption) | assumption)
      have q198 : x8_1 < (l0_0.length : Int) := of_decide_eq_true (by first | (with_reducible assumption) | assumption)
      obtain ⟨ad198, e198, hx198_0, hx198_1, hx198_2⟩ := at_T63 HR0_0.out x8_1 p198 q198
      cases e198
      replace hx198_0 := cc_ HB hx198_0
      replace hx198_1 := cc_ HB hx198_1
      replace hx198_2 := cc_ HB hx198_2
      replace p198 := eq_true p198
      replace q198 := eq_true q198
      go_upto_region 4 with (first | ((with_reducible refine gate_dst (N := 4) rfl ?_); (try (refine gate_guard (by rfl) ?_; dsimp only)); refine box_ (N := 4) (cs := #[.int .i64 0, .int .i64 0, .int .i64 0]) (t := 63) (fun gb199 hg w8 hbox hb => ?_); have BK199 := Aside0.mk (hbox); have GW199 := ge_ hg HB; have GE199 := ge_ hg HB; replace HB := (bs_ HB hb); have NB196_199 := nl_ hg BK196; have NB199_196 := ng_ hg BK196; replace BK196 := (bbA_ BK196 hb); clear hb hbox hg; have hnb9 := NB199_196.out; have hnc9 := NB196_199.out; have Z10 := zz3 BK199))
      (try simp only [Act.put, List.setIfInBounds_toArray, List.set_cons_zero, List.set_cons_succ])
      go_cut [36] (fun v36 wc => ∃ (kq : Nat) (x36_6 : Bool), v36 = .bool x36_6 ∧ Aside0 (impl_NearOk.j1 kq l0_0 (l0_0.length : Int) x8_1 x36_6 l0_0 l0_1 = some r) ∧ Aside0 (kq ≤ k1) ∧ Aside0 (wc.heap[gb196]? = some (.cells #[(.slice (some ad198) l0_0.length c0_0), (.slice A0_1 l0_1.length c0_1)] 32 (0, 0))) ∧ Aside0 (wc.heap[gb199]? = some (.cells #[.int .i64 ((rd_T63 l0_0 x8_1).f0), .int .i64 ((rd_T63 l0_0 x8_1).f1), .int .i64 ((rd_T63 l0_0 x8_1).f2)] 63 (0, 0))) ∧ Aside0 (Below w.heap.size w wc))
      case first =>
       have H := HC7.out; clear HC7
       replace H := Option.bind_eq_some_iff.mp H
       obtain ⟨t200, A110, H⟩ := H
       (try dsimp only at H)
       have A11 := Aside0.mk A110; clear A110
       by_cases c12 : t200 = true
       ·subst c12
        rw [if_pos rfl] at H
        replace H := Option.bind_eq_some_iff.mp H
        obtain ⟨t201, A130, H⟩ := H
        (try dsimp only at H)
        have A13 := Aside0.mk A130; clear A130
        by_cases c14 : t201 = true
        ·subst c14
         rw [if_pos rfl] at H
         replace H := Option.bind_eq_some_iff.mp H
         obtain ⟨t202, A150, H⟩ := H
         (try dsimp only at H)
         have A15 := Aside0.mk A150; clear A150
         by_cases c16 : t202 = true
         ·subst c16
          rw [if_pos rfl] at H
          replace H := Option.bind_eq_some_iff.mp H
          obtain ⟨t203, A170, H⟩ := H
          (try dsimp only at H)
          have A17 := Aside0.mk A170; clear A170
          have H' := Aside0.mk H
          clear H; have hnb18 := NB199_196.out; have hnc18 := NB196_199.out; have Z19 := zz3 BK199
          go_wp2_with (first | ((with_reducible refine gate_callee (f := 61) rfl ?_); refine goesL_ (some 15) rfl rfl Try.func61 (by kernel_rfl) rfl #[.int .i64 ((rd_T63 l0_0 x8_1).f0)] rfl ar_ ?_; (with_reducible refine (impl_word.calls ((rd_T63 l0_0 x8_1).f0) true _ A11.out).mono ?_); rintro e w' ⟨rfl, ⟨nd, rfl⟩⟩; refine ⟨_, rfl, ?_⟩) | (go_at_call 37; (with_reducible refine (impl_in.calls ((rd_T63 l0_0 x8_1).f1) 0 254 true _ A13.out).mono ?_); rintro e w' ⟨rfl, ⟨nd, rfl⟩⟩) | (go_at_call 37; (with_reducible refine (impl_in.calls ((rd_T63 l0_0 x8_1).f2) 0 1000000 true _ A15.out).mono ?_); rintro e w' ⟨rfl, ⟨nd, rfl⟩⟩; have Z20 := zz2 BK196) | (go_at_call 39; (with_reducible refine (impl_Near_at.calls _ _ l0_0 _ _ l0_1 ((rd_T63 l0_0 x8_1).f0) t203 _ ?side1 ?side2 ?side3 ?side4 A17.out).mono ?_); (case side1 => exact Kd.C_below HR0_0.out (hbA_ HB.out)); (case side2 => exact HC0_0.out); (case side3 => exact Kd.C_below HR0_1.out (hbA_ HB.out)); (case side4 => exact HC0_1.out); rintro e w21 ⟨rfl, hb⟩; replace BK196 := Aside0.mk (blk_below (g := gb196) (o := .cells #[.slice (some ad198) l0_0.length c0_0, .slice A0_1 l0_1.length c0_1] 32 (0, 0)) (by exact kf_ BK196.out) hb); replace BK199 := Aside0.mk (blk_below (g := gb199) (o := .cells #[.int .i64 ((rd_T63 l0_0 x8_1).f0), .int .i64 ((rd_T63 l0_0 x8_1).f1), .int .i64 ((rd_T63 l0_0 x8_1).f2)] 63 (0, 0)) (by refine kb_ ?_; refine pz3 (cs := #[.int .i64 0, .int .i64 0, .int .i64 0]) ?_; refine kb_ ?_; exact BK199.out) hb); replace HB := (bs_ HB hb); (try clear hb); (try clear hb2); (try clear hk); (try clear hi)))
          go_meet
          case rel => exact ⟨_, (decide (t203 < x8_1)), (by first | rfl | (simp; done) | (simp [*]; done)), H', ⟨by have := HK1.out; first | omega | exact Nat.le_refl _⟩, ⟨by refine kb_ ?_; exact BK196.out⟩, ⟨by refine kb_ ?_; exact BK199.out⟩, ⟨hbA_ HB.out⟩⟩
         ·replace c16 := Bool.eq_false_iff.mpr c16
          subst c16
          rw [if_neg (show ¬ (false = true) by decide)] at H
          have H' := Aside0.mk H
          clear H; have hnb22 := NB199_196.out; have hnc22 := NB196_199.out; have Z23 := zz3 BK199
          go_wp2_with (first | ((with_reducible refine gate_callee (f := 61) rfl ?_); refine goesL_ (some 15) rfl rfl Try.func61 (by kernel_rfl) rfl #[.int .i64 ((rd_T63 l0_0 x8_1).f0)] rfl ar_ ?_; (with_reducible refine (impl_word.calls ((rd_T63 l0_0 x8_1).f0) true _ A11.out).mono ?_); rintro e w' ⟨rfl, ⟨nd, rfl⟩⟩; refine ⟨_, rfl, ?_⟩) | (go_at_call 37; (with_reducible refine (impl_in.calls ((rd_T63 l0_0 x8_1).f1) 0 254 true _ A13.out).mono ?_); rintro e w' ⟨rfl, ⟨nd, rfl⟩⟩) | (go_at_call 37; (with_reducible refine (impl_in.calls ((rd_T63 l0_0 x8_1).f2) 0 1000000 false _ A15.out).mono ?_); rintro e w' ⟨rfl, ⟨nd, rfl⟩⟩))
          go_meet
          case rel => exact ⟨_, (true), (by first | rfl | (simp; done) | (simp [*]; done)), H', ⟨by have := HK1.out; first | omega | exact Nat.le_refl _⟩, ⟨by exact kf_ BK196.out⟩, ⟨by refine kb_ ?_; refine pz3 (cs := #[.int .i64 0, .int .i64 0, .int .i64 0]) ?_; refine kb_ ?_; exact BK199.out⟩, ⟨hbA_ HB.out⟩⟩
        ·replace c14 := Bool.eq_false_iff.mpr c14
         subst c14
         rw [if_neg (show ¬ (false = true) by decide)] at H
         have H' := Aside0.mk H
         clear H; have hnb24 := NB199_196.out; have hnc24 := NB196_199.out; have Z25 := zz3 BK199
         go_wp2_with (first | ((with_reducible refine gate_callee (f := 61) rfl ?_); refine goesL_ (some 15) rfl rfl Try.func61 (by kernel_rfl) rfl #[.int .i64 ((rd_T63 l0_0 x8_1).f0)] rfl ar_ ?_; (with_reducible refine (impl_word.calls ((rd_T63 l0_0 x8_1).f0) true _ A11.out).mono ?_); rintro e w' ⟨rfl, ⟨nd, rfl⟩⟩; refine ⟨_, rfl, ?_⟩) | (go_at_call 37; (with_reducible refine (impl_in.calls ((rd_T63 l0_0 x8_1).f1) 0 254 false _ A13.out).mono ?_); rintro e w' ⟨rfl, ⟨nd, rfl⟩⟩))
         go_meet
         case rel => exact ⟨_, (true), (by first | rfl | (simp; done) | (simp [*]; done)), H', ⟨by have := HK1.out; first | omega | exact Nat.le_refl _⟩, ⟨by exact kf_ BK196.out⟩, ⟨by refine kb_ ?_; refine pz3 (cs := #[.int .i64 0, .int .i64 0, .int .i64 0]) ?_; refine kb_ ?_; exact BK199.out⟩, ⟨hbA_ HB.out⟩⟩
       ·replace c12 := Bool.eq_false_iff.mpr c12
        subst c12
        rw [if_neg (show ¬ (false = true) by decide)] at H
        have H' := Aside0.mk H
        clear H; have hnb26 := NB199_196.out; have hnc26 := NB196_199.out; have Z27 := zz3 BK199
        go_wp2_with (first | ((with_reducible refine gate_callee (f := 61) rfl ?_); refine goesL_ (some 15) rfl rfl Try.func61 (by kernel_rfl) rfl #[.int .i64 ((rd_T63 l0_0 x8_1).f0)] rfl ar_ ?_; (with_reducible refine (impl_word.calls ((rd_T63 l0_0 x8_1).f0) false _ A11.out).mono ?_); rintro e w' ⟨rfl, ⟨nd, rfl⟩⟩; refine ⟨_, rfl, ?_⟩))
        go_meet
        case rel => exact ⟨_, (true), (by first | rfl | (simp; done) | (simp [*]; done)), H', ⟨by have := HK1.out; first | omega | exact Nat.le_refl _⟩, ⟨by exact kf_ BK196.out⟩, ⟨by refine kb_ ?_; refine pz3 (cs := #[.int .i64 0, .int .i64 0, .int .i64 0]) ?_; refine kb_ ?_; exact BK199.out⟩, ⟨hbA_ HB.out⟩⟩
      case rest =>
       clear HC7; (try clear c1); (try clear p1); (try clear q1); (try clear hx1); (try clear c2); (try clear p2); (try clear c4); (try clear c4b0); (try clear c5); (try clear c5b0); (try clear c6); (try clear c6b0); (try clear c9); (try clear c12); (try clear c14); (try clear c16); (try clear c18); (try clear p19); (try clear q19); (try clear hx19); (try clear c20); (try clear c22); (try clear c24); (try clear c26); (try clear Z10); (try clear Z19); (try clear Z20); (try clear Z23); (try clear Z25); (try clear Z27); (try clear Z3); (try clear hx198_0); (try clear hx198_1); (try clear hx198_2); (try clear p198); (try clear p2); (try clear q198)
       obtain ⟨kq, x36_6, rfl, HA, HJ6, BK196, BK199, HB⟩ := hcut
       cases kq with
       | zero => exact absurd HA.out (by simp [impl_NearOk.j1])
       | succ kj6 =>
        have H := HA.out; clear HA
        simp only [impl_NearOk.j1] at H
        by_cases c28 : x36_6 = true
        ·subst c28
         rw [if_pos rfl] at H
         obtain rfl := Option.some.inj H
         go_wp2
         go_ret
         exact ⟨by first | rfl | (simp [errW_none, errW_some] <;> rfl) | (simp [*, errW_none, errW_some] <;> rfl), hbA_ HB.out⟩
        ·replace c28 := Bool.eq_false_iff.mpr c28
         subst c28
         rw [if_neg (show ¬ (false = true) by decide)] at H
         have H' := Aside0.mk H
         clear H
         go_wp2
         go_roundg kj6
         case measure => have := HK1.out; have := HJ6.out; omega
         case rel => exact ⟨(wrap64 (x8_1 + 1)), (by first | rfl | (simp; done) | (simp [*]; done)), H', ⟨by have := HK1.out; have := HJ6.out; omega⟩, ⟨by refine kb_ ?_; exact BK196.out⟩, ⟨hbA_ HB.out⟩⟩
     ·rw [if_neg c6] at H
      exact absurd H (by simp)
    ·rw [if_neg c5] at H
     exact absurd H (by simp)
   ·rw [if_neg c4] at H
    have c4b0 : decide (x8_1 < (l0_0.length : Int)) = false := decide_eq_false c4
    clear c4
    by_cases c29 : (l0_0.length : Int) ≤ 4
    ·rw [if_pos c29] at H
     have c29b0 : decide ((l0_0.length : Int) ≤ 4) = true := decide_eq_true c29
     have c29b1 : decide (l0_0.length ≤ 4) = true := decide_eq_true (by omega)
     clear c29
     by_cases c30 : (l0_1.length : Int) ≤ 4
     ·rw [if_pos c30] at H
      have c30b0 : decide ((l0_1.length : Int) ≤ 4) = true := decide_eq_true c30
      have c30b1 : decide (l0_1.length ≤ 4) = true := decide_eq_true (by omega)
      clear c30
      replace H := Option.bind_eq_some_iff.mp H
      obtain ⟨t197, A310, H⟩ := H
      (try dsimp only at H)
      have A31 := Aside0.mk A310; clear A310
      obtain rfl := Option.some.inj H
      have Z32 := zz2 BK196
      go_wp2_with (first | (go_at_call 40; (with_reducible refine (impl_NearHeld_40.calls k1 _ _ l0_1 t197 _ ?side1 ?side2 A31.out).mono ?_); (case side1 => exact kC_ (Kd.C_below HR0_1.out HB.out)); (case side2 => exact HC0_1.out); rintro e w33 ⟨rfl, hb⟩; replace BK196 := (bbA_ BK196 hb); replace HB := (bs_ HB hb); (try clear hb); (try clear hb2); (try clear hk); (try clear hi)))
      go_ret
      exact ⟨by first | rfl | (simp [errW_none, errW_some] <;> rfl) | (simp [*, errW_none, errW_some] <;> rfl), hbA_ HB.out⟩
     ·rw [if_neg c30] at H
      have c30b0 : decide ((l0_1.length : Int) ≤ 4) = false := decide_eq_false c30
      have c30b1 : decide (l0_1.length ≤ 4) = false := decide_eq_false (by omega)
      clear c30
      obtain rfl := Option.some.inj H
      have Z34 := zz2 BK196
      go_wp2
      go_ret
      exact ⟨by first | rfl | (simp [errW_none, errW_some] <;> rfl) | (simp [*, errW_none, errW_some] <;> rfl), hbA_ HB.out⟩
    ·rw [if_neg c29] at H
     have c29b0 : decide ((l0_0.length : Int) ≤ 4) = false := decide_eq_false c29
     have c29b1 : decide (l0_0.length ≤ 4) = false := decide_eq_false (by omega)
     clear c29
     obtain rfl := Option.some.inj H
     have Z35 := zz2 BK196
     go_wp2
     go_ret
     exact ⟨by first | rfl | (simp [errW_none, errW_some] <;> rfl) | (simp [*, errW_none, errW_some] <;> rfl), hbA_ HB.out⟩
def impl_QueryOk.f (a0_0 : Int) (a0_1 : Int) (a0_2 : Int) (a0_3 : Int) : Option (Bool) := (impl_in.f a0_0 1 2).bind fun t205 => (if t205 = true then ((impl_in.f a0_1 0 254).bind fun t206 => (if t206 = true then ((impl_word.f a0_2).bind fun t207 => (if t207 = true then ((impl_word.f a0_3).bind fun t208 => (some t208)) else (some false))) else (some false))) else (some false))
set_option maxHeartbeats 8000000 in
set_option maxRecDepth 100000 in
theorem impl_QueryOk.calls (a0_0 : Int) (a0_1 : Int) (a0_2 : Int) (a0_3 : Int) (r : Bool) (w : World) (h : impl_QueryOk.f a0_0 a0_1 a0_2 a0_3 = some r) :
  Calls Try.prog 21 #[.agg #[.int .i64 a0_0, .int .i64 a0_1, .int .i64 a0_2, .int .i64 a0_3]] w fun e w' => e = .returned (.bool r) ∧ Below w.heap.size w w' := by
 have hu37 := Try.underlying37
 have HB := Aside0.mk (Below.refl w.heap.size w)
 have H : ((impl_in.f a0_0 1 2).bind fun t205 => (if t205 = true then ((impl_in.f a0_1 0 254).bind fun t206 => (if t206 = true then ((impl_word.f a0_2).bind fun t207 => (if t207 = true then ((impl_word.f a0_3).bind fun t208 => (some t208)) else (some false))) else (some false))) else (some false))) = some r := h
 clear h
 replace H := Option.bind_eq_some_iff.mp H
 obtain ⟨t205, A20, H⟩ := H
 (try dsimp only at H)
 have A2 := Aside0.mk A20; clear A20
 by_cases c3 : t205 = true
 ·subst c3
  rw [if_pos rfl] at H
  replace H := Option.bind_eq_some_iff.mp H
  obtain ⟨t206, A40, H⟩ := H
  (try dsimp only at H)
  have A4 := Aside0.mk A40; clear A40
  by_cases c5 : t206 = true
  ·subst c5
   rw [if_pos rfl] at H
   replace H := Option.bind_eq_some_iff.mp H
   obtain ⟨t207, A60, H⟩ := H
   (try dsimp only at H)
   have A6 := Aside0.mk A60; clear A60
   by_cases c7 : t207 = true
   ·subst c7
    rw [if_pos rfl] at H
    replace H := Option.bind_eq_some_iff.mp H
    obtain ⟨t208, A80, H⟩ := H
    (try dsimp only at H)
    have A8 := Aside0.mk A80; clear A80
    obtain rfl := Option.some.inj H
    go_enter Try.func21, Try.ntmps21
    go_wp2_with (first | ((with_reducible refine gate_dst (N := 1) rfl ?_); refine box_ (N := 1) (cs := #[.int .i64 a0_0, .int .i64 a0_1, .int .i64 a0_2, .int .i64 a0_3]) (t := 37) (fun gb204 hg w9 hbox hb => ?_); have BK204 := Aside0.mk (hbox); have GW204 := ge_ hg HB; have GE204 := ge_ hg HB; replace HB := (bs_ HB hb); clear hb hbox hg; have Z10 := zz4 BK204) | ((with_reducible refine gate_callee (f := 37) rfl ?_); refine goesL_ (some 5) rfl rfl Try.func37 (by kernel_rfl) rfl #[.int .i64 a0_0, .int .i64 1, .int .i64 2] rfl ar_ ?_; (with_reducible refine (impl_in.calls a0_0 1 2 true _ A2.out).mono ?_); rintro e w' ⟨rfl, ⟨nd, rfl⟩⟩; refine ⟨_, rfl, ?_⟩) | (go_at_call 37; (with_reducible refine (impl_in.calls a0_1 0 254 true _ A4.out).mono ?_); rintro e w' ⟨rfl, ⟨nd, rfl⟩⟩) | (go_at_call 61; (with_reducible refine (impl_word.calls a0_2 true _ A6.out).mono ?_); rintro e w' ⟨rfl, ⟨nd, rfl⟩⟩) | (go_at_call 61; (with_reducible refine (impl_word.calls a0_3 t208 _ A8.out).mono ?_); rintro e w' ⟨rfl, ⟨nd, rfl⟩⟩))
    go_ret
    exact ⟨by first | rfl | (simp [errW_none, errW_some] <;> rfl) | (simp [*, errW_none, errW_some] <;> rfl), hbA_ HB.out⟩
   ·replace c7 := Bool.eq_false_iff.mpr c7
    subst c7
    rw [if_neg (show ¬ (false = true) by decide)] at H
    obtain rfl := Option.some.inj H
    go_enter Try.func21, Try.ntmps21
    go_wp2_with (first | ((with_reducible refine gate_dst (N := 1) rfl ?_); refine box_ (N := 1) (cs := #[.int .i64 a0_0, .int .i64 a0_1, .int .i64 a0_2, .int .i64 a0_3]) (t := 37) (fun gb204 hg w11 hbox hb => ?_); have BK204 := Aside0.mk (hbox); have GW204 := ge_ hg HB; have GE204 := ge_ hg HB; replace HB := (bs_ HB hb); clear hb hbox hg; have Z12 := zz4 BK204) | ((with_reducible refine gate_callee (f := 37) rfl ?_); refine goesL_ (some 5) rfl rfl Try.func37 (by kernel_rfl) rfl #[.int .i64 a0_0, .int .i64 1, .int .i64 2] rfl ar_ ?_; (with_reducible refine (impl_in.calls a0_0 1 2 true _ A2.out).mono ?_); rintro e w' ⟨rfl, ⟨nd, rfl⟩⟩; refine ⟨_, rfl, ?_⟩) | (go_at_call 37; (with_reducible refine (impl_in.calls a0_1 0 254 true _ A4.out).mono ?_); rintro e w' ⟨rfl, ⟨nd, rfl⟩⟩) | (go_at_call 61; (with_reducible refine (impl_word.calls a0_2 false _ A6.out).mono ?_); rintro e w' ⟨rfl, ⟨nd, rfl⟩⟩))
    go_ret
    exact ⟨by first | rfl | (simp [errW_none, errW_some] <;> rfl) | (simp [*, errW_none, errW_some] <;> rfl), hbA_ HB.out⟩
  ·replace c5 := Bool.eq_false_iff.mpr c5
   subst c5
   rw [if_neg (show ¬ (false = true) by decide)] at H
   obtain rfl := Option.some.inj H
   go_enter Try.func21, Try.ntmps21
   go_wp2_with (first | ((with_reducible refine gate_dst (N := 1) rfl ?_); refine box_ (N := 1) (cs := #[.int .i64 a0_0, .int .i64 a0_1, .int .i64 a0_2, .int .i64 a0_3]) (t := 37) (fun gb204 hg w13 hbox hb => ?_); have BK204 := Aside0.mk (hbox); have GW204 := ge_ hg HB; have GE204 := ge_ hg HB; replace HB := (bs_ HB hb); clear hb hbox hg; have Z14 := zz4 BK204) | ((with_reducible refine gate_callee (f := 37) rfl ?_); refine goesL_ (some 5) rfl rfl Try.func37 (by kernel_rfl) rfl #[.int .i64 a0_0, .int .i64 1, .int .i64 2] rfl ar_ ?_; (with_reducible refine (impl_in.calls a0_0 1 2 true _ A2.out).mono ?_); rintro e w' ⟨rfl, ⟨nd, rfl⟩⟩; refine ⟨_, rfl, ?_⟩) | (go_at_call 37; (with_reducible refine (impl_in.calls a0_1 0 254 false _ A4.out).mono ?_); rintro e w' ⟨rfl, ⟨nd, rfl⟩⟩))
   go_ret
   exact ⟨by first | rfl | (simp [errW_none, errW_some] <;> rfl) | (simp [*, errW_none, errW_some] <;> rfl), hbA_ HB.out⟩
 ·replace c3 := Bool.eq_false_iff.mpr c3
  subst c3
  rw [if_neg (show ¬ (false = true) by decide)] at H
  obtain rfl := Option.some.inj H
  go_enter Try.func21, Try.ntmps21
  go_wp2_with (first | ((with_reducible refine gate_dst (N := 1) rfl ?_); refine box_ (N := 1) (cs := #[.int .i64 a0_0, .int .i64 a0_1, .int .i64 a0_2, .int .i64 a0_3]) (t := 37) (fun gb204 hg w15 hbox hb => ?_); have BK204 := Aside0.mk (hbox); have GW204 := ge_ hg HB; have GE204 := ge_ hg HB; replace HB := (bs_ HB hb); clear hb hbox hg; have Z16 := zz4 BK204) | ((with_reducible refine gate_callee (f := 37) rfl ?_); refine goesL_ (some 5) rfl rfl Try.func37 (by kernel_rfl) rfl #[.int .i64 a0_0, .int .i64 1, .int .i64 2] rfl ar_ ?_; (with_reducible refine (impl_in.calls a0_0 1 2 false _ A2.out).mono ?_); rintro e w' ⟨rfl, ⟨nd, rfl⟩⟩; refine ⟨_, rfl, ?_⟩))
  go_ret
  exact ⟨by first | rfl | (simp [errW_none, errW_some] <;> rfl) | (simp [*, errW_none, errW_some] <;> rfl), hbA_ HB.out⟩
theorem slices_Clip_byte_byte_74.calls (A0 : Option Addr) (c0 n0 : Nat) (w : World) (hc : n0 ≤ c0) : Calls Try.prog 74 #[.slice A0 n0 c0] w fun e w' => e = .returned (.slice A0 n0 n0) ∧ w' = w := by
  go_enter Try.func74, Try.ntmps74
  go_wp2
  go_ret
  exact ⟨rfl, rfl⟩
def impl_clone_byte.f (l0 : List Int) : Option (List Int) := if l0.length * 1 ≤ 140737488355328 then some l0 else none
theorem impl_clone_byte.calls (A0 : Option Addr) (c0 : Nat) (l0 : List Int) (r : List Int) (w : World) (hr0 : Kd.C (Kd.int .u8) w A0 l0.length l0) (hc0 : l0.length ≤ c0) (h : impl_clone_byte.f l0 = some r) :
    Calls Try.prog 44 #[.slice A0 l0.length c0] w fun e w' => ∃ v0_ : Value, e = .returned (v0_) ∧ Kd.R (Kd.int .u8) 5 w' w.heap.size (fun _ => True) v0_ r ∧ Below w.heap.size w w' := by
  obtain ⟨hle, rfl⟩ : l0.length * 1 ≤ 140737488355328 ∧ l0 = r := by
    unfold impl_clone_byte.f at h; split at h
    · exact ⟨by assumption, Option.some.inj h⟩
    · cases h
  have hm := hr0.2.1
  have HR := Aside0.mk hr0; clear hr0 h
  by_cases h0 : l0.length = 0
  · have hb : ((l0.length : Int) == 0) = true := by simp [h0]
    have HL : Aside0 (l0 = []) := ⟨List.eq_nil_of_length_eq_zero h0⟩
    clear h0
    go_enter Try.func44, Try.ntmps44
    go_wp2
    go_ret
    refine ⟨_, rfl, ?_, Below.refl _ _⟩
    rw [HL.out]; exact Kd.R_nil _ _ _ _ _
  · have hb : ((l0.length : Int) == 0) = false := by simp; intro hh; exact h0 (by simp [hh])
    clear h0
    go_enter Try.func44, Try.ntmps44
    go_wp2_with (first
      | ((with_reducible refine gate_dst (N := 7) rfl ?_); refine Kd.R_append_rows (Kd.int .u8) (Rr := (Kd.int .u8).K w) w.heap.size rfl _ _ 44 5 (.int .u8 0) 1 rfl Try.underlying44 info5 rfl (by decide) (by decide) (.slice none 0 0) [] l0 A0 l0.length c0 (fun _ => True) (fun _ => True) rfl rfl (Kd.R_nil _ _ _ _ _) HR.out (fun x cs h => h) (fun k _ => ⟨trivial, by simp [Value.ownBlock]⟩) (fun _ _ => trivial) (Below.refl _ _) (Nat.le_refl _) (by simpa using hle) ?_; intro v1 w1 ho hb1 hg hat; rw [List.nil_append] at ho; obtain ⟨A1, c1, hv1, hc1, _⟩ := Kd.R_reads ho; have HO := Aside0.mk ho; clear ho hat hg; have HB := Aside0.mk hb1; clear hb1; subst hv1)
      | (go_at_call 74; (with_reducible refine (slices_Clip_byte_byte_74.calls _ _ _ _ hc1).mono ?_); rintro e w' ⟨rfl, rfl⟩))
    go_ret
    exact ⟨_, rfl, Kd.R_clip HO.out (Nat.le_refl _) hc1, HB.out⟩
theorem impl_NearEntry_82.calls (A0 : Option Addr) (c0 n0 : Nat) (w : World) (hc : n0 ≤ c0) : Calls Try.prog 82 #[.slice A0 n0 c0] w fun e w' => e = .returned (.slice A0 n0 n0) ∧ w' = w := by
  go_enter Try.func82, Try.ntmps82
  go_wp2
  go_ret
  exact ⟨rfl, rfl⟩
def impl_NearEntry_72.f (l0 : List (S63)) : Option ((List (S63))) := if l0.length * 24 ≤ 140737488355328 then some l0 else none
theorem impl_NearEntry_72.calls (A0 : Option Addr) (c0 : Nat) (l0 : List (S63)) (r : List (S63)) (w : World) (hr0 : Kd.C k63 w A0 l0.length l0) (hc0 : l0.length ≤ c0) (h : impl_NearEntry_72.f l0 = some r) :
    Calls Try.prog 72 #[.slice A0 l0.length c0] w fun e w' => ∃ v0_ : Value, e = .returned (v0_) ∧ Kd.R k63 63 w' w.heap.size (fun _ => True) v0_ r ∧ Below w.heap.size w w' := by
  obtain ⟨hle, rfl⟩ : l0.length * 24 ≤ 140737488355328 ∧ l0 = r := by
    unfold impl_NearEntry_72.f at h; split at h
    · exact ⟨by assumption, Option.some.inj h⟩
    · cases h
  have hm := hr0.2.1
  have HR := Aside0.mk hr0; clear hr0 h
  by_cases h0 : l0.length = 0
  · have hb : ((l0.length : Int) == 0) = true := by simp [h0]
    have HL : Aside0 (l0 = []) := ⟨List.eq_nil_of_length_eq_zero h0⟩
    clear h0
    go_enter Try.func72, Try.ntmps72
    go_wp2
    go_ret
    refine ⟨_, rfl, ?_, Below.refl _ _⟩
    rw [HL.out]; exact Kd.R_nil _ _ _ _ _
  · have hb : ((l0.length : Int) == 0) = false := by simp; intro hh; exact h0 (by simp [hh])
    clear h0
    go_enter Try.func72, Try.ntmps72
    go_wp2_with (first
      | ((with_reducible refine gate_dst (N := 7) rfl ?_); refine Kd.R_append_rows k63 (Rr := k63.K w) w.heap.size rfl _ _ 29 63 (.agg #[(.int .i64 0), (.int .i64 0), (.int .i64 0)]) 24 rfl Try.underlying29 info63 rfl (by decide) (by decide) (.slice none 0 0) [] l0 A0 l0.length c0 (fun _ => True) (fun _ => True) rfl rfl (Kd.R_nil _ _ _ _ _) HR.out (fun x cs h => by rw [k63_open h]; exact k63_mkM _ _ _ _) (fun k _ => ⟨trivial, by simp [Value.ownBlock]⟩) (fun _ _ => trivial) (Below.refl _ _) (Nat.le_refl _) (by simpa using hle) ?_; intro v1 w1 ho hb1 hg hat; rw [List.nil_append] at ho; obtain ⟨A1, c1, hv1, hc1, _⟩ := Kd.R_reads ho; have HO := Aside0.mk ho; clear ho hat hg; have HB := Aside0.mk hb1; clear hb1; subst hv1)
      | (go_at_call 82; (with_reducible refine (impl_NearEntry_82.calls _ _ _ _ hc1).mono ?_); rintro e w' ⟨rfl, rfl⟩))
    go_ret
    exact ⟨_, rfl, Kd.R_clip HO.out (Nat.le_refl _) hc1, HB.out⟩
theorem impl_NearHeld_73.calls (A0 : Option Addr) (c0 n0 : Nat) (w : World) (hc : n0 ≤ c0) : Calls Try.prog 73 #[.slice A0 n0 c0] w fun e w' => e = .returned (.slice A0 n0 n0) ∧ w' = w := by
  go_enter Try.func73, Try.ntmps73
  go_wp2
  go_ret
  exact ⟨rfl, rfl⟩
def impl_Near_copy.l0 : Nat → List (S65) → Int → Int → List (S63) → List (S65) → Option ((List (S63)) × (List (S65)))
 | 0, _, _, _, _, _ => none
 | k + 1, x11, x12, x13, x215000, x215001 => if x13 < x12 then (if 0 ≤ x13 then (if x13 < (x11.length : Int) then ((impl_clone_byte.f ((rd_T65 x11 x13).f1)).bind fun t217 => (if x215001.length < 4398046511104 then (impl_Near_copy.l0 k x11 x12 (wrap64 (x13 + 1)) x215000 (x215001 ++ [(⟨(rd_T65 x11 x13).f0, t217⟩ : S65)])) else (none))) else (none)) else (none)) else (some (x215000, x215001))
def impl_Near_copy.f (k : Nat) (l0_0 : List (S63)) (l0_1 : List (S65)) : Option ((List (S63)) × (List (S65))) := (impl_NearEntry_72.f l0_0).bind fun t211 => (impl_Near_copy.l0 k l0_1 (l0_1.length : Int) 0 t211 ([] : List (S65)))
theorem impl_Near_copy.mono_l : ∀ k, (∀ y0 y1 y2 y3 y4, LeO (impl_Near_copy.l0 k y0 y1 y2 y3 y4) (impl_Near_copy.l0 (k + 1) y0 y1 y2 y3 y4))
 | 0 => fun _ _ _ _ _ r h => by simp [impl_Near_copy.l0] at h
 | k + 1 => by
  have ih0 := impl_Near_copy.mono_l k
  ·intro y0 y1 y2 y3 y4
   unfold impl_Near_copy.l0
   repeat' first | (with_reducible first | apply ih0 | exact LeO.refl _ | exact LeO.none _ | refine LeO.ite ?_ ?_ | refine LeO.bind ?_ fun _ => ?_) | apply ih0 | exact LeO.none _ | refine LeO.ite ?_ ?_ | refine LeO.bind ?_ fun _ => ?_
theorem impl_Near_copy.mono : ∀ a0 a1 k, LeO (impl_Near_copy.f k a0 a1) (impl_Near_copy.f (k + 1) a0 a1) := by
 intro a0 a1 k
 have ih0 := impl_Near_copy.mono_l k
 unfold impl_Near_copy.f
 repeat' first | (with_reducible first | apply ih0 | exact LeO.refl _ | exact LeO.none _ | refine LeO.ite ?_ ?_ | refine LeO.bind ?_ fun _ => ?_) | apply ih0 | exact LeO.none _ | refine LeO.ite ?_ ?_ | refine LeO.bind ?_ fun _ => ?_
def impl_Near_copy.T5 : Bool × List (List Nat × List Nat) := (true, [([], []), ([0], [0]), ([], []), ([2], [2]), ([], []), ([4], [4]), ([5], [5]), ([3, 6], [3, 6]), ([7], [7]), ([1, 8, 6], [1, 8]), ([0, 1, 2, 3, 4, 5, 6, 7, 8, 9], []), ([10, 9, 9, 0, 1, 2, 3, 4, 5, 6, 7, 8, 9], [9, 10])])
def impl_Near_copy.B5 : List Nat := [0, 1, 0, 4, 0, 16, 48, 124, 252, 511, 1023, 2047]
theorem impl_Near_copy.tab5 : rtab .any (opsOf Try.f41 5) = impl_Near_copy.T5 := by kernel_rfl
theorem impl_Near_copy.bits5 : waitsOk impl_Near_copy.T5.2 impl_Near_copy.B5 = true := by kernel_rfl
set_option maxHeartbeats 8000000 in
set_option maxRecDepth 100000 in
theorem impl_Near_copy.calls (k : Nat) (A0_0 : Option Addr) (c0_0 : Nat) (l0_0 : List (S63)) (A0_1 : Option Addr) (c0_1 : Nat) (l0_1 : List (S65)) (r1 : List (S63)) (r2 : List (S65)) (w : World) (hr0_0 : Kd.C k63 w A0_0 l0_0.length l0_0) (hc0_0 : l0_0.length ≤ c0_0) (hr0_1 : Kd.C k65 w A0_1 l0_1.length l0_1) (hc0_1 : l0_1.length ≤ c0_1) (h : impl_Near_copy.f k l0_0 l0_1 = some (r1, r2)) :
  Calls Try.prog 41 #[.agg #[.slice A0_0 l0_0.length c0_0, .slice A0_1 l0_1.length c0_1]] w fun e w' => ∃ v0_ v1_ : Value, e = .returned (.agg #[v0_, v1_]) ∧ Kd.R k63 63 w' w.heap.size (fun _ => True) v0_ r1 ∧ Kd.S k65 65 w' w.heap.size (fun _ => True) v1_ r2 ∧ Below w.heap.size w w' := by
 have hu32 := Try.underlying32; have hu65 := Try.underlying65; have HR0_0 := Aside0.mk hr0_0; have HC0_0 := Aside0.mk hc0_0; clear hr0_0 hc0_0; have HR0_1 := Aside0.mk hr0_1; have HC0_1 := Aside0.mk hc0_1; clear hr0_1 hc0_1
 have HB := Aside0.mk (Below.refl w.heap.size w)
 have H : ((impl_NearEntry_72.f l0_0).bind fun t211 => (impl_Near_copy.l0 k l0_1 (l0_1.length : Int) 0 t211 ([] : List (S65)))) = some (r1, r2) := h
 clear h
 replace H := Option.bind_eq_some_iff.mp H
 obtain ⟨t211, A20, H⟩ := H
 (try dsimp only at H)
 have A2 := Aside0.mk A20; clear A20
 have H' := Aside0.mk H
 clear H
 go_enter Try.func41, Try.ntmps41
 go_wp2_with (first | ((with_reducible refine gate_dst (N := 1) rfl ?_); refine box_ (N := 1) (cs := #[.slice A0_0 l0_0.length c0_0, .slice A0_1 l0_1.length c0_1]) (t := 32) (fun gb209 hg w3 hbox hb => ?_); have BK209 := Aside0.mk (hbox); have GW209 := ge_ hg HB; have GE209 := ge_ hg HB; replace HB := (bs_ HB hb); clear hb hbox hg) | ((with_reducible refine gate_dst (N := 2) rfl ?_); refine box_ (N := 2) (cs := #[.slice none 0 0, .slice none 0 0]) (t := 32) (fun gb210 hg w4 hbox hb => ?_); have BK210 := Aside0.mk (hbox); have GW210 := ge_ hg HB; have GE210 := ge_ hg HB; replace HB := (bs_ HB hb); have NB209_210 := nl_ hg BK209; have NB210_209 := ng_ hg BK209; replace BK209 := (bbA_ BK209 hb); clear hb hbox hg; have hnb5 := NB209_210.out; have hnc5 := NB210_209.out; have Z6 := zz2 BK209) | ((with_reducible refine gate_callee (f := 72) rfl ?_); refine goesL_ (some 8) rfl rfl Try.func72 (by kernel_rfl) rfl #[.slice A0_0 l0_0.length c0_0] rfl ar_ ?_; (with_reducible refine (impl_NearEntry_72.calls _ _ l0_0 t211 _ ?side1 ?side2 A2.out).mono ?_); (case side1 => exact kC_ (Kd.C_below HR0_0.out HB.out)); (case side2 => exact HC0_0.out); rintro e w7 ⟨v212, rfl, ho0, hb⟩; refine ⟨_, rfl, ?_⟩; have HO213 := Aside0.mk (Kd.R_lower ho0 (below_size (hbA_ HB.out))); replace BK209 := (bbA_ BK209 hb); replace BK210 := (bbA_ BK210 hb); replace HB := (bs_ HB hb); (try clear hb); (try clear hb2); (try clear hk); (try clear hi); (try clear ho0); obtain ⟨Ao8, co8, eo8⟩ := Kd.R_slice HO213.out; subst eo8) | ((with_reducible refine gate_dst (N := 3) rfl ?_); refine box_ (N := 3) (cs := #[.slice none 0 0, .slice none 0 0]) (t := 32) (fun gb214 hg w9 hbox hb => ?_); replace HO213 := Aside0.mk (Kd.R_below (kR_ HO213.out) hb); have BK214 := Aside0.mk (hbox); have GW214 := ge_ hg HB; have GE214 := ge_ hg HB; replace HB := (bs_ HB hb); have NB209_214 := nl_ hg BK209; have NB214_209 := ng_ hg BK209; replace BK209 := (bbA_ BK209 hb); have NB210_214 := nl_ hg BK210; have NB214_210 := ng_ hg BK210; replace BK210 := (bbA_ BK210 hb); clear hb hbox hg; have hnb10 := NB214_209.out; have hnc10 := NB209_214.out; have hnb11 := NB214_210.out; have hnc11 := NB210_214.out; have Z12 := zz2 BK214; have Z13 := zz2 BK209))
 go_loopg [13] k (fun kq v13 w' => ∃ (x13_1 : Int) (x215001_1 : List (S65)) (u215001 : Value), v13 = .int .i64 x13_1 ∧ Aside0 (impl_Near_copy.l0 kq l0_1 (l0_1.length : Int) x13_1 t211 x215001_1 = some (r1, r2)) ∧ Aside0 (kq ≤ k) ∧ Aside0 (Kd.R k63 63 w' w.heap.size (fun _ => True) (.slice Ao8 t211.length co8) t211) ∧ Aside0 (Kd.S k65 65 w' w.heap.size (fun _ => True) u215001 x215001_1) ∧ Aside0 (w'.heap[gb209]? = some (.cells #[(.slice A0_0 l0_0.length c0_0), (.slice A0_1 l0_1.length c0_1)] 32 (0, 0))) ∧ Aside0 (w'.heap[gb210]? = some (.cells #[(.slice none 0 0), (.slice none 0 0)] 32 (0, 0))) ∧ Aside0 (w'.heap[gb214]? = some (.cells #[(.slice Ao8 t211.length co8), u215001] 32 (0, 0))) ∧ Aside0 (Below w.heap.size w w'))
 case atStart => exact ⟨(0), (([] : List (S65))), (.slice none 0 0), (by first | rfl | (simp; done) | (simp [*]; done)), H', ⟨Nat.le_refl _⟩, ⟨by refine kR_ ?_; exact rfm_ ((Kd.R_types HO213.out BK214.out (by decide))) (fun _ hk => trivial)⟩, ⟨by first | exact Kd.S_nil _ _ _ _ _ | exact Kd.N_nil _ _ _ _ _ | exact Kd.V_nil _ _ _ _ _ | exact Kd.Q_nil _ _ _ _ _ | exact Kd.R_nil _ _ _ _ _⟩, ⟨by exact kf_ BK209.out⟩, ⟨by exact kf_ BK210.out⟩, ⟨by refine kb_ ?_; refine pz2 (cs := #[.slice none 0 0, .slice none 0 0]) ?_; refine kb_ ?_; exact BK214.out⟩, ⟨hbA_ HB.out⟩⟩
 case round =>
  clear H'; (try clear c1); (try clear p2); (try clear c4); (try clear c5); (try clear c7); (try clear c10); (try clear c11); (try clear Z12); (try clear Z13); (try clear Z6)
  obtain ⟨x13_1, x215001_1, u215001, rfl, HA, HK1, HO_215000, HO_215001, BK209, BK210, BK214, HB⟩ := hrel
  cases gk with
  | zero => exact absurd HA.out (by simp [impl_Near_copy.l0])
  | succ k1 =>
   have H := HA.out; clear HA
   simp only [impl_Near_copy.l0] at H
   by_cases c14 : x13_1 < (l0_1.length : Int)
   ·rw [if_pos c14] at H
    have c14b0 : decide (x13_1 < (l0_1.length : Int)) = true := decide_eq_true c14
    clear c14
    by_cases c15 : 0 ≤ x13_1
    ·rw [if_pos c15] at H
     have c15b0 : decide (0 ≤ x13_1) = true := decide_eq_true c15
     clear c15
     by_cases c16 : x13_1 < (l0_1.length : Int)
     ·rw [if_pos c16] at H
      have c16b0 : decide (x13_1 < (l0_1.length : Int)) = true := decide_eq_true c16
      clear c16
      replace H := Option.bind_eq_some_iff.mp H
      obtain ⟨t217, A170, H⟩ := H
      (try dsimp only at H)
      have A17 := Aside0.mk A170; clear A170
      by_cases c18 : x215001_1.length < 4398046511104
      ·rw [if_pos c18] at H
       have LMc18 := Aside0.mk c18; clear c18
       obtain ⟨y220, hy220⟩ : ∃ y_ : List (S65), y_ = (x215001_1 ++ [(⟨(rd_T65 l0_1 x13_1).f0, t217⟩ : S65)]) := ⟨_, rfl⟩
       (first | replace H := sb_ hy220 H | rw [← hy220] at H)
       have Ny220 := Aside0.mk hy220; clear hy220
       have H' := Aside0.mk H
       clear H
       have p215 : 0 ≤ (x13_1 : Int) := of_decide_eq_true (by first | (with_reducible assumption) | assumption)
       have q215 : x13_1 < (l0_1.length : Int) := of_decide_eq_true (by first | (with_reducible assumption) | assumption)
       obtain ⟨ad215, A215_1, c215_1, e215, hx215_0, hx215_1, hl215_1, hi215_1⟩ := at_T65 HR0_1.out x13_1 p215 q215
       cases e215
       replace hx215_0 := cc_ HB hx215_0
       replace hx215_1 := cc_ HB hx215_1
       have HR215_1 := Aside0.mk hi215_1; have HC215_1 := Aside0.mk hl215_1; clear hi215_1 hl215_1
       replace p215 := eq_true p215
       replace q215 := eq_true q215
       try go_wp2_with (first | ((with_reducible refine gate_dst (N := 5) rfl ?_); refine box_ (N := 5) (cs := #[.int .i64 0, .slice none 0 0]) (t := 65) (fun gb216 hg w19 hbox hb => ?_); replace HO_215000 := Aside0.mk (Kd.R_below (kR_ HO_215000.out) hb); replace HO_215001 := Aside0.mk (Kd.S_below (Kd.S_elderB (kS_ HO_215001.out) gb216 (Nat.le_of_eq hg.symm)) hb); have BK216 := Aside0.mk (hbox); have GW216 := ge_ hg HB; have GE216 := ge_ hg HB; replace HB := (bs_ HB hb); have NB209_216 := nl_ hg BK209; have NB216_209 := ng_ hg BK209; replace BK209 := (bbA_ BK209 hb); have NB210_216 := nl_ hg BK210; have NB216_210 := ng_ hg BK210; replace BK210 := (bbA_ BK210 hb); have NB214_216 := nl_ hg BK214; have NB216_214 := ng_ hg BK214; replace BK214 := (bbA_ BK214 hb); clear hb hbox hg; have hnb20 := NB216_209.out; have hnc20 := NB209_216.out; have hnb21 := NB216_210.out; have hnc21 := NB210_216.out; have hnb22 := NB216_214.out; have hnc22 := NB214_216.out; have Z23 := zz2 BK216))
       obtain ⟨w24, h_w24⟩ : ∃ w_, ((w19.setCell ⟨gb216, 0, none⟩ (.int .i64 ((rd_T65 l0_1 x13_1).f0))).setCell ⟨gb216, 1, none⟩ (.slice A215_1 ((rd_T65 l0_1 x13_1).f1).length c215_1)) = w_ := ⟨_, rfl⟩
       have n0_ : Aside0 (Kd.R k63 63 w24 w.heap.size (fun _ => True) (.slice Ao8 t211.length co8) t211) := ⟨by subst h_w24; refine kR_ ?_; exact rfm_ ((Kd.R_types HO_215000.out BK216.out (by decide))) (fun _ hk => trivial)⟩
       have n1_ : Aside0 (Kd.S k65 65 w24 w.heap.size (fun k_ => k_ ≠ gb216) u215001 x215001_1) := ⟨by subst h_w24; refine kS_ ?_; exact nfS_ gb216 HO_215001.out (fun _ hk => hk.2) (fun _ hk => hk.1.2)⟩
       have n2_ : Aside0 (w24.heap[gb209]? = some (.cells #[.slice A0_0 l0_0.length c0_0, .slice (some ad215) l0_1.length c0_1] 32 (0, 0))) := ⟨by subst h_w24; exact kf_ BK209.out⟩
       have n3_ : Aside0 (w24.heap[gb210]? = some (.cells #[.slice none 0 0, .slice none 0 0] 32 (0, 0))) := ⟨by subst h_w24; exact kf_ BK210.out⟩
       have n4_ : Aside0 (w24.heap[gb214]? = some (.cells #[.slice Ao8 t211.length co8, u215001] 32 (0, 0))) := ⟨by subst h_w24; exact kf_ BK214.out⟩
       have n5_ : Aside0 (w24.heap[gb216]? = some (.cells #[.int .i64 ((rd_T65 l0_1 x13_1).f0), .slice A215_1 ((rd_T65 l0_1 x13_1).f1).length c215_1] 65 (0, 0))) := ⟨by subst h_w24; refine kb_ ?_; refine pz2 (cs := #[.int .i64 0, .slice none 0 0]) ?_; refine kb_ ?_; exact BK216.out⟩
       have n6_ : Aside0 (Below w.heap.size w w24) := ⟨by subst h_w24; exact hbA_ HB.out⟩
       (try clear HO_215000); (try clear HO_215001); (try clear BK209); (try clear BK210); (try clear BK214); (try clear BK216); (try clear HB)
       (try rw [h_w24]); clear h_w24
       have HO_215000 := n0_; have HO_215001 := n1_; have BK209 := n2_; have BK210 := n3_; have BK214 := n4_; have BK216 := n5_; have HB := n6_; clear n0_ n1_ n2_ n3_ n4_ n5_ n6_; replace HO_215000 := Aside0.mk (Kd.R_drew HO_215000.out); replace HO_215001 := Aside0.mk (Kd.S_drew HO_215001.out); replace BK209 := Aside0.mk (blk_drew BK209.out); replace BK210 := Aside0.mk (blk_drew BK210.out); replace BK214 := Aside0.mk (blk_drew BK214.out); replace BK216 := Aside0.mk (blk_drew BK216.out); replace HB := (bd_ HB)
       refine start_ (n := 12) (S := fun w' => w'.cell? ⟨gb214, 0, none⟩ = some (.slice Ao8 t211.length co8) ∧ w'.cell? ⟨gb214, 1, none⟩ = some (u215001) ∧ w'.cell? ⟨gb216, 0, none⟩ = some (.int .i64 ((rd_T65 l0_1 x13_1).f0)) ∧ w'.cell? ⟨gb216, 1, none⟩ = some (.slice A215_1 ((rd_T65 l0_1 x13_1).f1).length c215_1)) (ds := [11]) #[false, false, false, false, false, false, false, false, false, false, false, false] (by kernel_rfl) rfl rfl ⟨bc_ BK214 0, bc_ BK214 1, bc_ BK216 0, bc_ BK216 1⟩ (fun hHeld => ?_); refine with_tabW impl_Near_copy.tab5 impl_Near_copy.bits5 (fun HT_ HW_ => ?_)
       generalize w24.drew = w25 at HO_215000 HO_215001 BK209 BK210 BK214 BK216 HB hHeld ⊢
       refine pu_ (i := 0) (N := some 17) HT_ ?_; refine pu_ (i := 2) (N := some 19) HT_ ?_; refine pu_ (i := 4) (N := some 21) HT_ ?_; refine tk_ (i := 1) (N := some 18) HT_ HW_ hHeld ?_; refine tk_ (i := 3) (N := some 20) HT_ HW_ hHeld ?_; refine tk_ (i := 5) (N := some 22) HT_ HW_ hHeld ?_
       refine on_ (i := 6) (N := some 23) HT_ (fun K hK => ?_)
       refine goes_ Try.func44 (by kernel_rfl) rfl #[.slice A215_1 ((rd_T65 l0_1 x13_1).f1).length c215_1] (by rfl) rfl rfl ar_ ?_
       with_reducible refine (impl_clone_byte.calls _ _ ((rd_T65 l0_1 x13_1).f1) t217 _ ?side1 ?side2 A17.out).mono ?_
       (case side1 => exact kC_ (Kd.C_below HR215_1.out HB.out))
       (case side2 => exact HC215_1.out)
       rintro e w26 ⟨v218, rfl, ho0, hb⟩
       refine ⟨_, rfl, ?_⟩
       replace HO_215000 := Aside0.mk (Kd.R_below (kR_ HO_215000.out) hb); replace HO_215001 := Aside0.mk (Kd.S_elder' (kS_ HO_215001.out) (Kd.R_base ho0) hb); have HO219 := Aside0.mk (Kd.R_lower ho0 (below_size (hbA_ HB.out))); replace BK209 := (bbA_ BK209 hb); replace BK210 := (bbA_ BK210 hb); replace BK214 := (bbA_ BK214 hb); replace BK216 := (bbA_ BK216 hb); replace HB := (bs_ HB hb); (try clear hb); (try clear hb2); (try clear hk); (try clear hi); (try clear ho0)
       obtain ⟨Ao27, co27, eo27⟩ := Kd.R_slice HO219.out
       (first | subst eo27 | (injection eo27 with f1_ f2_ f3_; have f4_ := f1_.symm; have f5_ := f3_.symm; clear f1_ f2_ f3_; subst f4_; subst f5_))
       refine hK.out _ _ ⟨bc_ BK214 0, bc_ BK214 1, bc_ BK216 0, bc_ BK216 1⟩ (fun hHeld => ?_)
       clear hK K; refine nm_ 23 ?_; refine pu_ (i := 7) (N := some 24) HT_ ?_
       refine on_ (i := 8) (N := some 25) HT_ (fun K hK => ?_)
       refine value_ (w1 := ?_) (v := ?_) (by rfl) rfl ?_ ?_
       rotate_left 2
       ·go_simp
        constructor
        ·rfl
        ·rfl
       refine hK.out _ _ ⟨(blk_cell (blk_alloc BK214.out _) 0).trans rfl, (blk_cell (blk_alloc BK214.out _) 1).trans rfl, (blk_cell (blk_alloc BK216.out _) 0).trans rfl, (blk_cell (blk_alloc BK216.out _) 1).trans rfl⟩ (fun hHeld => ?_)
       clear hK K; refine nm_ 25 ?_
       refine on_ (i := 9) (N := some 26) HT_ (fun K hK => ?_)
       refine Kd.S_append_step k65 (w0 := w) w.heap.size (by rfl) (.tmp 18) (.tmp 25) 30 65 (.agg #[(.int .i64 0), (.slice none 0 0)]) 32 rfl Try.underlying30 info65 rfl (by decide) (by omega) u215001 x215001_1 (⟨(rd_T65 l0_1 x13_1).f0, t217⟩ : S65) [.int .i64 ((rd_T65 l0_1 x13_1).f0), .slice Ao27 t217.length co27] (fun k_ => k_ ≠ gb216) (fun k_ => some k_ = (.slice Ao27 t217.length co27 : Value).ownBlock) rfl rfl ?aP (fun k_ hk_ => ((Kd.R_mono (ok' := fun k_ => ((fun k_ => k_ ≠ gb216)) k_ ∧ some k_ ≠ (u215001 : Value).ownBlock) (Kd.R_types (Kd.R_apart' (HO219.out) (Kd.S_typed HO_215001.out) (by decide)) BK216.out (by decide)) (fun k_ hk => ⟨hk.2, hk.1.2⟩))).1 k_ hk_.symm) ?aF ?aO ?aB ?aS ?aL ?_
       (case aP => exact k65_mkM _ _ _ (⟨(rd_T65 l0_1 x13_1).f0, t217⟩ : S65) (Kd.R_mono (Kd.R_tight rfl (Kd.R_mono (ok' := fun k_ => ((fun k_ => k_ ≠ gb216)) k_ ∧ some k_ ≠ (u215001 : Value).ownBlock) (Kd.R_types (Kd.R_apart' (HO219.out) (Kd.S_typed HO_215001.out) (by decide)) BK216.out (by decide)) (fun k_ hk => ⟨hk.2, hk.1.2⟩))) (fun _ h_ => h_)))
       (case aB => exact (hbA_ HB.out))
       (case aF => exact (fun k_ hk => fb_ BK216 k_ hk))
       (case aO => exact (by refine kS_ ?_; exact Kd.S_mono HO_215001.out (fun k_ hk => ⟨hk.1, fun e_ => hk.2 e_⟩)))
       (case aS => exact (below_size (hbA_ HB.out)))
       (case aL => have := LMc18.out; omega)
       intro v221 w28 ho hb hg hat
       rw [← Ny220.out] at ho
       have n0_ := Aside0.mk (Kd.R_over' (kR_ HO_215000.out) (Kd.S_typed (kS_ HO_215001.out)) (by decide) hg); have n1_ := (bgA_ BK209 hg (Kd.S_ne HO_215001.out BK209.out (by decide))); have n2_ := (bgA_ BK210 hg (Kd.S_ne HO_215001.out BK210.out (by decide))); have n3_ := (bgA_ BK214 hg (Kd.S_ne HO_215001.out BK214.out (by decide))); have n4_ := (bgA_ BK216 hg (Kd.S_away HO_215001.out (fun _ hk => hk.1))); have n5_ := Aside0.mk (hb); have n6_ := Aside0.mk (ho); clear HO_215000 BK209 BK210 BK214 BK216 HB HO_215001 HO219; have HO_215000 := n0_; have BK209 := n1_; have BK210 := n2_; have BK214 := n3_; have BK216 := n4_; have HB := n5_; have HO222 := n6_; clear n0_ n1_ n2_ n3_ n4_ n5_ n6_ ho hb hg hat
       obtain ⟨Ao29, co29, eo29⟩ := Kd.S_slice HO222.out
       (first | subst eo29 | (injection eo29 with f1_ f2_ f3_; have f4_ := f1_.symm; have f5_ := f3_.symm; clear f1_ f2_ f3_; subst f4_; subst f5_))
       refine hK.out _ _ ⟨bc_ BK214 0, bc_ BK214 1, bc_ BK216 0, bc_ BK216 1⟩ (fun hHeld => ?_)
       clear hK K; refine nm_ 26 ?_; refine pu_ (i := 10) (N := some 27) HT_ ?_
       refine last_ (i := 11) (N := none) #[true, true, true, true, true, true, true, true, true, true, true, true] rfl rfl (one_of HT_.out (by kernel_rfl)) (by decide) (fun K hK => ?_)
       have hs30 : w28.cell? ⟨gb214, 1, none⟩ = some (u215001) := bc_ BK214 1
       have hfs30 := blk_frozen BK214.out 1
       have hns30_0 := NB209_214.out; have hns30_1 := NB210_214.out; have hns30_3 := NB216_214.out; have hms30_0 := NB214_209.out; have hms30_1 := NB214_210.out; have hms30_3 := NB214_216.out
       refine skip_ (w1 := ?_) (by rfl) rfl ?_ ?_
       rotate_left
       ·go_simp
        rfl
       refine hK.out _ _ ?_
       clear hK K
       refine done_ (done_of HT_.out (by kernel_rfl)) ?_
       try go_wp2
       go_roundg k1
       case measure => have := HK1.out; omega
       case rel => exact ⟨(wrap64 (x13_1 + 1)), (y220), (.slice Ao29 y220.length co29), (by first | rfl | (simp; done) | (simp [*]; done)), H', ⟨by have := HK1.out; omega⟩, ⟨by refine kR_ ?_; exact Kd.R_mono (Kd.R_f gb214 1 (.slice Ao29 y220.length co29) (Kd.R_types HO_215000.out BK214.out (by decide))) (fun _ hk => trivial)⟩, ⟨by refine kS_ ?_; exact Kd.S_mono (Kd.S_far (p := ⟨gb214, 1, none⟩) (Kd.S_types HO222.out BK214.out (by decide)) (fun _ hk => hk.2) (.slice Ao29 y220.length co29)) (fun _ hk => trivial)⟩, ⟨by exact kf_ BK209.out⟩, ⟨by exact kf_ BK210.out⟩, ⟨by refine kb_ ?_; refine blk_put (cs := #[.slice Ao8 t211.length co8, u215001]) ?_ 1 _ rfl; refine kb_ ?_; exact BK214.out⟩, ⟨hbA_ HB.out⟩⟩
      ·rw [if_neg c18] at H
       exact absurd H (by simp)
     ·rw [if_neg c16] at H
      exact absurd H (by simp)
    ·rw [if_neg c15] at H
     exact absurd H (by simp)
   ·rw [if_neg c14] at H
    have c14b0 : decide (x13_1 < (l0_1.length : Int)) = false := decide_eq_false c14
    clear c14
    simp only [Option.some.injEq, Prod.mk.injEq] at H
    obtain ⟨rfl, rfl⟩ := H
    have hnb31 := NB214_209.out; have hnc31 := NB209_214.out; have hnb32 := NB214_210.out; have hnc32 := NB210_214.out; have Z33 := zz2 BK214
    obtain ⟨Ao34, co34, eo34⟩ := Kd.S_slice HO_215001.out
    subst eo34
    have hq35 := (Kd.S_reads' HO_215001.out).2.1
    have hr35 := Aside0.mk (Kd.S_clip HO_215001.out (Nat.le_refl _) hq35)
    clear HO_215001; have HO224 := hr35; clear hr35
    go_wp2_with (first | (go_at_call 73; (with_reducible refine (impl_NearHeld_73.calls _ _ _ _ hq35).mono ?_); rintro e w' ⟨rfl, rfl⟩; have hnb36 := NB210_209.out; have hnc36 := NB209_210.out; have Z37 := zz2 BK210))
    refine bodyPost_ret (results_cell_row rfl _ _ gb210 32 #[.slice Ao8 t211.length co8, .slice Ao34 x215001_1.length x215001_1.length] (0, 0) _ rfl (by refine kb_ ?_; refine pz2 (cs := #[.slice none 0 0, .slice none 0 0]) ?_; exact kf_ BK210.out) Try.underlying32 rfl (by kernel_rfl)) rfl ?_
    exact ⟨_, _, by first | rfl | (simp [errW_none, errW_some] <;> rfl) | (simp [*, errW_none, errW_some] <;> rfl), by refine kR_ ?_; exact rfm_ ((Kd.R_far (p := ⟨gb214, 1, none⟩) (Kd.R_types (Kd.R_types HO_215000.out BK214.out (by decide)) BK210.out (by decide)) (fun _ hk => hk.1.2) (.slice Ao34 x215001_1.length x215001_1.length))) (fun _ hk => trivial), by refine kS_ ?_; exact Kd.S_mono (Kd.S_far (p := ⟨gb210, 1, none⟩) (Kd.S_far (p := ⟨gb210, 0, none⟩) (Kd.S_far (p := ⟨gb214, 1, none⟩) (Kd.S_types (Kd.S_types HO224.out BK214.out (by decide)) BK210.out (by decide)) (fun _ hk => hk.1.2) (.slice Ao34 x215001_1.length x215001_1.length)) (fun _ hk => hk.2) (.slice Ao8 t211.length co8)) (fun _ hk => hk.2) (.slice Ao34 x215001_1.length x215001_1.length)) (fun _ hk => trivial), hbA_ HB.out⟩
end Go.Proofs.Ytdoohdbfpnmndaa.PFnNearHear
