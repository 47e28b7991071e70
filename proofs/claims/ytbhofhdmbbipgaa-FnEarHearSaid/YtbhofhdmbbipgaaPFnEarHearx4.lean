/- Printed by wip/xp/xprint.sh out of the translation, for this claim: what each function answers, as a plain function, and that the machine does just that. No condition. -/
import Derived.Test.YtbhofhdmbbipgaaPFnEarHearx0
import Derived.Test.YtbhofhdmbbipgaaPFnEarHearx2
import Derived.Test.YtbhofhdmbbipgaaPFnEarHearx3
namespace Go.Proofs.Ytbhofhdmbbipgaa.PFnEarHear
open Go.RowKit Go.Proofs.YtbhofhdmbbipgaaW.PrintWords Go.Proofs.YtbhofhdmbbipgaaW.PrintLast Go.Proofs.YtbhofhdmbbipgaaW.PrintMore
attribute [local go_sem] max2_int min2_int max_two min_two max_three min_three max_four min_four   -- for this text's walks alone
set_option linter.unusedVariables false
set_option linter.unusedSimpArgs false
mutual
def impl_EarOk.j0 : Nat → Bool → Int → Int → List Int → List (S96) → Option (Bool)
 | 0, _, _, _, _, _ => none
 | k + 1, x19, x177000, x177001, x177002, x177003 => if x19 = true then (some false) else (impl_EarOk.l0 k x177003 (x177003.length : Int) 0 x177000 x177001 x177002 x177003)
def impl_EarOk.l0 : Nat → List (S96) → Int → Int → Int → Int → List Int → List (S96) → Option (Bool)
 | 0, _, _, _, _, _, _, _ => none
 | k + 1, x21, x22, x23, x177000, x177001, x177002, x177003 => if x23 < x22 then (if 0 ≤ x23 then (if x23 < (x21.length : Int) then ((impl_Ear_free.f x177000 x177001 x177002 x177003).bind fun t182 => ((impl_in.f ((rd_T96 x21 x23).f0) (wrap64 (x177000 + 1)) (wrap64 ((wrap64 (x177000 + t182)) - 1))).bind fun t183 => (if t183 = true then (if x23 > 0 then (if 0 ≤ (wrap64 (x23 - 1)) then (if (wrap64 (x23 - 1)) < (x177003.length : Int) then (impl_EarOk.j2 k x21 x22 x23 (decide (((rd_T96 x177003 (wrap64 (x23 - 1))).f0) ≥ ((rd_T96 x21 x23).f0))) x177000 x177001 x177002 x177003) else (none)) else (none)) else (impl_EarOk.j2 k x21 x22 x23 false x177000 x177001 x177002 x177003)) else (impl_EarOk.j2 k x21 x22 x23 true x177000 x177001 x177002 x177003)))) else (none)) else (none)) else (some true)
def impl_EarOk.j2 : Nat → List (S96) → Int → Int → Bool → Int → Int → List Int → List (S96) → Option (Bool)
 | 0, _, _, _, _, _, _, _, _ => none
 | k + 1, x21, x22, x23, x56, x177000, x177001, x177002, x177003 => if x56 = true then (some false) else (impl_EarOk.l0 k x21 x22 (wrap64 (x23 + 1)) x177000 x177001 x177002 x177003)
end
def impl_EarOk.f (k : Nat) (a0_0 : Int) (a0_1 : Int) (l0_2 : List Int) (l0_3 : List (S96)) : Option (Bool) := (impl_in.f a0_0 0 1000000).bind fun t177 => (if t177 = true then ((impl_in.f a0_1 1 32).bind fun t178 => (if t178 = true then ((impl_Ear_free.f a0_0 a0_1 l0_2 l0_3).bind fun t179 => (impl_EarOk.j0 k (decide (t179 < 0)) a0_0 a0_1 l0_2 l0_3)) else (impl_EarOk.j0 k true a0_0 a0_1 l0_2 l0_3))) else (impl_EarOk.j0 k true a0_0 a0_1 l0_2 l0_3))
theorem impl_EarOk.mono_l : ∀ k, (∀ y0 y1 y2 y3 y4, LeO (impl_EarOk.j0 k y0 y1 y2 y3 y4) (impl_EarOk.j0 (k + 1) y0 y1 y2 y3 y4)) ∧ (∀ y0 y1 y2 y3 y4 y5 y6, LeO (impl_EarOk.l0 k y0 y1 y2 y3 y4 y5 y6) (impl_EarOk.l0 (k + 1) y0 y1 y2 y3 y4 y5 y6)) ∧ (∀ y0 y1 y2 y3 y4 y5 y6 y7, LeO (impl_EarOk.j2 k y0 y1 y2 y3 y4 y5 y6 y7) (impl_EarOk.j2 (k + 1) y0 y1 y2 y3 y4 y5 y6 y7))
 | 0 => ⟨fun _ _ _ _ _ r h => by simp [impl_EarOk.j0] at h, fun _ _ _ _ _ _ _ r h => by simp [impl_EarOk.l0] at h, fun _ _ _ _ _ _ _ _ r h => by simp [impl_EarOk.j2] at h⟩
 | k + 1 => by
  obtain ⟨ih0, ih1, ih2⟩ := impl_EarOk.mono_l k
  refine ⟨?_, ?_, ?_⟩
  ·intro y0 y1 y2 y3 y4
   unfold impl_EarOk.j0
   repeat' first | (with_reducible first | apply ih0 | apply ih1 | apply ih2 | exact LeO.refl _ | exact LeO.none _ | refine LeO.ite ?_ ?_ | refine LeO.bind ?_ fun _ => ?_) | apply ih0 | apply ih1 | apply ih2 | exact LeO.none _ | refine LeO.ite ?_ ?_ | refine LeO.bind ?_ fun _ => ?_
  ·intro y0 y1 y2 y3 y4 y5 y6
   unfold impl_EarOk.l0
   repeat' first | (with_reducible first | apply ih0 | apply ih1 | apply ih2 | exact LeO.refl _ | exact LeO.none _ | refine LeO.ite ?_ ?_ | refine LeO.bind ?_ fun _ => ?_) | apply ih0 | apply ih1 | apply ih2 | exact LeO.none _ | refine LeO.ite ?_ ?_ | refine LeO.bind ?_ fun _ => ?_
  ·intro y0 y1 y2 y3 y4 y5 y6 y7
   unfold impl_EarOk.j2
   repeat' first | (with_reducible first | apply ih0 | apply ih1 | apply ih2 | exact LeO.refl _ | exact LeO.none _ | refine LeO.ite ?_ ?_ | refine LeO.bind ?_ fun _ => ?_) | apply ih0 | apply ih1 | apply ih2 | exact LeO.none _ | refine LeO.ite ?_ ?_ | refine LeO.bind ?_ fun _ => ?_
theorem impl_EarOk.mono : ∀ a0 a1 a2 a3 k, LeO (impl_EarOk.f k a0 a1 a2 a3) (impl_EarOk.f (k + 1) a0 a1 a2 a3) := by
 intro a0 a1 a2 a3 k
 obtain ⟨ih0, ih1, ih2⟩ := impl_EarOk.mono_l k
 unfold impl_EarOk.f
 repeat' first | (with_reducible first | apply ih0 | apply ih1 | apply ih2 | exact LeO.refl _ | exact LeO.none _ | refine LeO.ite ?_ ?_ | refine LeO.bind ?_ fun _ => ?_) | apply ih0 | apply ih1 | apply ih2 | exact LeO.none _ | refine LeO.ite ?_ ?_ | refine LeO.bind ?_ fun _ => ?_
def impl_EarOk.T6 : Bool × List (List Nat × List Nat) := (true, [([], []), ([0], [0]), ([], []), ([2], [2]), ([3], [3]), ([], []), ([5], [5]), ([], []), ([7], [7]), ([6, 8], [6, 8]), ([9], [9]), ([1, 4, 10, 8], [1, 4, 10]), ([11], [11]), ([12, 11], [12]), ([13], [13]), ([14, 13], [13, 14]), ([15, 13, 13], [13, 15]), ([16], [16]), ([17, 16], [16, 17]), ([16], [16]), ([19, 16], [16, 19]), ([18, 20, 16], [16, 18, 20]), ([21, 16], [16, 21]), ([22, 16], [16, 22]), ([16], [16]), ([24, 16], [16, 24]), ([23, 25, 16], [16, 23, 25]), ([16, 26, 13], [13, 16, 26]), ([13, 27], [13, 27])])
def impl_EarOk.B6 : List Nat := [0, 1, 0, 4, 12, 0, 32, 0, 128, 480, 992, 2047, 4095, 8191, 16383, 32767, 65535, 131071, 262143, 131071, 655359, 2097151, 4194303, 8388607, 131071, 16908287, 67108863, 134217727, 268435455]
theorem impl_EarOk.tab6 : rtab .any (opsOf Try.f35 6) = impl_EarOk.T6 := by kernel_rfl
theorem impl_EarOk.bits6 : waitsOk impl_EarOk.T6.2 impl_EarOk.B6 = true := by kernel_rfl
set_option maxHeartbeats 8000000 in
set_option maxRecDepth 100000 in
theorem impl_EarOk.calls (k : Nat) (a0_0 : Int) (a0_1 : Int) (A0_2 : Option Addr) (c0_2 : Nat) (l0_2 : List Int) (A0_3 : Option Addr) (c0_3 : Nat) (l0_3 : List (S96)) (r : Bool) (w : World) (hr0_2 : Kd.C (Kd.int .u8) w A0_2 l0_2.length l0_2) (hc0_2 : l0_2.length ≤ c0_2) (hr0_3 : Kd.C k96 w A0_3 l0_3.length l0_3) (hc0_3 : l0_3.length ≤ c0_3) (h : impl_EarOk.f k a0_0 a0_1 l0_2 l0_3 = some r) :
  Calls Try.prog 35 #[.agg #[.int .i64 a0_0, .int .i64 a0_1, .slice A0_2 l0_2.length c0_2, .slice A0_3 l0_3.length c0_3]] w fun e w' => e = .returned (.bool r) ∧ Below w.heap.size w w' := by
 have hu48 := Try.underlying48; have hu96 := Try.underlying96; have HR0_2 := Aside0.mk hr0_2; have HC0_2 := Aside0.mk hc0_2; clear hr0_2 hc0_2; have HR0_3 := Aside0.mk hr0_3; have HC0_3 := Aside0.mk hc0_3; clear hr0_3 hc0_3
 have HB := Aside0.mk (Below.refl w.heap.size w)
 have H : ((impl_in.f a0_0 0 1000000).bind fun t177 => (if t177 = true then ((impl_in.f a0_1 1 32).bind fun t178 => (if t178 = true then ((impl_Ear_free.f a0_0 a0_1 l0_2 l0_3).bind fun t179 => (impl_EarOk.j0 k (decide (t179 < 0)) a0_0 a0_1 l0_2 l0_3)) else (impl_EarOk.j0 k true a0_0 a0_1 l0_2 l0_3))) else (impl_EarOk.j0 k true a0_0 a0_1 l0_2 l0_3))) = some r := h
 clear h; have HC2 := Aside0.mk H; clear H
 go_enter Try.func35, Try.ntmps35
 go_upto_region 1 with (first | ((with_reducible refine gate_dst (N := 1) rfl ?_); refine box_ (N := 1) (cs := #[.int .i64 a0_0, .int .i64 a0_1, .slice A0_2 l0_2.length c0_2, .slice A0_3 l0_3.length c0_3]) (t := 48) (fun gb176 hg w3 hbox hb => ?_); have BK176 := Aside0.mk (hbox); have GW176 := ge_ hg HB; have GE176 := ge_ hg HB; replace HB := (bs_ HB hb); clear hb hbox hg))
 (try simp only [Act.put, List.setIfInBounds_toArray, List.set_cons_zero, List.set_cons_succ])
 go_cut [19] (fun v19 wc => ∃ (kq : Nat) (x19_1 : Bool), v19 = .bool x19_1 ∧ Aside0 (impl_EarOk.j0 kq x19_1 a0_0 a0_1 l0_2 l0_3 = some r) ∧ Aside0 (kq ≤ k) ∧ Aside0 (wc.heap[gb176]? = some (.cells #[.int .i64 a0_0, .int .i64 a0_1, (.slice A0_2 l0_2.length c0_2), (.slice A0_3 l0_3.length c0_3)] 48 (0, 0))) ∧ Aside0 (Below w.heap.size w wc))
 case first =>
  have H := HC2.out; clear HC2
  replace H := Option.bind_eq_some_iff.mp H
  obtain ⟨t177, A40, H⟩ := H
  (try dsimp only at H)
  have A4 := Aside0.mk A40; clear A40
  by_cases c5 : t177 = true
  ·subst c5
   rw [if_pos rfl] at H
   replace H := Option.bind_eq_some_iff.mp H
   obtain ⟨t178, A60, H⟩ := H
   (try dsimp only at H)
   have A6 := Aside0.mk A60; clear A60
   by_cases c7 : t178 = true
   ·subst c7
    rw [if_pos rfl] at H
    replace H := Option.bind_eq_some_iff.mp H
    obtain ⟨t179, A80, H⟩ := H
    (try dsimp only at H)
    have A8 := Aside0.mk A80; clear A80
    have H' := Aside0.mk H
    clear H; have Z9 := zz4 BK176
    go_wp2_with (first | ((with_reducible refine gate_callee (f := 56) rfl ?_); refine goesL_ (some 7) rfl rfl Try.func56 (by kernel_rfl) rfl #[.int .i64 a0_0, .int .i64 0, .int .i64 1000000] rfl ar_ ?_; (with_reducible refine (impl_in.calls a0_0 0 1000000 true _ A4.out).mono ?_); rintro e w' ⟨rfl, ⟨nd, rfl⟩⟩; refine ⟨_, rfl, ?_⟩) | (go_at_call 56; (with_reducible refine (impl_in.calls a0_1 1 32 true _ A6.out).mono ?_); rintro e w' ⟨rfl, ⟨nd, rfl⟩⟩) | (go_at_call 77; (with_reducible refine (impl_Ear_free.calls a0_0 a0_1 _ _ l0_2 _ _ l0_3 t179 _ ?side1 ?side2 ?side3 ?side4 A8.out).mono ?_); (case side1 => exact kC_ (Kd.C_below HR0_2.out (hbA_ HB.out))); (case side2 => exact HC0_2.out); (case side3 => exact kC_ (Kd.C_below HR0_3.out (hbA_ HB.out))); (case side4 => exact HC0_3.out); rintro e w10 ⟨rfl, hb⟩; replace BK176 := (bbA_ BK176 hb); replace HB := (bs_ HB hb); (try clear hb); (try clear hb2); (try clear hk); (try clear hi)))
    go_meet
    case rel => exact ⟨_, (decide (t179 < 0)), (by first | rfl | (simp; done) | (simp [*]; done)), H', ⟨by first | omega | exact Nat.le_refl _⟩, ⟨by refine kb_ ?_; exact BK176.out⟩, ⟨hbA_ HB.out⟩⟩
   ·replace c7 := Bool.eq_false_iff.mpr c7
    subst c7
    rw [if_neg (show ¬ (false = true) by decide)] at H
    have H' := Aside0.mk H
    clear H; have Z11 := zz4 BK176
    go_wp2_with (first | ((with_reducible refine gate_callee (f := 56) rfl ?_); refine goesL_ (some 7) rfl rfl Try.func56 (by kernel_rfl) rfl #[.int .i64 a0_0, .int .i64 0, .int .i64 1000000] rfl ar_ ?_; (with_reducible refine (impl_in.calls a0_0 0 1000000 true _ A4.out).mono ?_); rintro e w' ⟨rfl, ⟨nd, rfl⟩⟩; refine ⟨_, rfl, ?_⟩) | (go_at_call 56; (with_reducible refine (impl_in.calls a0_1 1 32 false _ A6.out).mono ?_); rintro e w' ⟨rfl, ⟨nd, rfl⟩⟩))
    go_meet
    case rel => exact ⟨_, (true), (by first | rfl | (simp; done) | (simp [*]; done)), H', ⟨by first | omega | exact Nat.le_refl _⟩, ⟨by refine kb_ ?_; exact BK176.out⟩, ⟨hbA_ HB.out⟩⟩
  ·replace c5 := Bool.eq_false_iff.mpr c5
   subst c5
   rw [if_neg (show ¬ (false = true) by decide)] at H
   have H' := Aside0.mk H
   clear H; have Z12 := zz4 BK176
   go_wp2_with (first | ((with_reducible refine gate_callee (f := 56) rfl ?_); refine goesL_ (some 7) rfl rfl Try.func56 (by kernel_rfl) rfl #[.int .i64 a0_0, .int .i64 0, .int .i64 1000000] rfl ar_ ?_; (with_reducible refine (impl_in.calls a0_0 0 1000000 false _ A4.out).mono ?_); rintro e w' ⟨rfl, ⟨nd, rfl⟩⟩; refine ⟨_, rfl, ?_⟩))
   go_meet
   case rel => exact ⟨_, (true), (by first | rfl | (simp; done) | (simp [*]; done)), H', ⟨by first | omega | exact Nat.le_refl _⟩, ⟨by refine kb_ ?_; exact BK176.out⟩, ⟨hbA_ HB.out⟩⟩
 case rest =>
  clear HC2; (try clear p2); (try clear c3); (try clear c5); (try clear c7); (try clear Z11); (try clear Z12); (try clear Z9)
  obtain ⟨kq, x19_1, rfl, HA, HJ1, BK176, HB⟩ := hcut
  cases kq with
  | zero => exact absurd HA.out (by simp [impl_EarOk.j0])
  | succ kj1 =>
   have H := HA.out; clear HA
   simp only [impl_EarOk.j0] at H
   by_cases c13 : x19_1 = true
   ·subst c13
    rw [if_pos rfl] at H
    obtain rfl := Option.some.inj H
    go_wp2
    go_ret
    exact ⟨by first | rfl | (simp [errW_none, errW_some] <;> rfl) | (simp [*, errW_none, errW_some] <;> rfl), hbA_ HB.out⟩
   ·replace c13 := Bool.eq_false_iff.mpr c13
    subst c13
    rw [if_neg (show ¬ (false = true) by decide)] at H
    have H' := Aside0.mk H
    clear H; have Z14 := zz4 BK176
    go_wp2
    go_loopg [23] kj1 (fun kq v23 w' => ∃ (x23_2 : Int), v23 = .int .i64 x23_2 ∧ Aside0 (impl_EarOk.l0 kq l0_3 (l0_3.length : Int) x23_2 a0_0 a0_1 l0_2 l0_3 = some r) ∧ Aside0 (kq ≤ kj1) ∧ Aside0 (w'.heap[gb176]? = some (.cells #[.int .i64 a0_0, .int .i64 a0_1, (.slice A0_2 l0_2.length c0_2), (.slice A0_3 l0_3.length c0_3)] 48 (0, 0))) ∧ Aside0 (Below w.heap.size w w'))
    case atStart => exact ⟨(0), (by first | rfl | (simp; done) | (simp [*]; done)), H', ⟨Nat.le_refl _⟩, ⟨by refine kb_ ?_; exact BK176.out⟩, ⟨hbA_ HB.out⟩⟩
    case round =>
     clear H'; (try clear c1); (try clear p2); (try clear c3); (try clear c5); (try clear c7); (try clear c13); (try clear Z11); (try clear Z12); (try clear Z14); (try clear Z9); (try clear p2)
     obtain ⟨x23_2, rfl, HA, HK2, BK176, HB⟩ := hrel
     cases gk with
     | zero => exact absurd HA.out (by simp [impl_EarOk.l0])
     | succ k2 =>
      have H := HA.out; clear HA
      simp only [impl_EarOk.l0] at H
      by_cases c15 : x23_2 < (l0_3.length : Int)
      ·rw [if_pos c15] at H
       have c15b0 : decide (x23_2 < (l0_3.length : Int)) = true := decide_eq_true c15
       clear c15
       by_cases c16 : 0 ≤ x23_2
       ·rw [if_pos c16] at H
        have c16b0 : decide (0 ≤ x23_2) = true := decide_eq_true c16
        clear c16
        by_cases c17 : x23_2 < (l0_3.length : Int)
        ·rw [if_pos c17] at H
         have c17b0 : decide (x23_2 < (l0_3.length : Int)) = true := decide_eq_true c17
         clear c17; have HC18 := Aside0.mk H; clear H
         have p180 : 0 ≤ (x23_2 : Int) := of_decide_eq_true (by first | (with_reducible assumption) | assumption)
         have q180 : x23_2 < (l0_3.length : Int) := of_decide_eq_true (by first | (with_reducible assumption) | assumption)
         obtain ⟨ad180, e180, hx180_0, hx180_1⟩ := at_T96 HR0_3.out x23_2 p180 q180
         cases e180
         replace hx180_0 := cc_ HB hx180_0
         replace hx180_1 := cc_ HB hx180_1
         replace p180 := eq_true p180
         replace q180 := eq_true q180
         go_upto_region 6 with (first | ((with_reducible refine gate_dst (N := 4) rfl ?_); refine box_ (N := 4) (cs := #[.int .i64 0, .int .u8 0]) (t := 96) (fun gb181 hg w19 hbox hb => ?_); have BK181 := Aside0.mk (hbox); have GW181 := ge_ hg HB; have GE181 := ge_ hg HB; replace HB := (bs_ HB hb); have NB176_181 := nl_ hg BK176; have NB181_176 := ng_ hg BK176; replace BK176 := (bbA_ BK176 hb); clear hb hbox hg; have hnb20 := NB181_176.out; have hnc20 := NB176_181.out; have Z21 := zz2 BK181))
         (try simp only [Act.put, List.setIfInBounds_toArray, List.set_cons_zero, List.set_cons_succ])
         go_cut [56] (fun v56 wc => ∃ (kq : Nat) (x56_17 : Bool), v56 = .bool x56_17 ∧ Aside0 (impl_EarOk.j2 kq l0_3 (l0_3.length : Int) x23_2 x56_17 a0_0 a0_1 l0_2 l0_3 = some r) ∧ Aside0 (kq ≤ k2) ∧ Aside0 (wc.heap[gb176]? = some (.cells #[.int .i64 a0_0, .int .i64 a0_1, (.slice A0_2 l0_2.length c0_2), (.slice (some ad180) l0_3.length c0_3)] 48 (0, 0))) ∧ Aside0 (wc.heap[gb181]? = some (.cells #[.int .i64 ((rd_T96 l0_3 x23_2).f0), .int .u8 ((rd_T96 l0_3 x23_2).f1)] 96 (0, 0))) ∧ Aside0 (Below w.heap.size w wc))
         case first =>
          have H := HC18.out; clear HC18
          replace H := Option.bind_eq_some_iff.mp H
          obtain ⟨t182, A220, H⟩ := H
          (try dsimp only at H)
          have A22 := Aside0.mk A220; clear A220
          replace H := Option.bind_eq_some_iff.mp H
          obtain ⟨t183, A230, H⟩ := H
          (try dsimp only at H)
          have A23 := Aside0.mk A230; clear A230
          by_cases c24 : t183 = true
          ·subst c24
           rw [if_pos rfl] at H
           by_cases c25 : x23_2 > 0
           ·rw [if_pos c25] at H
            have c25b0 : decide (0 < x23_2) = true := decide_eq_true c25
            clear c25
            (first | rw [c25b0] | (simp only [i64_w, i32_w]; rw [c25b0]) | skip)
            obtain ⟨ji26, hji26⟩ : ∃ j_ : Int, (wrap64 (x23_2 - 1)) = j_ := ⟨_, rfl⟩
            (first | rw [hji26] at H | simp only [hji26] at H)
            (try rw [hji26] at A22)
            (try rw [hji26] at A23)
            have hji26w : (IntKind.i64.wrap (x23_2 - 1)) = ji26 := (i64_w _).trans hji26
            by_cases c27 : 0 ≤ (ji26)
            ·rw [if_pos c27] at H
             have c27b0 : decide (0 ≤ (ji26)) = true := decide_eq_true c27
             clear c27
             by_cases c28 : (ji26) < (l0_3.length : Int)
             ·rw [if_pos c28] at H
              have c28b0 : decide ((ji26) < (l0_3.length : Int)) = true := decide_eq_true c28
              clear c28
              have H' := Aside0.mk H
              clear H
              try go_wp2
              obtain ⟨w29, h_w29⟩ : ∃ w_, ((w19.setCell ⟨gb181, 0, none⟩ (.int .i64 ((rd_T96 l0_3 x23_2).f0))).setCell ⟨gb181, 1, none⟩ (.int .u8 ((rd_T96 l0_3 x23_2).f1))) = w_ := ⟨_, rfl⟩
              have n0_ : Aside0 (w29.heap[gb176]? = some (.cells #[.int .i64 a0_0, .int .i64 a0_1, .slice A0_2 l0_2.length c0_2, .slice (some ad180) l0_3.length c0_3] 48 (0, 0))) := ⟨by subst h_w29; exact kf_ BK176.out⟩
              have n1_ : Aside0 (w29.heap[gb181]? = some (.cells #[.int .i64 ((rd_T96 l0_3 x23_2).f0), .int .u8 ((rd_T96 l0_3 x23_2).f1)] 96 (0, 0))) := ⟨by subst h_w29; refine kb_ ?_; refine pz2 (cs := #[.int .i64 0, .int .u8 0]) ?_; refine kb_ ?_; exact BK181.out⟩
              have n2_ : Aside0 (Below w.heap.size w w29) := ⟨by subst h_w29; exact hbA_ HB.out⟩
              (try clear BK176); (try clear BK181); (try clear HB)
              (try rw [h_w29]); clear h_w29
              have BK176 := n0_; have BK181 := n1_; have HB := n2_; clear n0_ n1_ n2_; replace BK176 := Aside0.mk (blk_drew BK176.out); replace BK181 := Aside0.mk (blk_drew BK181.out); replace HB := (bd_ HB)
              have p184 : 0 ≤ ((ji26) : Int) := of_decide_eq_true (by first | (with_reducible assumption) | assumption)
              have q184 : (ji26) < (l0_3.length : Int) := of_decide_eq_true (by first | (with_reducible assumption) | assumption)
              obtain ⟨ad184, e184, hx184_0, hx184_1⟩ := at_T96 HR0_3.out (ji26) p184 q184
              have hw184_1 := hx184_1; have hw184_0 := hx184_0
              obtain rfl : ad180 = ad184 := (by injection e184)
              replace hx184_0 := cc_ HB hx184_0
              replace hx184_1 := cc_ HB hx184_1
              replace p184 := eq_true p184
              replace q184 := eq_true q184
              refine start_ (n := 29) (S := fun w' => w'.cell? ⟨gb181, 0, none⟩ = some (.int .i64 ((rd_T96 l0_3 x23_2).f0)) ∧ w'.cell? ⟨gb181, 1, none⟩ = some (.int .u8 ((rd_T96 l0_3 x23_2).f1)) ∧ w'.cell? ⟨gb176, 0, none⟩ = some (.int .i64 a0_0) ∧ w'.cell? ⟨gb176, 1, none⟩ = some (.int .i64 a0_1) ∧ w'.cell? ⟨gb176, 2, none⟩ = some (.slice A0_2 l0_2.length c0_2) ∧ w'.cell? ⟨gb176, 3, none⟩ = some (.slice (some ad180) l0_3.length c0_3) ∧ w'.cell? (ad180.add (((ji26)).toNat * 2)) = some (.int .i64 ((rd_T96 l0_3 (ji26)).f0)) ∧ w'.cell? ⟨(ad180.add (((ji26)).toNat * 2)).block, (ad180.add (((ji26)).toNat * 2)).off + 1, none⟩ = some (.int .u8 ((rd_T96 l0_3 (ji26)).f1))) (ds := []) #[false, false, false, false, false, false, false, false, false, false, false, false, false, false, false, false, false, false, false, false, false, false, false, false, false, false, false, false, false] (by kernel_rfl) rfl rfl ⟨bc_ BK181 0, bc_ BK181 1, bc_ BK176 0, bc_ BK176 1, bc_ BK176 2, bc_ BK176 3, (cc_ HB hw184_0), (cc_ HB hw184_1)⟩ (fun hHeld => ?_); refine with_tabW impl_EarOk.tab6 impl_EarOk.bits6 (fun HT_ HW_ => ?_)
              generalize w29.drew = w30 at BK176 BK181 HB hx184_0 hx184_1 hHeld ⊢
              refine pu_ (i := 0) (N := some 28) HT_ ?_; refine pu_ (i := 2) (N := some 30) HT_ ?_; refine pu_ (i := 5) (N := some 33) HT_ ?_; refine tk_ (i := 1) (N := some 29) HT_ HW_ hHeld ?_; refine tk_ (i := 3) (N := some 31) HT_ HW_ hHeld ?_; refine pu_ (i := 4) (N := some 32) HT_ ?_; refine tk_ (i := 6) (N := some 34) HT_ HW_ hHeld ?_; refine tk_ (i := 7) (N := some 35) HT_ HW_ hHeld ?_
              refine on_ (i := 8) (N := some 36) HT_ (fun K hK => ?_)
              refine goes_ Try.func77 (by kernel_rfl) rfl #[.agg #[.int .i64 a0_0, .int .i64 a0_1, .slice A0_2 l0_2.length c0_2, .slice (some ad180) l0_3.length c0_3]] (by rfl) rfl rfl ar_ ?_
              with_reducible refine (impl_Ear_free.calls a0_0 a0_1 _ _ l0_2 _ _ l0_3 t182 _ ?side1 ?side2 ?side3 ?side4 A22.out).mono ?_
              (case side1 => exact kC_ (Kd.C_below HR0_2.out HB.out))
              (case side2 => exact HC0_2.out)
              (case side3 => exact kC_ (Kd.C_below HR0_3.out HB.out))
              (case side4 => exact HC0_3.out)
              rintro e w31 ⟨rfl, hb⟩
              refine ⟨_, rfl, ?_⟩
              replace BK176 := (bbA_ BK176 hb); replace BK181 := (bbA_ BK181 hb); replace HB := (bs_ HB hb); (try clear hb); (try clear hb2); (try clear hk); (try clear hi)
              refine hK.out _ _ ⟨bc_ BK181 0, bc_ BK181 1, bc_ BK176 0, bc_ BK176 1, bc_ BK176 2, bc_ BK176 3, (by first | exact cc_ HB hw184_0 | exact cc_ ⟨hbA_ HB.out⟩ hw184_0), (by first | exact cc_ HB hw184_1 | exact cc_ ⟨hbA_ HB.out⟩ hw184_1)⟩ (fun hHeld => ?_)
              clear hK K; refine nm_ 36 ?_; refine pu_ (i := 9) (N := some 37) HT_ ?_; refine pu_ (i := 10) (N := some 38) HT_ ?_
              refine on_ (i := 11) (N := some 39) HT_ (fun K hK => ?_)
              refine goes_ Try.func56 (by kernel_rfl) rfl #[.int .i64 ((rd_T96 l0_3 x23_2).f0), .int .i64 (wrap64 (a0_0 + 1)), .int .i64 (wrap64 ((wrap64 (a0_0 + t182)) - 1))] (by rfl) rfl rfl ar_ ?_
              with_reducible refine (impl_in.calls ((rd_T96 l0_3 x23_2).f0) (wrap64 (a0_0 + 1)) (wrap64 ((wrap64 (a0_0 + t182)) - 1)) true _ A23.out).mono ?_
              rintro e w' ⟨rfl, ⟨nd, rfl⟩⟩
              refine ⟨_, rfl, ?_⟩
              refine hK.out _ _ ⟨bc_ BK181 0, bc_ BK181 1, bc_ BK176 0, bc_ BK176 1, bc_ BK176 2, bc_ BK176 3, (by first | exact cc_ HB hw184_0 | exact cc_ ⟨hbA_ HB.out⟩ hw184_0), (by first | exact cc_ HB hw184_1 | exact cc_ ⟨hbA_ HB.out⟩ hw184_1)⟩ (fun hHeld => ?_)
              clear hK K; refine nm_ 39 ?_; refine pu_ (i := 12) (N := some 40) HT_ ?_; refine pu_ (i := 13) (N := some 41) HT_ ?_; refine pu_ (i := 14) (N := some 42) HT_ ?_; refine pu_ (i := 15) (N := some 43) HT_ ?_; refine pu_ (i := 16) (N := some 44) HT_ ?_; refine pu_ (i := 17) (N := some 45) HT_ ?_; refine pu_ (i := 19) (N := some 47) HT_ ?_; refine pu_ (i := 20) (N := some 48) HT_ ?_; refine pu_ (i := 24) (N := some 52) HT_ ?_; refine tk_ (i := 18) (N := some 46) HT_ HW_ hHeld ?_; refine pu_ (i := 21) (N := some 49) HT_ ?_; refine pu_ (i := 22) (N := some 50) HT_ ?_; refine tk_ (i := 23) (N := some 51) HT_ HW_ hHeld ?_; refine tk_ (i := 25) (N := some 53) HT_ HW_ hHeld ?_; refine pu_ (i := 26) (N := some 54) HT_ ?_; refine pu_ (i := 27) (N := some 55) HT_ ?_; refine pu_ (i := 28) (N := some 56) HT_ ?_
              refine done_ (done_of HT_.out (by kernel_rfl)) ?_
              try go_wp2
              first | go_meet | ((try simp only [← hji26]); go_meet)
              case rel => exact ⟨_, (decide (((rd_T96 l0_3 (ji26)).f0) ≥ ((rd_T96 l0_3 x23_2).f0))), (by first | rfl | (simp; done) | (simp only [← hji26] <;> (first | rfl | simp)) | (simp [*]; done)), H', ⟨by have := HJ1.out; have := HK2.out; first | omega | exact Nat.le_refl _⟩, ⟨by refine kb_ ?_; exact BK176.out⟩, ⟨by refine kb_ ?_; exact BK181.out⟩, ⟨hbA_ HB.out⟩⟩
             ·rw [if_neg c28] at H
              exact absurd H (by simp)
            ·rw [if_neg c27] at H
             exact absurd H (by simp)
           ·rw [if_neg c25] at H
            have c25b0 : decide (0 < x23_2) = false := decide_eq_false c25
            clear c25
            (first | rw [c25b0] | (simp only [i64_w, i32_w]; rw [c25b0]) | skip)
            have H' := Aside0.mk H
            clear H
            try go_wp2
            obtain ⟨w32, h_w32⟩ : ∃ w_, ((w19.setCell ⟨gb181, 0, none⟩ (.int .i64 ((rd_T96 l0_3 x23_2).f0))).setCell ⟨gb181, 1, none⟩ (.int .u8 ((rd_T96 l0_3 x23_2).f1))) = w_ := ⟨_, rfl⟩
            have n0_ : Aside0 (w32.heap[gb176]? = some (.cells #[.int .i64 a0_0, .int .i64 a0_1, .slice A0_2 l0_2.length c0_2, .slice (some ad180) l0_3.length c0_3] 48 (0, 0))) := ⟨by subst h_w32; exact kf_ BK176.out⟩
            have n1_ : Aside0 (w32.heap[gb181]? = some (.cells #[.int .i64 ((rd_T96 l0_3 x23_2).f0), .int .u8 ((rd_T96 l0_3 x23_2).f1)] 96 (0, 0))) := ⟨by subst h_w32; refine kb_ ?_; refine pz2 (cs := #[.int .i64 0, .int .u8 0]) ?_; refine kb_ ?_; exact BK181.out⟩
            have n2_ : Aside0 (Below w.heap.size w w32) := ⟨by subst h_w32; exact hbA_ HB.out⟩
            (try clear BK176); (try clear BK181); (try clear HB)
            (try rw [h_w32]); clear h_w32
            have BK176 := n0_; have BK181 := n1_; have HB := n2_; clear n0_ n1_ n2_; replace BK176 := Aside0.mk (blk_drew BK176.out); replace BK181 := Aside0.mk (blk_drew BK181.out); replace HB := (bd_ HB)
            refine start_ (n := 29) (S := fun w' => w'.cell? ⟨gb181, 0, none⟩ = some (.int .i64 ((rd_T96 l0_3 x23_2).f0)) ∧ w'.cell? ⟨gb181, 1, none⟩ = some (.int .u8 ((rd_T96 l0_3 x23_2).f1)) ∧ w'.cell? ⟨gb176, 0, none⟩ = some (.int .i64 a0_0) ∧ w'.cell? ⟨gb176, 1, none⟩ = some (.int .i64 a0_1) ∧ w'.cell? ⟨gb176, 2, none⟩ = some (.slice A0_2 l0_2.length c0_2) ∧ w'.cell? ⟨gb176, 3, none⟩ = some (.slice (some ad180) l0_3.length c0_3)) (ds := []) #[false, false, false, false, false, false, false, false, false, false, false, false, false, false, false, false, false, false, false, false, false, false, false, false, false, false, false, false, false] (by kernel_rfl) rfl rfl ⟨bc_ BK181 0, bc_ BK181 1, bc_ BK176 0, bc_ BK176 1, bc_ BK176 2, bc_ BK176 3⟩ (fun hHeld => ?_); refine with_tabW impl_EarOk.tab6 impl_EarOk.bits6 (fun HT_ HW_ => ?_)
            generalize w32.drew = w33 at BK176 BK181 HB hHeld ⊢
            refine pu_ (i := 0) (N := some 28) HT_ ?_; refine pu_ (i := 2) (N := some 30) HT_ ?_; refine pu_ (i := 5) (N := some 33) HT_ ?_; refine tk_ (i := 1) (N := some 29) HT_ HW_ hHeld ?_; refine tk_ (i := 3) (N := some 31) HT_ HW_ hHeld ?_; refine pu_ (i := 4) (N := some 32) HT_ ?_; refine tk_ (i := 6) (N := some 34) HT_ HW_ hHeld ?_; refine tk_ (i := 7) (N := some 35) HT_ HW_ hHeld ?_
            refine on_ (i := 8) (N := some 36) HT_ (fun K hK => ?_)
            refine goes_ Try.func77 (by kernel_rfl) rfl #[.agg #[.int .i64 a0_0, .int .i64 a0_1, .slice A0_2 l0_2.length c0_2, .slice (some ad180) l0_3.length c0_3]] (by rfl) rfl rfl ar_ ?_
            with_reducible refine (impl_Ear_free.calls a0_0 a0_1 _ _ l0_2 _ _ l0_3 t182 _ ?side1 ?side2 ?side3 ?side4 A22.out).mono ?_
            (case side1 => exact kC_ (Kd.C_below HR0_2.out HB.out))
            (case side2 => exact HC0_2.out)
            (case side3 => exact kC_ (Kd.C_below HR0_3.out HB.out))
            (case side4 => exact HC0_3.out)
            rintro e w34 ⟨rfl, hb⟩
            refine ⟨_, rfl, ?_⟩
            replace BK176 := (bbA_ BK176 hb); replace BK181 := (bbA_ BK181 hb); replace HB := (bs_ HB hb); (try clear hb); (try clear hb2); (try clear hk); (try clear hi)
            refine hK.out _ _ ⟨bc_ BK181 0, bc_ BK181 1, bc_ BK176 0, bc_ BK176 1, bc_ BK176 2, bc_ BK176 3⟩ (fun hHeld => ?_)
            clear hK K; refine nm_ 36 ?_; refine pu_ (i := 9) (N := some 37) HT_ ?_; refine pu_ (i := 10) (N := some 38) HT_ ?_
            refine on_ (i := 11) (N := some 39) HT_ (fun K hK => ?_)
            refine goes_ Try.func56 (by kernel_rfl) rfl #[.int .i64 ((rd_T96 l0_3 x23_2).f0), .int .i64 (wrap64 (a0_0 + 1)), .int .i64 (wrap64 ((wrap64 (a0_0 + t182)) - 1))] (by rfl) rfl rfl ar_ ?_
            with_reducible refine (impl_in.calls ((rd_T96 l0_3 x23_2).f0) (wrap64 (a0_0 + 1)) (wrap64 ((wrap64 (a0_0 + t182)) - 1)) true _ A23.out).mono ?_
            rintro e w' ⟨rfl, ⟨nd, rfl⟩⟩
            refine ⟨_, rfl, ?_⟩
            refine hK.out _ _ ⟨bc_ BK181 0, bc_ BK181 1, bc_ BK176 0, bc_ BK176 1, bc_ BK176 2, bc_ BK176 3⟩ (fun hHeld => ?_)
            clear hK K; refine nm_ 39 ?_; refine pu_ (i := 12) (N := some 40) HT_ ?_; refine pu_ (i := 13) (N := some 41) HT_ ?_; refine pu_ (i := 14) (N := some 42) HT_ ?_; refine pu_ (i := 15) (N := some 43) HT_ ?_; refine pu_ (i := 16) (N := some 44) HT_ ?_; refine pn_ (i := 17) (N := some 45) HT_ ?_; refine pn_ (i := 18) (N := some 46) HT_ ?_; refine pn_ (i := 19) (N := some 47) HT_ ?_; refine pn_ (i := 20) (N := some 48) HT_ ?_; refine pn_ (i := 21) (N := some 49) HT_ ?_; refine pn_ (i := 22) (N := some 50) HT_ ?_; refine pn_ (i := 23) (N := some 51) HT_ ?_; refine pn_ (i := 24) (N := some 52) HT_ ?_; refine pn_ (i := 25) (N := some 53) HT_ ?_; refine pn_ (i := 26) (N := some 54) HT_ ?_; refine pu_ (i := 27) (N := some 55) HT_ ?_; refine pu_ (i := 28) (N := some 56) HT_ ?_
            refine done_ (done_of HT_.out (by kernel_rfl)) ?_
            try go_wp2
            go_meet
            case rel => exact ⟨_, (false), (by first | rfl | (simp; done) | (simp [*]; done)), H', ⟨by have := HJ1.out; have := HK2.out; first | omega | exact Nat.le_refl _⟩, ⟨by refine kb_ ?_; exact BK176.out⟩, ⟨by refine kb_ ?_; exact BK181.out⟩, ⟨hbA_ HB.out⟩⟩
          ·replace c24 := Bool.eq_false_iff.mpr c24
           subst c24
           rw [if_neg (show ¬ (false = true) by decide)] at H
           have H' := Aside0.mk H
           clear H
           try go_wp2
           obtain ⟨w35, h_w35⟩ : ∃ w_, ((w19.setCell ⟨gb181, 0, none⟩ (.int .i64 ((rd_T96 l0_3 x23_2).f0))).setCell ⟨gb181, 1, none⟩ (.int .u8 ((rd_T96 l0_3 x23_2).f1))) = w_ := ⟨_, rfl⟩
           have n0_ : Aside0 (w35.heap[gb176]? = some (.cells #[.int .i64 a0_0, .int .i64 a0_1, .slice A0_2 l0_2.length c0_2, .slice (some ad180) l0_3.length c0_3] 48 (0, 0))) := ⟨by subst h_w35; exact kf_ BK176.out⟩
           have n1_ : Aside0 (w35.heap[gb181]? = some (.cells #[.int .i64 ((rd_T96 l0_3 x23_2).f0), .int .u8 ((rd_T96 l0_3 x23_2).f1)] 96 (0, 0))) := ⟨by subst h_w35; refine kb_ ?_; refine pz2 (cs := #[.int .i64 0, .int .u8 0]) ?_; refine kb_ ?_; exact BK181.out⟩
           have n2_ : Aside0 (Below w.heap.size w w35) := ⟨by subst h_w35; exact hbA_ HB.out⟩
           (try clear BK176); (try clear BK181); (try clear HB)
           (try rw [h_w35]); clear h_w35
           have BK176 := n0_; have BK181 := n1_; have HB := n2_; clear n0_ n1_ n2_; replace BK176 := Aside0.mk (blk_drew BK176.out); replace BK181 := Aside0.mk (blk_drew BK181.out); replace HB := (bd_ HB)
           refine start_ (n := 29) (S := fun w' => w'.cell? ⟨gb181, 0, none⟩ = some (.int .i64 ((rd_T96 l0_3 x23_2).f0)) ∧ w'.cell? ⟨gb181, 1, none⟩ = some (.int .u8 ((rd_T96 l0_3 x23_2).f1)) ∧ w'.cell? ⟨gb176, 0, none⟩ = some (.int .i64 a0_0) ∧ w'.cell? ⟨gb176, 1, none⟩ = some (.int .i64 a0_1) ∧ w'.cell? ⟨gb176, 2, none⟩ = some (.slice A0_2 l0_2.length c0_2) ∧ w'.cell? ⟨gb176, 3, none⟩ = some (.slice (some ad180) l0_3.length c0_3)) (ds := []) #[false, false, false, false, false, false, false, false, false, false, false, false, false, false, false, false, false, false, false, false, false, false, false, false, false, false, false, false, false] (by kernel_rfl) rfl rfl ⟨bc_ BK181 0, bc_ BK181 1, bc_ BK176 0, bc_ BK176 1, bc_ BK176 2, bc_ BK176 3⟩ (fun hHeld => ?_); refine with_tabW impl_EarOk.tab6 impl_EarOk.bits6 (fun HT_ HW_ => ?_)
           generalize w35.drew = w36 at BK176 BK181 HB hHeld ⊢
           refine pu_ (i := 0) (N := some 28) HT_ ?_; refine pu_ (i := 2) (N := some 30) HT_ ?_; refine pu_ (i := 5) (N := some 33) HT_ ?_; refine tk_ (i := 1) (N := some 29) HT_ HW_ hHeld ?_; refine tk_ (i := 3) (N := some 31) HT_ HW_ hHeld ?_; refine pu_ (i := 4) (N := some 32) HT_ ?_; refine tk_ (i := 6) (N := some 34) HT_ HW_ hHeld ?_; refine tk_ (i := 7) (N := some 35) HT_ HW_ hHeld ?_
           refine on_ (i := 8) (N := some 36) HT_ (fun K hK => ?_)
           refine goes_ Try.func77 (by kernel_rfl) rfl #[.agg #[.int .i64 a0_0, .int .i64 a0_1, .slice A0_2 l0_2.length c0_2, .slice (some ad180) l0_3.length c0_3]] (by rfl) rfl rfl ar_ ?_
           with_reducible refine (impl_Ear_free.calls a0_0 a0_1 _ _ l0_2 _ _ l0_3 t182 _ ?side1 ?side2 ?side3 ?side4 A22.out).mono ?_
           (case side1 => exact kC_ (Kd.C_below HR0_2.out HB.out))
           (case side2 => exact HC0_2.out)
           (case side3 => exact kC_ (Kd.C_below HR0_3.out HB.out))
           (case side4 => exact HC0_3.out)
           rintro e w37 ⟨rfl, hb⟩
           refine ⟨_, rfl, ?_⟩
           replace BK176 := (bbA_ BK176 hb); replace BK181 := (bbA_ BK181 hb); replace HB := (bs_ HB hb); (try clear hb); (try clear hb2); (try clear hk); (try clear hi)
           refine hK.out _ _ ⟨bc_ BK181 0, bc_ BK181 1, bc_ BK176 0, bc_ BK176 1, bc_ BK176 2, bc_ BK176 3⟩ (fun hHeld => ?_)
           clear hK K; refine nm_ 36 ?_; refine pu_ (i := 9) (N := some 37) HT_ ?_; refine pu_ (i := 10) (N := some 38) HT_ ?_
           refine on_ (i := 11) (N := some 39) HT_ (fun K hK => ?_)
           refine goes_ Try.func56 (by kernel_rfl) rfl #[.int .i64 ((rd_T96 l0_3 x23_2).f0), .int .i64 (wrap64 (a0_0 + 1)), .int .i64 (wrap64 ((wrap64 (a0_0 + t182)) - 1))] (by rfl) rfl rfl ar_ ?_
           with_reducible refine (impl_in.calls ((rd_T96 l0_3 x23_2).f0) (wrap64 (a0_0 + 1)) (wrap64 ((wrap64 (a0_0 + t182)) - 1)) false _ A23.out).mono ?_
           rintro e w' ⟨rfl, ⟨nd, rfl⟩⟩
           refine ⟨_, rfl, ?_⟩
           refine hK.out _ _ ⟨bc_ BK181 0, bc_ BK181 1, bc_ BK176 0, bc_ BK176 1, bc_ BK176 2, bc_ BK176 3⟩ (fun hHeld => ?_)
           clear hK K; refine nm_ 39 ?_; refine pu_ (i := 12) (N := some 40) HT_ ?_; refine pu_ (i := 13) (N := some 41) HT_ ?_; refine pn_ (i := 14) (N := some 42) HT_ ?_; refine pn_ (i := 15) (N := some 43) HT_ ?_; refine pn_ (i := 16) (N := some 44) HT_ ?_; refine pn_ (i := 17) (N := some 45) HT_ ?_; refine pn_ (i := 18) (N := some 46) HT_ ?_; refine pn_ (i := 19) (N := some 47) HT_ ?_; refine pn_ (i := 20) (N := some 48) HT_ ?_; refine pn_ (i := 21) (N := some 49) HT_ ?_; refine pn_ (i := 22) (N := some 50) HT_ ?_; refine pn_ (i := 23) (N := some 51) HT_ ?_; refine pn_ (i := 24) (N := some 52) HT_ ?_; refine pn_ (i := 25) (N := some 53) HT_ ?_; refine pn_ (i := 26) (N := some 54) HT_ ?_; refine pn_ (i := 27) (N := some 55) HT_ ?_; refine pu_ (i := 28) (N := some 56) HT_ ?_
           refine done_ (done_of HT_.out (by kernel_rfl)) ?_
           try go_wp2
           go_meet
           case rel => exact ⟨_, (true), (by first | rfl | (simp; done) | (simp [*]; done)), H', ⟨by have := HJ1.out; have := HK2.out; first | omega | exact Nat.le_refl _⟩, ⟨by refine kb_ ?_; exact BK176.out⟩, ⟨by refine kb_ ?_; exact BK181.out⟩, ⟨hbA_ HB.out⟩⟩
         case rest =>
          clear HC18; (try clear c2); (try clear p2); (try clear c5); (try clear p6); (try clear c7); (try clear c24); (try clear c25); (try clear c25b0); (try clear c27); (try clear c28)
          obtain ⟨kq, x56_17, rfl, HA, HJ17, BK176, BK181, HB⟩ := hcut
          cases kq with
          | zero => exact absurd HA.out (by simp [impl_EarOk.j2])
          | succ kj17 =>
           have H := HA.out; clear HA
           simp only [impl_EarOk.j2] at H
           by_cases c38 : x56_17 = true
           ·subst c38
            rw [if_pos rfl] at H
            obtain rfl := Option.some.inj H
            go_wp2
            go_ret
            exact ⟨by first | rfl | (simp [errW_none, errW_some] <;> rfl) | (simp [*, errW_none, errW_some] <;> rfl), hbA_ HB.out⟩
           ·replace c38 := Bool.eq_false_iff.mpr c38
            subst c38
            rw [if_neg (show ¬ (false = true) by decide)] at H
            have H' := Aside0.mk H
            clear H
            go_wp2
            go_roundg kj17
            case measure => have := HJ1.out; have := HK2.out; have := HJ17.out; omega
            case rel => exact ⟨(wrap64 (x23_2 + 1)), (by first | rfl | (simp; done) | (simp [*]; done)), H', ⟨by have := HJ1.out; have := HK2.out; have := HJ17.out; omega⟩, ⟨by refine kb_ ?_; exact BK176.out⟩, ⟨hbA_ HB.out⟩⟩
        ·rw [if_neg c17] at H
         exact absurd H (by simp)
       ·rw [if_neg c16] at H
        exact absurd H (by simp)
      ·rw [if_neg c15] at H
       have c15b0 : decide (x23_2 < (l0_3.length : Int)) = false := decide_eq_false c15
       clear c15
       obtain rfl := Option.some.inj H
       go_wp2
       go_ret
       exact ⟨by first | rfl | (simp [errW_none, errW_some] <;> rfl) | (simp [*, errW_none, errW_some] <;> rfl), hbA_ HB.out⟩
theorem slices_Clip_byte_byte.calls (A0 : Option Addr) (c0 n0 : Nat) (w : World) (hc : n0 ≤ c0) : Calls Try.prog 102 #[.slice A0 n0 c0] w fun e w' => e = .returned (.slice A0 n0 n0) ∧ w' = w := by
  go_enter Try.func102, Try.ntmps102
  go_wp2
  go_ret
  exact ⟨rfl, rfl⟩
def impl_clone_byte.f (l0 : List Int) : Option (List Int) := if l0.length * 1 ≤ 140737488355328 then some l0 else none
theorem impl_clone_byte.calls (A0 : Option Addr) (c0 : Nat) (l0 : List Int) (r : List Int) (w : World) (hr0 : Kd.C (Kd.int .u8) w A0 l0.length l0) (hc0 : l0.length ≤ c0) (h : impl_clone_byte.f l0 = some r) :
    Calls Try.prog 79 #[.slice A0 l0.length c0] w fun e w' => ∃ v0_ : Value, e = .returned (v0_) ∧ Kd.R (Kd.int .u8) 5 w' w.heap.size (fun _ => True) v0_ r ∧ Below w.heap.size w w' := by
  obtain ⟨hle, rfl⟩ : l0.length * 1 ≤ 140737488355328 ∧ l0 = r := by
    unfold impl_clone_byte.f at h; split at h
    · exact ⟨by assumption, Option.some.inj h⟩
    · cases h
  have hm := hr0.2.1
  have HR := Aside0.mk hr0; clear hr0 h
  by_cases h0 : l0.length = 0
  · have hb : ((l0.length : Int) == 0) = true := by simp [h0]
    have HL : Aside0 (l0 = []) := ⟨List.eq_nil_of_length_eq_zero h0⟩
    clear h0
    go_enter Try.func79, Try.ntmps79
    go_wp2
    go_ret
    refine ⟨_, rfl, ?_, Below.refl _ _⟩
    rw [HL.out]; exact Kd.R_nil _ _ _ _ _
  · have hb : ((l0.length : Int) == 0) = false := by simp; intro hh; exact h0 (by simp [hh])
    clear h0
    go_enter Try.func79, Try.ntmps79
    go_wp2_with (first
      | ((with_reducible refine gate_dst (N := 7) rfl ?_); refine Kd.R_append_rows (Kd.int .u8) (Rr := (Kd.int .u8).K w) w.heap.size rfl _ _ 22 5 (.int .u8 0) 1 rfl Try.underlying22 info5 rfl (by decide) (by decide) (.slice none 0 0) [] l0 A0 l0.length c0 (fun _ => True) (fun _ => True) rfl rfl (Kd.R_nil _ _ _ _ _) HR.out (fun x cs h => h) (fun k _ => ⟨trivial, by simp [Value.ownBlock]⟩) (fun _ _ => trivial) (Below.refl _ _) (Nat.le_refl _) (by simpa using hle) ?_; intro v1 w1 ho hb1 hg hat; rw [List.nil_append] at ho; obtain ⟨A1, c1, hv1, hc1, _⟩ := Kd.R_reads ho; have HO := Aside0.mk ho; clear ho hat hg; have HB := Aside0.mk hb1; clear hb1; subst hv1)
      | (go_at_call 102; (with_reducible refine (slices_Clip_byte_byte.calls _ _ _ _ hc1).mono ?_); rintro e w' ⟨rfl, rfl⟩))
    go_ret
    exact ⟨_, rfl, Kd.R_clip HO.out (Nat.le_refl _) hc1, HB.out⟩
theorem impl_Early_108.calls (A0 : Option Addr) (c0 n0 : Nat) (w : World) (hc : n0 ≤ c0) : Calls Try.prog 108 #[.slice A0 n0 c0] w fun e w' => e = .returned (.slice A0 n0 n0) ∧ w' = w := by
  go_enter Try.func108, Try.ntmps108
  go_wp2
  go_ret
  exact ⟨rfl, rfl⟩
def impl_Early_101.f (l0 : List (S96)) : Option ((List (S96))) := if l0.length * 16 ≤ 140737488355328 then some l0 else none
theorem impl_Early_101.calls (A0 : Option Addr) (c0 : Nat) (l0 : List (S96)) (r : List (S96)) (w : World) (hr0 : Kd.C k96 w A0 l0.length l0) (hc0 : l0.length ≤ c0) (h : impl_Early_101.f l0 = some r) :
    Calls Try.prog 101 #[.slice A0 l0.length c0] w fun e w' => ∃ v0_ : Value, e = .returned (v0_) ∧ Kd.R k96 96 w' w.heap.size (fun _ => True) v0_ r ∧ Below w.heap.size w w' := by
  obtain ⟨hle, rfl⟩ : l0.length * 16 ≤ 140737488355328 ∧ l0 = r := by
    unfold impl_Early_101.f at h; split at h
    · exact ⟨by assumption, Option.some.inj h⟩
    · cases h
  have hm := hr0.2.1
  have HR := Aside0.mk hr0; clear hr0 h
  by_cases h0 : l0.length = 0
  · have hb : ((l0.length : Int) == 0) = true := by simp [h0]
    have HL : Aside0 (l0 = []) := ⟨List.eq_nil_of_length_eq_zero h0⟩
    clear h0
    go_enter Try.func101, Try.ntmps101
    go_wp2
    go_ret
    refine ⟨_, rfl, ?_, Below.refl _ _⟩
    rw [HL.out]; exact Kd.R_nil _ _ _ _ _
  · have hb : ((l0.length : Int) == 0) = false := by simp; intro hh; exact h0 (by simp [hh])
    clear h0
    go_enter Try.func101, Try.ntmps101
    go_wp2_with (first
      | ((with_reducible refine gate_dst (N := 7) rfl ?_); refine Kd.R_append_rows k96 (Rr := k96.K w) w.heap.size rfl _ _ 46 96 (.agg #[(.int .i64 0), (.int .u8 0)]) 16 rfl Try.underlying46 info96 rfl (by decide) (by decide) (.slice none 0 0) [] l0 A0 l0.length c0 (fun _ => True) (fun _ => True) rfl rfl (Kd.R_nil _ _ _ _ _) HR.out (fun x cs h => by rw [k96_open h]; exact k96_mkM _ _ _ _) (fun k _ => ⟨trivial, by simp [Value.ownBlock]⟩) (fun _ _ => trivial) (Below.refl _ _) (Nat.le_refl _) (by simpa using hle) ?_; intro v1 w1 ho hb1 hg hat; rw [List.nil_append] at ho; obtain ⟨A1, c1, hv1, hc1, _⟩ := Kd.R_reads ho; have HO := Aside0.mk ho; clear ho hat hg; have HB := Aside0.mk hb1; clear hb1; subst hv1)
      | (go_at_call 108; (with_reducible refine (impl_Early_108.calls _ _ _ _ hc1).mono ?_); rintro e w' ⟨rfl, rfl⟩))
    go_ret
    exact ⟨_, rfl, Kd.R_clip HO.out (Nat.le_refl _) hc1, HB.out⟩
def impl_Ear_copy.f (a0_0 : Int) (a0_1 : Int) (l0_2 : List Int) (l0_3 : List (S96)) : Option (Int × Int × List Int × (List (S96))) := (impl_clone_byte.f l0_2).bind fun t187 => ((impl_Early_101.f l0_3).bind fun t190 => (some (a0_0, a0_1, t187, t190)))
def impl_Ear_copy.T1 : Bool × List (List Nat × List Nat) := (true, [([], []), ([0], [0]), ([1], [1]), ([], []), ([3], [3]), ([4, 2], [4]), ([0, 1, 2, 3, 4], []), ([6, 2, 5, 0, 1, 2, 3, 4], [2, 6]), ([0, 1, 2, 3, 4, 5, 6, 7], []), ([8, 5, 7, 0, 1, 2, 3, 4, 5, 6, 7], [5, 8])])
def impl_Ear_copy.B1 : List Nat := [0, 1, 3, 0, 8, 31, 31, 127, 255, 511]
theorem impl_Ear_copy.tab1 : rtab .any (opsOf Try.f78 1) = impl_Ear_copy.T1 := by kernel_rfl
theorem impl_Ear_copy.bits1 : waitsOk impl_Ear_copy.T1.2 impl_Ear_copy.B1 = true := by kernel_rfl
set_option maxHeartbeats 8000000 in
set_option maxRecDepth 100000 in
theorem impl_Ear_copy.calls (a0_0 : Int) (a0_1 : Int) (A0_2 : Option Addr) (c0_2 : Nat) (l0_2 : List Int) (A0_3 : Option Addr) (c0_3 : Nat) (l0_3 : List (S96)) (r1 : Int) (r2 : Int) (r3 : List Int) (r4 : List (S96)) (w : World) (hr0_2 : Kd.C (Kd.int .u8) w A0_2 l0_2.length l0_2) (hc0_2 : l0_2.length ≤ c0_2) (hr0_3 : Kd.C k96 w A0_3 l0_3.length l0_3) (hc0_3 : l0_3.length ≤ c0_3) (h : impl_Ear_copy.f a0_0 a0_1 l0_2 l0_3 = some (r1, r2, r3, r4)) :
  Calls Try.prog 78 #[.agg #[.int .i64 a0_0, .int .i64 a0_1, .slice A0_2 l0_2.length c0_2, .slice A0_3 l0_3.length c0_3]] w fun e w' => ∃ v2_ v3_ : Value, e = .returned (.agg #[.int .i64 r1, .int .i64 r2, v2_, v3_]) ∧ Kd.R (Kd.int .u8) 5 w' w.heap.size (fun _ => True) v2_ r3 ∧ Kd.R k96 96 w' w.heap.size (fun _ => True) v3_ r4 ∧ Below w.heap.size w w' := by
 have hu48 := Try.underlying48; have HR0_2 := Aside0.mk hr0_2; have HC0_2 := Aside0.mk hc0_2; clear hr0_2 hc0_2; have HR0_3 := Aside0.mk hr0_3; have HC0_3 := Aside0.mk hc0_3; clear hr0_3 hc0_3
 have HB := Aside0.mk (Below.refl w.heap.size w)
 have H : ((impl_clone_byte.f l0_2).bind fun t187 => ((impl_Early_101.f l0_3).bind fun t190 => (some (a0_0, a0_1, t187, t190)))) = some (r1, r2, r3, r4) := h
 clear h
 replace H := Option.bind_eq_some_iff.mp H
 obtain ⟨t187, A20, H⟩ := H
 (try dsimp only at H)
 have A2 := Aside0.mk A20; clear A20
 replace H := Option.bind_eq_some_iff.mp H
 obtain ⟨t190, A30, H⟩ := H
 (try dsimp only at H)
 have A3 := Aside0.mk A30; clear A30
 simp only [Option.some.injEq, Prod.mk.injEq] at H
 obtain ⟨rfl, rfl, rfl, rfl⟩ := H
 go_enter Try.func78, Try.ntmps78
 try go_wp2_with (first | ((with_reducible refine gate_dst (N := 1) rfl ?_); refine box_ (N := 1) (cs := #[.int .i64 a0_0, .int .i64 a0_1, .slice A0_2 l0_2.length c0_2, .slice A0_3 l0_3.length c0_3]) (t := 48) (fun gb185 hg w4 hbox hb => ?_); have BK185 := Aside0.mk (hbox); have GW185 := ge_ hg HB; have GE185 := ge_ hg HB; replace HB := (bs_ HB hb); clear hb hbox hg) | ((with_reducible refine gate_dst (N := 2) rfl ?_); refine box_ (N := 2) (cs := #[.int .i64 0, .int .i64 0, .slice none 0 0, .slice none 0 0]) (t := 48) (fun gb186 hg w5 hbox hb => ?_); have BK186 := Aside0.mk (hbox); have GW186 := ge_ hg HB; have GE186 := ge_ hg HB; replace HB := (bs_ HB hb); have NB185_186 := nl_ hg BK185; have NB186_185 := ng_ hg BK185; replace BK185 := (bbA_ BK185 hb); clear hb hbox hg))
 replace BK185 := Aside0.mk (blk_drew BK185.out); replace BK186 := Aside0.mk (blk_drew BK186.out); replace HB := (bd_ HB)
 refine start_ (n := 10) (S := fun w' => w'.cell? ⟨gb185, 0, none⟩ = some (.int .i64 a0_0) ∧ w'.cell? ⟨gb185, 1, none⟩ = some (.int .i64 a0_1) ∧ w'.cell? ⟨gb185, 2, none⟩ = some (.slice A0_2 l0_2.length c0_2) ∧ w'.cell? ⟨gb185, 3, none⟩ = some (.slice A0_3 l0_3.length c0_3)) (ds := [7, 9]) #[false, false, false, false, false, false, false, false, false, false] (by kernel_rfl) rfl rfl (cz4 BK185.out) (fun hHeld => ?_); refine with_tabW impl_Ear_copy.tab1 impl_Ear_copy.bits1 (fun HT_ HW_ => ?_)
 generalize w5.drew = w6 at BK185 BK186 HB hHeld ⊢
 refine pu_ (i := 0) (N := some 3) HT_ ?_; refine pu_ (i := 3) (N := some 6) HT_ ?_; refine tk_ (i := 1) (N := some 4) HT_ HW_ hHeld ?_; refine tk_ (i := 4) (N := some 7) HT_ HW_ hHeld ?_
 refine on_ (i := 2) (N := some 5) HT_ (fun K hK => ?_)
 refine goes_ Try.func79 (by kernel_rfl) rfl #[.slice A0_2 l0_2.length c0_2] (by rfl) rfl rfl ar_ ?_
 with_reducible refine (impl_clone_byte.calls _ _ l0_2 t187 _ ?side1 ?side2 A2.out).mono ?_
 (case side1 => exact kC_ (Kd.C_below HR0_2.out HB.out))
 (case side2 => exact HC0_2.out)
 rintro e w7 ⟨v188, rfl, ho0, hb⟩
 refine ⟨_, rfl, ?_⟩
 have HO189 := Aside0.mk (Kd.R_lower ho0 (below_size (hbA_ HB.out))); replace BK185 := (bbA_ BK185 hb); replace BK186 := (bbA_ BK186 hb); replace HB := (bs_ HB hb); (try clear hb); (try clear hb2); (try clear hk); (try clear hi); (try clear ho0)
 refine hK.out _ _ (cz4 BK185.out) (fun hHeld => ?_)
 clear hK K; refine nm_ 5 ?_; refine pu_ (i := 6) (N := some 9) HT_ ?_
 refine on_ (i := 5) (N := some 8) HT_ (fun K hK => ?_)
 refine goes_ Try.func101 (by kernel_rfl) rfl #[.slice A0_3 l0_3.length c0_3] (by rfl) rfl rfl ar_ ?_
 with_reducible refine (impl_Early_101.calls _ _ l0_3 t190 _ ?side1 ?side2 A3.out).mono ?_
 (case side1 => exact kC_ (Kd.C_below HR0_3.out HB.out))
 (case side2 => exact HC0_3.out)
 rintro e w8 ⟨v191, rfl, ho0, hb⟩
 refine ⟨_, rfl, ?_⟩
 replace HO189 := Aside0.mk (Kd.R_below (kR_ HO189.out) hb); have HO192 := Aside0.mk (Kd.R_lower ho0 (below_size (hbA_ HB.out))); replace BK185 := (bbA_ BK185 hb); replace BK186 := (bbA_ BK186 hb); replace HB := (bs_ HB hb); (try clear hb); (try clear hb2); (try clear hk); (try clear hi); (try clear ho0)
 obtain ⟨Ao9, co9, eo9⟩ := Kd.R_slice HO189.out
 (first | subst eo9 | (injection eo9 with f1_ f2_ f3_; have f4_ := f1_.symm; have f5_ := f3_.symm; clear f1_ f2_ f3_; subst f4_; subst f5_))
 obtain ⟨Ao11, co11, eo11⟩ := Kd.R_slice HO192.out
 (first | subst eo11 | (injection eo11 with f1_ f2_ f3_; have f4_ := f1_.symm; have f5_ := f3_.symm; clear f1_ f2_ f3_; subst f4_; subst f5_))
 refine hK.out _ _ (cz4 BK185.out) (fun hHeld => ?_)
 clear hK K; refine nm_ 8 ?_
 refine last_ (i := 7) (N := none) #[true, true, true, true, true, true, true, true, false, false] rfl rfl (one_of HT_.out (by kernel_rfl)) (by decide) (fun K hK => ?_)
 have hs10 : w8.cell? ⟨gb185, 2, none⟩ = some (.slice A0_2 l0_2.length c0_2) := bc_ BK185 2
 have hfs10 := blk_frozen BK185.out 2
 have hns10_1 := NB186_185.out; have hms10_1 := NB185_186.out
 refine skip_ (w1 := ?_) (by rfl) rfl ?_ ?_
 rotate_left
 ·go_simp
  rfl
 refine hK.out _ _ ?_
 clear hK K; refine pu_ (i := 8) (N := some 10) HT_ ?_
 refine last_ (i := 9) (N := none) #[true, true, true, true, true, true, true, true, true, true] rfl rfl (one_of HT_.out (by kernel_rfl)) (by decide) (fun K hK => ?_)
 have hs12 : w8.cell? ⟨gb185, 3, none⟩ = some (.slice A0_3 l0_3.length c0_3) := bc_ BK185 3
 have hfs12 := blk_frozen BK185.out 3
 have hns12_1 := NB186_185.out; have hms12_1 := NB185_186.out
 refine skip_ (w1 := ?_) (by rfl) rfl ?_ ?_
 rotate_left
 ·go_simp
  rfl
 refine hK.out _ _ ?_
 clear hK K
 refine done_ (done_of HT_.out (by kernel_rfl)) ?_
 have hnb13 := NB185_186.out; have hnc13 := NB186_185.out; have Z14 := zz4 BK185; have Z15 := zz4 BK186
 try go_wp2
 refine bodyPost_ret (results_cell_row rfl _ _ gb186 48 #[.int .i64 a0_0, .int .i64 a0_1, .slice Ao9 t187.length co9, .slice Ao11 t190.length co11] (0, 0) _ rfl (by refine kb_ ?_; refine pz4 (cs := #[.int .i64 0, .int .i64 0, .slice none 0 0, .slice none 0 0]) ?_; exact kf_ BK186.out) Try.underlying48 rfl (by kernel_rfl)) rfl ?_
 exact ⟨_, _, by first | rfl | (simp [errW_none, errW_some] <;> rfl) | (simp [*, errW_none, errW_some] <;> rfl), by refine kR_ ?_; exact rfm_ ((Kd.R_far (p := ⟨gb185, 3, none⟩) (Kd.R_far (p := ⟨gb185, 2, none⟩) (Kd.R_types (Kd.R_types HO189.out BK185.out (by decide)) BK186.out (by decide)) (fun _ hk => hk.1.2) (.slice Ao9 t187.length co9)) (fun _ hk => hk.1.2) (.slice Ao11 t190.length co11))) (fun _ hk => trivial), by refine kR_ ?_; exact rfm_ ((Kd.R_far (p := ⟨gb185, 3, none⟩) (Kd.R_far (p := ⟨gb185, 2, none⟩) (Kd.R_types (Kd.R_types HO192.out BK185.out (by decide)) BK186.out (by decide)) (fun _ hk => hk.1.2) (.slice Ao9 t187.length co9)) (fun _ hk => hk.1.2) (.slice Ao11 t190.length co11))) (fun _ hk => trivial), hbA_ HB.out⟩
def impl_Ear_hear_1.f (a0_0 : Int) (a0_1 : Int) (a1 : Int) : Option (Int) := some (wrap64 (a0_0 - a1))
set_option maxHeartbeats 8000000 in
set_option maxRecDepth 100000 in
theorem impl_Ear_hear_1.calls (a0_0 : Int) (a0_1 : Int) (a1 : Int) (r : Int) (w : World) (h : impl_Ear_hear_1.f a0_0 a0_1 a1 = some r) :
  Calls Try.prog 97 #[.agg #[.int .i64 a0_0, .int .u8 a0_1], .int .i64 a1] w fun e w' => e = .returned (.int .i64 r) ∧ Below w.heap.size w w' := by
 have hu96 := Try.underlying96
 have HB := Aside0.mk (Below.refl w.heap.size w)
 have H : (some (wrap64 (a0_0 - a1))) = some r := h
 clear h
 obtain rfl := Option.some.inj H
 go_enter Try.func97, Try.ntmps97
 go_wp2_with (first | ((with_reducible refine gate_dst (N := 2) rfl ?_); refine box_ (N := 2) (cs := #[.int .i64 a0_0, .int .u8 a0_1]) (t := 96) (fun gb193 hg w3 hbox hb => ?_); have BK193 := Aside0.mk (hbox); have GW193 := ge_ hg HB; have GE193 := ge_ hg HB; replace HB := (bs_ HB hb); clear hb hbox hg; have Z4 := zz2 BK193))
 go_ret
 exact ⟨by first | rfl | (simp [errW_none, errW_some] <;> rfl) | (simp [*, errW_none, errW_some] <;> rfl), hbA_ HB.out⟩
def impl_Early_int.l0 : Nat → List (S96) → Int → Int → Int → Int → Option (Int × Bool)
 | 0, _, _, _, _, _ => none
 | k + 1, x0, x1, x8, x9, x10 => if x9 < x10 then (if 0 ≤ (wrap64 ((IntKind.u64.wrap (wrap64 (x9 + x10))) / 2)) then (if (wrap64 ((IntKind.u64.wrap (wrap64 (x9 + x10))) / 2)) < (x0.length : Int) then ((impl_Ear_hear_1.f ((rd_T96 x0 (wrap64 ((IntKind.u64.wrap (wrap64 (x9 + x10))) / 2))).f0) ((rd_T96 x0 (wrap64 ((IntKind.u64.wrap (wrap64 (x9 + x10))) / 2))).f1) x1).bind fun t197 => (if t197 < 0 then (impl_Early_int.l0 k x0 x1 x8 (wrap64 ((wrap64 ((IntKind.u64.wrap (wrap64 (x9 + x10))) / 2)) + 1)) x10) else (impl_Early_int.l0 k x0 x1 x8 x9 (wrap64 ((IntKind.u64.wrap (wrap64 (x9 + x10))) / 2))))) else (none)) else (none)) else (if x9 < x8 then (if 0 ≤ x9 then (if x9 < (x0.length : Int) then ((impl_Ear_hear_1.f ((rd_T96 x0 x9).f0) ((rd_T96 x0 x9).f1) x1).bind fun t195 => (some (x9, (t195 == 0)))) else (none)) else (none)) else (some (x9, false)))
def impl_Early_int.f (k : Nat) (l0 : List (S96)) (a1 : Int) : Option (Int × Bool) := impl_Early_int.l0 k l0 a1 (l0.length : Int) 0 (l0.length : Int)
theorem impl_Early_int.mono_l : ∀ k, (∀ y0 y1 y2 y3 y4, LeO (impl_Early_int.l0 k y0 y1 y2 y3 y4) (impl_Early_int.l0 (k + 1) y0 y1 y2 y3 y4))
 | 0 => fun _ _ _ _ _ r h => by simp [impl_Early_int.l0] at h
 | k + 1 => by
  have ih0 := impl_Early_int.mono_l k
  ·intro y0 y1 y2 y3 y4
   unfold impl_Early_int.l0
   repeat' first | (with_reducible first | apply ih0 | exact LeO.refl _ | exact LeO.none _ | refine LeO.ite ?_ ?_ | refine LeO.bind ?_ fun _ => ?_) | apply ih0 | exact LeO.none _ | refine LeO.ite ?_ ?_ | refine LeO.bind ?_ fun _ => ?_
theorem impl_Early_int.mono : ∀ a0 a1 k, LeO (impl_Early_int.f k a0 a1) (impl_Early_int.f (k + 1) a0 a1) := by
 intro a0 a1 k
 have ih0 := impl_Early_int.mono_l k
 unfold impl_Early_int.f
 repeat' first | (with_reducible first | apply ih0 | exact LeO.refl _ | exact LeO.none _ | refine LeO.ite ?_ ?_ | refine LeO.bind ?_ fun _ => ?_) | apply ih0 | exact LeO.none _ | refine LeO.ite ?_ ?_ | refine LeO.bind ?_ fun _ => ?_
set_option maxHeartbeats 8000000 in
set_option maxRecDepth 100000 in
theorem impl_Early_int.calls (k : Nat) (A0 : Option Addr) (c0 : Nat) (l0 : List (S96)) (a1 : Int) (r1 : Int) (r2 : Bool) (w : World) (hr0 : Kd.C k96 w A0 l0.length l0) (hc0 : l0.length ≤ c0) (h : impl_Early_int.f k l0 a1 = some (r1, r2)) :
  Calls Try.prog 96 #[.slice A0 l0.length c0, .int .i64 a1, .func (.func 97) #[] #[]] w fun e w' => e = .returned (.tuple #[.int .i64 r1, .bool r2]) ∧ Below w.heap.size w w' := by
 have hu96 := Try.underlying96; have HR0 := Aside0.mk hr0; have HC0 := Aside0.mk hc0; clear hr0 hc0
 have HB := Aside0.mk (Below.refl w.heap.size w)
 have H : (impl_Early_int.l0 k l0 a1 (l0.length : Int) 0 (l0.length : Int)) = some (r1, r2) := h
 clear h
 have H' := Aside0.mk H
 clear H
 go_enter Try.func96, Try.ntmps96
 go_wp2
 go_loopg [9, 10] k (fun kq v9 v10 w' => ∃ (x9_1 : Int) (x10_1 : Int), v9 = .int .i64 x9_1 ∧ v10 = .int .i64 x10_1 ∧ Aside0 (impl_Early_int.l0 kq l0 a1 (l0.length : Int) x9_1 x10_1 = some (r1, r2)) ∧ Aside0 (kq ≤ k) ∧ Aside0 (Below w.heap.size w w'))
 case atStart => exact ⟨(0), ((l0.length : Int)), (by first | rfl | (simp; done) | (simp [*]; done)), (by first | rfl | (simp; done) | (simp [*]; done)), H', ⟨Nat.le_refl _⟩, ⟨hbA_ HB.out⟩⟩
 case round =>
  clear H'; (try clear p2)
  obtain ⟨x9_1, x10_1, rfl, rfl, HA, HK1, HB⟩ := hrel
  cases gk with
  | zero => exact absurd HA.out (by simp [impl_Early_int.l0])
  | succ k1 =>
   have H := HA.out; clear HA
   simp only [impl_Early_int.l0] at H
   by_cases c3 : x9_1 < x10_1
   ·rw [if_pos c3] at H
    have c3b0 : decide (x9_1 < x10_1) = true := decide_eq_true c3
    clear c3
    obtain ⟨ji4, hji4⟩ : ∃ j_ : Int, (wrap64 ((IntKind.u64.wrap (wrap64 (x9_1 + x10_1))) / 2)) = j_ := ⟨_, rfl⟩
    (first | rw [hji4] at H | simp only [hji4] at H)
    have hji4w : (IntKind.i64.wrap ((IntKind.u64.wrap (wrap64 (x9_1 + x10_1))) / 2)) = ji4 := (i64_w _).trans hji4
    by_cases c5 : 0 ≤ (ji4)
    ·rw [if_pos c5] at H
     have c5b0 : decide (0 ≤ (ji4)) = true := decide_eq_true c5
     clear c5
     by_cases c6 : (ji4) < (l0.length : Int)
     ·rw [if_pos c6] at H
      have c6b0 : decide ((ji4) < (l0.length : Int)) = true := decide_eq_true c6
      clear c6
      replace H := Option.bind_eq_some_iff.mp H
      obtain ⟨t197, A70, H⟩ := H
      (try dsimp only at H)
      have A7 := Aside0.mk A70; clear A70
      by_cases c8 : t197 < 0
      ·rw [if_pos c8] at H
       have c8b0 : decide (t197 < 0) = true := decide_eq_true c8
       clear c8
       have H' := Aside0.mk H
       clear H
       have p196 : 0 ≤ ((ji4) : Int) := of_decide_eq_true (by first | (with_reducible assumption) | assumption)
       have q196 : (ji4) < (l0.length : Int) := of_decide_eq_true (by first | (with_reducible assumption) | assumption)
       obtain ⟨ad196, e196, hx196_0, hx196_1⟩ := at_T96 HR0.out (ji4) p196 q196
       cases e196
       replace hx196_0 := cc_ HB hx196_0
       replace hx196_1 := cc_ HB hx196_1
       replace p196 := eq_true p196
       replace q196 := eq_true q196
       go_wp2_with (first | ((with_reducible refine gateT_ (u := 24) rfl ?_); refine goesT_ (u := 24) (some 30) rfl rfl Try.func97 (by kernel_rfl) rfl #[.agg #[.int .i64 ((rd_T96 l0 (ji4)).f0), .int .u8 ((rd_T96 l0 (ji4)).f1)], .int .i64 a1] rfl rfl (by (try simp only [List.map_toArray, List.map_cons, List.map_nil]); first | done | (simp only [hji4]; rfl) | rfl | (simp only [List.length_drop, List.length_take]; rfl)) ?_; (with_reducible refine (impl_Ear_hear_1.calls ((rd_T96 l0 (ji4)).f0) ((rd_T96 l0 (ji4)).f1) a1 t197 _ A7.out).mono ?_); rintro e w9 ⟨rfl, hb⟩; refine ⟨_, rfl, ?_⟩; replace HB := (bs_ HB hb); (try clear hb); (try clear hb2); (try clear hk); (try clear hi)))
       go_roundg k1
       case measure => have := HK1.out; omega
       case rel => exact ⟨(wrap64 ((ji4) + 1)), (x10_1), (by first | rfl | (simp; done) | (simp only [← hji4] <;> (first | rfl | simp)) | (simp [*]; done)), (by first | rfl | (simp; done) | (simp [*]; done)), H', ⟨by have := HK1.out; omega⟩, ⟨hbA_ HB.out⟩⟩
      ·rw [if_neg c8] at H
       have c8b0 : decide (t197 < 0) = false := decide_eq_false c8
       clear c8
       have H' := Aside0.mk H
       clear H
       have p196 : 0 ≤ ((ji4) : Int) := of_decide_eq_true (by first | (with_reducible assumption) | assumption)
       have q196 : (ji4) < (l0.length : Int) := of_decide_eq_true (by first | (with_reducible assumption) | assumption)
       obtain ⟨ad196, e196, hx196_0, hx196_1⟩ := at_T96 HR0.out (ji4) p196 q196
       cases e196
       replace hx196_0 := cc_ HB hx196_0
       replace hx196_1 := cc_ HB hx196_1
       replace p196 := eq_true p196
       replace q196 := eq_true q196
       go_wp2_with (first | ((with_reducible refine gateT_ (u := 24) rfl ?_); refine goesT_ (u := 24) (some 30) rfl rfl Try.func97 (by kernel_rfl) rfl #[.agg #[.int .i64 ((rd_T96 l0 (ji4)).f0), .int .u8 ((rd_T96 l0 (ji4)).f1)], .int .i64 a1] rfl rfl (by (try simp only [List.map_toArray, List.map_cons, List.map_nil]); first | done | (simp only [hji4]; rfl) | rfl | (simp only [List.length_drop, List.length_take]; rfl)) ?_; (with_reducible refine (impl_Ear_hear_1.calls ((rd_T96 l0 (ji4)).f0) ((rd_T96 l0 (ji4)).f1) a1 t197 _ A7.out).mono ?_); rintro e w10 ⟨rfl, hb⟩; refine ⟨_, rfl, ?_⟩; replace HB := (bs_ HB hb); (try clear hb); (try clear hb2); (try clear hk); (try clear hi)))
       go_roundg k1
       case measure => have := HK1.out; omega
       case rel => exact ⟨(x9_1), (ji4), (by first | rfl | (simp; done) | (simp [*]; done)), (by first | rfl | (simp; done) | (simp only [← hji4] <;> (first | rfl | simp)) | (simp [*]; done)), H', ⟨by have := HK1.out; omega⟩, ⟨hbA_ HB.out⟩⟩
     ·rw [if_neg c6] at H
      exact absurd H (by simp)
    ·rw [if_neg c5] at H
     exact absurd H (by simp)
   ·rw [if_neg c3] at H
    have c3b0 : decide (x9_1 < x10_1) = false := decide_eq_false c3
    clear c3
    by_cases c11 : x9_1 < (l0.length : Int)
    ·rw [if_pos c11] at H
     have c11b0 : decide (x9_1 < (l0.length : Int)) = true := decide_eq_true c11
     clear c11
     by_cases c12 : 0 ≤ x9_1
     ·rw [if_pos c12] at H
      have c12b0 : decide (0 ≤ x9_1) = true := decide_eq_true c12
      clear c12
      by_cases c13 : x9_1 < (l0.length : Int)
      ·rw [if_pos c13] at H
       have c13b0 : decide (x9_1 < (l0.length : Int)) = true := decide_eq_true c13
       clear c13
       replace H := Option.bind_eq_some_iff.mp H
       obtain ⟨t195, A140, H⟩ := H
       (try dsimp only at H)
       have A14 := Aside0.mk A140; clear A140
       simp only [Option.some.injEq, Prod.mk.injEq] at H
       obtain ⟨rfl, rfl⟩ := H
       have p194 : 0 ≤ (x9_1 : Int) := of_decide_eq_true (by first | (with_reducible assumption) | assumption)
       have q194 : x9_1 < (l0.length : Int) := of_decide_eq_true (by first | (with_reducible assumption) | assumption)
       obtain ⟨ad194, e194, hx194_0, hx194_1⟩ := at_T96 HR0.out x9_1 p194 q194
       cases e194
       replace hx194_0 := cc_ HB hx194_0
       replace hx194_1 := cc_ HB hx194_1
       replace p194 := eq_true p194
       replace q194 := eq_true q194
       go_wp2_with (first | (go_at_call 97; (with_reducible refine (impl_Ear_hear_1.calls ((rd_T96 l0 x9_1).f0) ((rd_T96 l0 x9_1).f1) a1 t195 _ A14.out).mono ?_); rintro e w15 ⟨rfl, hb⟩; replace HB := (bs_ HB hb); (try clear hb); (try clear hb2); (try clear hk); (try clear hi)))
       go_ret2
       exact ⟨by first | rfl | (simp [errW_none, errW_some] <;> rfl) | (simp [*, errW_none, errW_some] <;> rfl), hbA_ HB.out⟩
      ·rw [if_neg c13] at H
       exact absurd H (by simp)
     ·rw [if_neg c12] at H
      exact absurd H (by simp)
    ·rw [if_neg c11] at H
     have c11b0 : decide (x9_1 < (l0.length : Int)) = false := decide_eq_false c11
     clear c11
     simp only [Option.some.injEq, Prod.mk.injEq] at H
     obtain ⟨rfl, rfl⟩ := H
     go_wp2
     go_ret2
     exact ⟨by first | rfl | (simp [errW_none, errW_some] <;> rfl) | (simp [*, errW_none, errW_some] <;> rfl), hbA_ HB.out⟩
end Go.Proofs.Ytbhofhdmbbipgaa.PFnEarHear
